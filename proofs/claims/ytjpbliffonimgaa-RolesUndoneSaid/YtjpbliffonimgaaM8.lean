import Derived.Ground.SlmcProg
import Derived.JoinedOf
import Derived.Laws.IdiomArrays
import Derived.Shelf.Lay
import Derived.Shelf.SlMaps.Clone
import Derived.Test.YtjpbliffonimgaaProg
import Derived.Test.YtjpbliffonimgaaRows
import Derived.Test.YtjpbliffonimgaaM5
import Derived.Test.YtjpbliffonimgaaM7
set_option linter.unusedSimpArgs false
set_option linter.unnecessarySimpa false
set_option linter.unusedSectionVars false
namespace GP
open Go Go.Proofs
set_option maxRecDepth 100000
variable [HasG Try.prog]
variable {H B : Hp} {p oe om w : Nat} {S : List Nat} {es ms : List Ed} {eD mD : D} {ents : List (D × D × Nat)} {clk : Nat} {ks : List Nm} {c : Sb → Sb → Int} {r : Sb → Nat}
set_option maxHeartbeats 4000000 in
theorem give_snd {s j : Sb} {T : Tk} {Q : Post} (h : RosS H p S es ms) (hs : s.length ≤ 1000) (hj : j.length ≤ 1000)
    (k : ∀ B U, Stp H B p S es (if errR es ms 2 s j = 0 then ms ++ [(s, j)] else ms) → Q (.int .i64 (errR es ms 2 s j)) B (T ++ U)) :
    Snd Try.prog 75 [.ptr p 0, .agg [.str s, .str j]] H T Q := by
  have hr := h
  obtain ⟨hS, oe, om, w, k1, k2, k3, k4, eD, mD, ents, clk, ks, c, r, h⟩ := h
  have hM : MonoH [(112, φCon)] := .cons φCon_mono .nil
  refine call_of fn75 (by simp) (W_mono (X := XG Try.prog [67] [(68, φ68)] [(112, φCon)] [] []) (XG.X (.cons ok68 .nil) (.cons ok112 .nil) .nil .nil) (fun _ _ h => h) ?_)
  have hE1 : Ext H (H ++ [Ob.row [.str s, .str j]]) := Ext.of _ _
  have g0 : rdAt (H ++ [Ob.row [.str s, .str j]]) (.ptr H.length 0) = some [.str s, .str j] := by simp [rdAt]
  have g1 : rdAt (H ++ [Ob.row [.str s, .str j]]) (.ptr H.length 1) = some [.str j] := by simp [rdAt]
  have h1 := h.ext hE1
  have gp1 : rdAt (H ++ [Ob.row [.str s, .str j]]) (.ptr p 1) = some [mD, .mp w] := by simp only [rdAt, h1.row]; rfl
  have her := edsM_er h.m.eds
  have p1 := pN hs hj
  have p2 := pC h1.m.eds (by have := h.ml; omega) s j
  have kk := k
  rw [errR_2] at k
  rcases tf' (nmB s && nmB j) with c1 | c1
  · rw [c1] at p1 k
    simp +contextual (maxSteps := 10000000) only [c75, XG_eq, g0, g1, p1, pcallG hM, lookH_cons, lookH_nil, orK_n, nilc_ptr, ld, List.head?_cons, go_sem, W_draw]
    exact k _ _ (hr.stay hE1)
  rw [c1] at p1 k
  simp only [if_true] at k
  rcases tf (ms.contains (s, j)) with c2 | c2
  · rw [c2] at p2 k
    simp +contextual (maxSteps := 10000000) only [c75, XG_eq, g0, g1, gp1, p1, p2, her, pcallG hM, lookH_cons, lookH_nil, orK_n, nilc_ptr, ld, List.head?_cons, go_sem, W_draw]
    exact k _ _ (hr.stay hE1)
  rw [c2] at p2 k
  simp only [Bool.false_eq_true, if_false] at k
  simp +contextual (maxSteps := 10000000) only [c75, XG_eq, g0, g1, gp1, p1, p2, her, pcallG hM, lookH_cons, lookH_nil, orK_n, nilc_ptr, ld, List.head?_cons, go_sem, W_draw]
  obtain ⟨H1, hH1⟩ : ∃ B, H ++ [Ob.row [.str s, .str j]] = B := ⟨_, rfl⟩
  have hH1l : H.length < H1.length := by rw [← hH1]; simp
  rw [hH1] at hE1 g0 h1 gp1 p2 ⊢
  have hne : n3 [j] es ms ≠ [] := by simp [n3]
  refine snd_er (by rfl) (names_snd (more := [j]) h1.row h1.e.eds h1.m.eds (by have := h.el; omega) (by have := h.ml; omega) (by simp) (fun e => absurd e hne) fun _ L U o cap X ho hor => ?_)
  have hE : Ext H (H1 ++ L) := hE1.trans (Ext.of _ _)
  have g0' : rdAt (H1 ++ L) (.ptr H.length 0) = some [.str s, .str j] := by
    simp only [rdAt] at g0 ⊢
    rw [List.getElem?_append_left (by omega)]; exact g0
  obtain ⟨B, hB⟩ : ∃ B, H1 ++ L = B := ⟨_, rfl⟩
  rw [hB] at hor hE g0' ⊢
  have h2 := h.ext hE
  have gq1 : rdAt B (.ptr p 1) = some [mD, .mp w] := by simp [rdAt, h2.row]
  have hcr := cntR_names es ms [j]
  have q4 : decide (((namesS (n3 [j] es ms)).length : Int) > 24) = decide (24 < cntR es ms [j]) := by
    rw [hcr]; rw [Bool.eq_iff_iff, decide_eq_true_eq, decide_eq_true_eq]; omega
  have q5 : decide ((ms.length : Int) ≥ 96) = decide (96 ≤ ms.length) := by
    rw [Bool.eq_iff_iff, decide_eq_true_eq, decide_eq_true_eq]; omega
  have q6 := edsM_len h2.m.eds
  rcases tf (decide (24 < cntR es ms [j])) with c4 | c4
  · rw [c4] at q4 k
    simp +contextual (maxSteps := 10000000) only [g0', gq1, q4, nilc_ptr, ld, List.head?_cons, go_sem, W_draw]
    exact k _ _ (hr.stay hE)
  rw [c4] at q4 k
  rcases tf (decide (96 ≤ ms.length)) with c5 | c5
  · rw [c5] at q5 k
    simp +contextual (maxSteps := 10000000) only [g0', gq1, q4, q5, q6, nilc_ptr, ld, List.head?_cons, go_sem, W_draw]
    exact k _ _ (hr.stay hE)
  rw [c5] at q5 k
  have hml : ms.length < 96 := by simpa using c5
  simp +contextual (maxSteps := 10000000) only [g0', gq1, q4, q5, q6, nilc_ptr, ld, List.head?_cons, go_sem, W_draw]
  refine appE h2.m (s, j) (by omega) fun B3 om' d' hd hdn ho' hF => ?_
  obtain ⟨l1, l2, l3, l4, l5⟩ := h2.lts
  have hom' : om' ≠ p ∧ om' ≠ w := by
    rcases ho' with ⟨rfl, hn⟩ | rfl
    · exact ⟨(l5 hn).2.1, (l5 hn).2.2⟩
    · exact ⟨by omega, by omega⟩
  have nin : ∀ x, x < B.length → (mD ≠ .nils → x ≠ om) → B3[x]? = B[x]? := fun x hx hn => hF.2 x hx fun hm => by
    split at hm
    · simp at hm
    · rename_i hb
      rw [List.mem_singleton] at hm
      exact hn (by rintro rfl; exact hb rfl) hm
  have mp3 : B3[p]? = some (.row [eD, mD, .mp w]) := by rw [nin p l1 fun hn => Ne.symm (l5 hn).2.1]; exact h2.row
  have mw3 : B3[w]? = some (.map ents clk) := by rw [nin w l2 fun hn => Ne.symm (l5 hn).2.2]; exact h2.mp
  have lp3 := lt_get mp3
  obtain ⟨o1, o2⟩ := hd.cell hdn
  simp +contextual (maxSteps := 10000000) only [storeK_E mp3, o1, o2, List.take_succ_cons, List.take_zero, List.nil_append, List.drop_succ_cons, List.drop_zero, go_sem, W_draw]
  have e0 : errR es ms 2 s j = 0 := by rw [errR_2, c1, c2, c4, c5]; rfl
  rw [e0, if_pos rfl] at kk
  refine kk _ _ (RosS.make (oe := oe) (om := om') (eD := eD) (mD := d') (w := w) (r := r) { row := ?_, e := h2.e.mono fun hn => ?_, m := hd.mono fun _ => ?_, ne := ?_, mp := ?_, ks := h.ks, cnt := h.cnt, val := h.val, en := h.en, mn := ?_, eok := h.eok, mok := fun x hx => ?_, el := h.el, ml := by simp; omega } ⟨?_, fun x hx hn => ?_⟩ k1 k4 (fun _ => .inl k2) (fun _ => ?_) hS)
  · simp [lp3]
  · rw [List.getElem?_set_ne (Ne.symm (l4 hn).2.1)]
    refine nin oe (l4 hn).1 fun he => ?_
    rcases h.ne with h' | h' | h'
    · exact absurd h' hn
    · exact absurd h' he
    · exact h'
  · rw [List.getElem?_set_ne (Ne.symm hom'.1)]
  · by_cases hn : eD = .nils
    · exact .inl hn
    · rcases ho' with ⟨rfl, hm⟩ | rfl
      · rcases h.ne with h' | h' | h'
        · exact .inl h'
        · exact absurd h' hm
        · exact .inr (.inr h')
      · exact .inr (.inr (by have := (l4 hn).1; omega))
  · rw [List.getElem?_set_ne l3]; exact mw3
  · refine List.nodup_append.2 ⟨h.mn, by simp, fun x hx y hy e => ?_⟩
    rw [List.mem_singleton] at hy
    subst hy; subst e
    rw [List.contains_iff_mem.2 hx] at c2; cases c2
  · rcases List.mem_append.1 hx with hx | hx
    · exact h.mok x hx
    · rw [List.mem_singleton] at hx; subst hx
      simpa [Bool.and_eq_true] using c1
  · have := hE.ln; have := hF.1; simp; omega
  · have lh := hE.ln
    rw [List.getElem?_set_ne (fun e => hn (by rw [← e]; exact k1)), nin x (by omega) (fun _ e => hn (by rw [e]; exact k3))]
    obtain ⟨Y, hY⟩ := hE
    rw [hY, List.getElem?_append_left hx]
  · rcases ho' with ⟨rfl, _⟩ | rfl
    · exact .inl k3
    · exact .inr (by have := hE.ln; omega)
set_option maxHeartbeats 4000000 in
theorem take_snd {s j : Sb} {T : Tk} {Q : Post} (h : RosS H p S es ms)
    (k : ∀ B U, Stp H B p S es (if errR es ms 3 s j = 0 then ms.erase (s, j) else ms) → Q (.int .i64 (errR es ms 3 s j)) B (T ++ U)) :
    Snd Try.prog 76 [.ptr p 0, .agg [.str s, .str j]] H T Q := by
  have hr := h
  obtain ⟨hS, oe, om, w, k1, k2, k3, k4, eD, mD, ents, clk, ks, c, r, h⟩ := h
  have hM : MonoH [(113, φIdx)] := .cons φIdx_mono .nil
  refine call_of fn76 (by simp) (W_mono (X := XG Try.prog [114] [] [(113, φIdx)] [] []) (XG.X .nil (.cons ok113 .nil) .nil .nil) (fun _ _ h => h) ?_)
  have hE : Ext H (H ++ [Ob.row [.str s, .str j]]) := Ext.of _ _
  have g0 : rdAt (H ++ [Ob.row [.str s, .str j]]) (.ptr H.length 0) = some [.str s, .str j] := by simp [rdAt]
  have h2 := h.ext hE
  have gp1 : rdAt (H ++ [Ob.row [.str s, .str j]]) (.ptr p 1) = some [mD, .mp w] := by simp only [rdAt, h2.row]; rfl
  have her := edsM_er h.m.eds
  have hml := h.ml
  have p2 := pI h2.m.eds (by omega) s j
  have kk := k
  rw [errR_3] at k
  rcases tf' (ms.contains (s, j)) with c1 | c1
  · have e1 : idxE ms (s, j) = -1 := by unfold idxE; rw [c1]; rfl
    rw [e1] at p2
    rw [c1] at k
    simp +contextual (maxSteps := 10000000) only [c76, XG_eq, g0, gp1, p2, her, pcallG hM, lookH_cons, lookH_nil, orK_n, nilc_ptr, ld, List.head?_cons, go_sem, W_draw]
    rw [← List.append_nil T]
    exact k _ [] (hr.stay hE)
  obtain ⟨i, hi, e1, hat, her2⟩ := idx_in c1
  rw [e1] at p2
  have d1 : decide ((i : Int) < 0) = false := by simp
  have hmne : mD ≠ .nils := by
    rintro rfl
    rcases h.m with ⟨_, h'⟩ | ⟨_, _, h', _⟩
    · rw [h'] at hi; simp at hi
    · cases h'
  obtain ⟨H1, hH1⟩ : ∃ B, H ++ [Ob.row [.str s, .str j]] = B := ⟨_, rfl⟩
  simp +contextual (maxSteps := 10000000) only [c76, XG_eq, g0, gp1, p2, d1, her, pcallG hM, lookH_cons, lookH_nil, orK_n, nilc_ptr, ld, List.head?_cons, wrap_natY i (by omega), go_sem, W_draw]
  rw [hH1] at hE g0 h2 gp1 p2 ⊢
  obtain ⟨l1, l2, l3, l4, l5⟩ := h2.lts
  obtain ⟨q1, q2, q3⟩ := l5 hmne
  rcases h2.m with ⟨e, _⟩ | ⟨cap2, X2, e, ho2, hc2⟩
  · exact absurd e hmne
  subst e
  have hel : (ms.take i ++ ms.drop (i + 1)).length = ms.length - 1 := by simp; omega
  refine delE_snd fn114 ho2 hc2 (by omega) hi ?_
  have mp3 : (H1.set om (.row (flE (ms.take i ++ ms.drop (i + 1)) ++ (.str [] :: .str [] :: X2))))[p]? = some (.row [eD, .ms true 2 om 0 ms.length cap2, .mp w]) := by rw [List.getElem?_set_ne q2]; exact h2.row
  simp +contextual (maxSteps := 10000000) only [storeK_E mp3, List.take_succ_cons, List.take_zero, List.nil_append, List.drop_succ_cons, List.drop_zero, go_sem, W_draw]
  have e0 : errR es ms 3 s j = 0 := by rw [errR_3, c1]; rfl
  rw [e0, if_pos rfl, her2] at kk
  have kk2 := fun B h => kk B [] h
  rw [List.append_nil] at kk2
  refine kk2 _ (RosS.make (oe := oe) (om := om) (eD := eD) (mD := .ms true 2 om 0 (ms.length - 1) cap2) (w := w) (r := r) { row := ?_, e := h2.e.mono fun hn => ?_, m := .inr ⟨cap2, .str [] :: .str [] :: X2, by rw [hel], ?_, ?_⟩, ne := ?_, mp := ?_, ks := h.ks, cnt := h.cnt, val := h.val, en := h.en, mn := ?_, eok := h.eok, mok := fun x hx => ?_, el := h.el, ml := by rw [hel]; omega } ⟨?_, fun x hx hn => ?_⟩ k1 k4 (fun _ => .inl k2) (fun _ => .inl k3) hS)
  · rw [List.getElem?_set_self (by simp; omega)]
  · rw [List.getElem?_set_ne (Ne.symm (l4 hn).2.1), List.getElem?_set_ne]
    rcases h.ne with h' | h' | h'
    · exact absurd h' hn
    · exact absurd h' hmne
    · exact Ne.symm h'
  · rw [List.getElem?_set_ne (Ne.symm q2)]; simp [q1]
  · rw [List.length_append, flE_len] at hc2 ⊢
    rw [hel]; simp; omega
  · rcases h.ne with h' | h' | h'
    · exact .inl h'
    · exact absurd h' hmne
    · exact .inr (.inr h')
  · rw [List.getElem?_set_ne l3, List.getElem?_set_ne q3]; exact h2.mp
  · rw [← her2]; exact h.mn.erase _
  · rw [← her2] at hx; exact h.mok x (List.mem_of_mem_erase hx)
  · have := hE.ln; simp; omega
  · have lh := hE.ln
    rw [List.getElem?_set_ne (fun e => hn (by rw [← e]; exact k1)), List.getElem?_set_ne (fun e => hn (by rw [← e]; exact k3))]
    obtain ⟨Y, hY⟩ := hE
    rw [hY, List.getElem?_append_left hx]
end GP
namespace GP
open Go Go.Proofs
set_option maxRecDepth 100000
variable [HasG Try.prog]
variable {H B : Hp} {p : Nat} {S : List Nat} {es ms : List Ed}
def stE (E M : List Ed) (k : Int) (a b : Sb) : List Ed := if errR E M k a b = 0 then nxtE E k a b else E
def stM (E M : List Ed) (k : Int) (a b : Sb) : List Ed := if errR E M k a b = 0 then nxtM M k a b else M
theorem do_mod {k : Int} (hk : 0 ≤ k) (E M : List Ed) (a b : Sb) : errR E M k a b = errR E M (k.tmod 4) a b ∧ nxtE E k a b = nxtE E (k.tmod 4) a b ∧ nxtM M k a b = nxtM M (k.tmod 4) a b := by
  have h : (k.tmod 4).tmod 4 = k.tmod 4 := by
    rw [Int.tmod_eq_emod_of_nonneg hk, Int.tmod_eq_emod_of_nonneg (Int.emod_nonneg _ (by omega))]; omega
  unfold errR nxtE nxtM
  rw [h]
  exact ⟨rfl, rfl, rfl⟩
set_option maxHeartbeats 2000000 in
theorem do_snd {k : Int} {a b : Sb} {T : Tk} {Q : Post} (h : RosS H p S es ms) (hl : es.length < 60) (ha : a.length ≤ 1000) (hb : b.length ≤ 1000) (hk : 0 ≤ k) (hk2 : k ≤ 255)
    (kQ : ∀ B U, Stp H B p S (stE es ms k a b) (stM es ms k a b) → Q (.int .i64 (errR es ms k a b)) B (T ++ U)) :
    Snd Try.prog 42 [.ptr p 0, .agg [.int .u8 k, .str a, .str b]] H T Q := by
  refine call_of fn42 (by simp) (W_mono (X := XG Try.prog [32, 74, 75, 76] [] [] [] []) (XG.X .nil .nil .nil .nil) (fun _ _ h => h) ?_)
  obtain ⟨e1, e2, e3⟩ := do_mod hk es ms a b
  unfold stE stM at kQ
  rw [e1, e2, e3] at kQ
  have hE1 : Ext H (H ++ [Ob.row [.int .u8 k, .str a, .str b]]) := Ext.of _ _
  have g0 : rdAt (H ++ [Ob.row [.int .u8 k, .str a, .str b]]) (.ptr H.length 0) = some [.int .u8 k, .str a, .str b] := by simp [rdAt]
  have g1 : rdAt (H ++ [Ob.row [.int .u8 k, .str a, .str b]]) (.ptr H.length 1) = some [.str a, .str b] := by simp [rdAt]
  have g2 : rdAt (H ++ [Ob.row [.int .u8 k, .str a, .str b]]) (.ptr H.length 2) = some [.str b] := by simp [rdAt]
  have h1 := h.fr (Fr.ext [] hE1) (by simp)
  have hS := h.1
  have m4 : k.tmod 4 = k % 4 := Int.tmod_eq_emod_of_nonneg hk
  have hkk : ∀ {C : Hp} {E M : List Ed}, Stp (H ++ [Ob.row [.int .u8 k, .str a, .str b]]) C p S E M → Stp H C p S E M := fun h => Stp.trans (Fr.ext S hE1) hS (fun o ho => .inl ho) h
  obtain ⟨r, hr⟩ : ∃ r, k.tmod 4 = r := ⟨_, rfl⟩
  have hrr : r = 0 ∨ r = 1 ∨ r = 2 ∨ r = 3 := by omega
  rw [hr] at kQ
  rcases hrr with rfl | rfl | rfl | rfl
  · simp +contextual (maxSteps := 10000000) only [c42, XG_eq, g0, g1, g2, hr, ld, List.head?_cons, go_sem, W_draw]
    refine join_snd h1 hl ha hb fun B U hs => ?_
    simp +contextual (maxSteps := 10000000) only [go_sem, W_draw]
    refine kQ _ _ ?_
    have := hkk hs
    split
    · rename_i e; rw [if_pos e] at this; exact this
    · rename_i e; rw [if_neg e] at this; exact this
  · simp +contextual (maxSteps := 10000000) only [c42, XG_eq, g0, g1, g2, hr, ld, List.head?_cons, go_sem, W_draw]
    refine part_snd h1 ha hb fun B U hs => ?_
    simp +contextual (maxSteps := 10000000) only [go_sem, W_draw]
    refine kQ _ _ ?_
    have := hkk hs
    split
    · rename_i e; rw [if_pos e] at this; exact this
    · rename_i e; rw [if_neg e] at this; exact this
  · simp +contextual (maxSteps := 10000000) only [c42, XG_eq, g0, g1, g2, hr, ld, List.head?_cons, go_sem, W_draw]
    refine give_snd h1 ha hb fun B U hs => ?_
    simp +contextual (maxSteps := 10000000) only [go_sem, W_draw]
    refine kQ _ _ ?_
    have := hkk hs
    split
    · rename_i e; rw [if_pos e] at this; exact this
    · rename_i e; rw [if_neg e] at this; exact this
  · simp +contextual (maxSteps := 10000000) only [c42, XG_eq, g0, g1, g2, hr, ld, List.head?_cons, go_sem, W_draw]
    refine take_snd h1 fun B U hs => ?_
    simp +contextual (maxSteps := 10000000) only [go_sem, W_draw]
    refine kQ _ _ ?_
    have := hkk hs
    split
    · rename_i e; rw [if_pos e] at this; exact this
    · rename_i e; rw [if_neg e] at this; exact this
end GP
namespace GP
open Go Go.Proofs
set_option maxRecDepth 100000
variable [HasG Try.prog]
variable {H B : Hp} {p : Nat} {S : List Nat} {es ms : List Ed}
abbrev St := Int × Sb × Sb
def stD (e : St) : D := .agg [.int .u8 e.1, .str e.2.1, .str e.2.2]
def stS (n : Bool) (l : List St) : D := sliceD n (l.map stD)
theorem stL_erase (l : List St) : D.eraseL (l.map stD) = l.map stD := eraseL_id fun x hx => by
  obtain ⟨e, _, rfl⟩ := List.mem_map.1 hx; rfl
@[go_sem] theorem stS_erase (n : Bool) (l : List St) : (stS n l).erase = stS n l := by unfold stS; rw [erase_sliceD, stL_erase]
@[go_sem] theorem stS_len (n : Bool) (l : List St) : lenD (stS n l) = some l.length := by
  unfold stS; rcases sliceD_cases n (l.map stD) with ⟨e, h⟩ | e <;> rw [e] <;> simp [lenD]
  have : l = [] := by simpa using h
  subst this; rfl
@[go_sem high] theorem stS_ia (n : Bool) (l : List St) (k : IntKind) (i : Nat) : ia 3 (stS n l) (.int k (i : Int)) = (l[i]?).map fun e => .el [.int .u8 e.1, .str e.2.1, .str e.2.2] := by
  unfold stS
  rw [iab_nat]
  simp only [List.getElem?_map]
  cases l[i]? <;> rfl
def stsD : List D → Option (List St)
  | [] => some []
  | .agg [.int .u8 k, .str a, .str b] :: ds => (stsD ds).map fun l => (k, a, b) :: l
  | _ => none
theorem stsD_of : ∀ {xs : List D} {l : List St}, stsD xs = some l → xs = l.map stD
  | [], l, h => by simp [stsD] at h; subst h; rfl
  | x :: xs, l, h => by
    unfold stsD at h
    split at h
    · rename_i e; cases e
    · rename_i k a b ds e
      injection e with e1 e2; subst e1; subst e2
      cases hd : stsD xs with
      | none => rw [hd] at h; cases h
      | some m =>
        rw [hd] at h
        simp only [Option.map_some] at h
        injection h with h; subst h
        rw [stsD_of hd]; rfl
    · cases h
theorem stsD_map : ∀ l : List St, stsD (l.map stD) = some l
  | [] => rfl
  | (k, a, b) :: l => by simp [stsD, stD, stsD_map l]
theorem elems_stS (n : Bool) (l : List St) : elems (stS n l) = l.map stD := elems_sliceD _ _
def okSt (e : St) : Bool := decide (e.2.1.length ≤ 100) && decide (e.2.2.length ≤ 100)
def fewB (l : List St) (n : Int) : Bool := (l.take 300).all okSt && decide ((l.length : Int) ≤ n)
def φ41 : List D → Option D
  | [d, .int .i64 n] => if isSl d = true then (match stsD (elems d) with
    | some l => some (.bool (fewB l n))
    | none => none) else none
  | _ => none
theorem all_take {l : List St} {i : Nat} {e : St} (h : l[i]? = some e) : (l.take (i + 1)).all okSt = ((l.take i).all okSt && okSt e) := by
  rw [List.take_add_one, h, List.all_append]; simp
theorem stS_of {d : D} {l : List St} (h1 : isSl d = true) (h2 : stsD (elems d) = some l) : ∃ n, d = stS n l := by
  obtain ⟨n, hn⟩ := isSl_m h1
  rw [stsD_of h2] at hn
  exact ⟨n, hn⟩
theorem isSl_stS (n : Bool) (l : List St) : isSl (stS n l) = true := by
  unfold stS; rcases sliceD_cases n (l.map stD) with ⟨e, _⟩ | e <;> rw [e] <;> rfl
theorem ok41 : OkAt Try.prog 41 φ41 := by
  refine ok_of (l := []) .nil fn41 fun args r h => ?_
  unfold φ41 at h
  split at h
  · rename_i d n
    split at h
    · rename_i hs
      split at h
      · rename_i l hl
        injection h with h; subst h
        obtain ⟨nn, rfl⟩ := stS_of hs hl
        refine ⟨by simp, by simp [D.cl], fun H T => ?_⟩
        simp +contextual (maxSteps := 10000000) only [c41, go_sem, W_draw]
        refine W_for (fun i s' => s'.t 0 = stS nn l ∧ s'.t 1 = .int .i64 n ∧ s'.t 5 = .int .i64 (i : Int) ∧ s'.H = H ∧ s'.T = T ∧ i ≤ l.length ∧ i ≤ 300 ∧ (l.take i).all okSt = true) l.length
          ⟨0, ?_⟩ (fun i s h => h.2.2.2.2.2.1) ?_ (XL_mono _)
        · simp [upd, argT]
        rintro i ⟨t, B, T'⟩ ⟨r0, r1, r5, rfl, rfl, hi, hi3, hall⟩
        simp only at r0 r1 r5
        by_cases ha : i < l.length
        · have d1 : decide ((i : Int) < l.length) = true := by simpa using ha
          by_cases h3 : i < 300
          · have d2 : decide ((i : Int) < 300) = true := by simp; omega
            have e : l[i]? = some l[i] := by simp [ha]
            obtain ⟨x, hx⟩ : ∃ x, l[i] = x := ⟨_, rfl⟩
            rw [hx] at e
            have et := all_take e
            rw [hall, Bool.true_and] at et
            have hno : okSt x = false → fewB l n = false := fun hno => by
              unfold fewB
              have : (l.take 300).all okSt = false := by
                rw [List.all_eq_false]
                refine ⟨x, ?_, by rw [hno]; simp⟩
                have : (l.take 300)[i]? = some x := by rw [List.getElem?_take_of_lt h3]; exact e
                exact List.mem_of_getElem? this
              rw [this]; rfl
            rcases tf (decide ((x.2.1.length : Int) > 100)) with g | g
            · have := hno (by unfold okSt; simp only [decide_eq_true_eq] at g; simp; intro; omega)
              simp +contextual (maxSteps := 10000000) only [r0, r1, r5, d1, d2, e, g, Option.map_some, this, go_sem, W_draw]
            · rcases tf (decide ((x.2.2.length : Int) > 100)) with g2 | g2
              · have := hno (by unfold okSt; simp only [decide_eq_true_eq] at g2; simp; intro; omega)
                simp +contextual (maxSteps := 10000000) only [r0, r1, r5, d1, d2, e, g, g2, Option.map_some, this, go_sem, W_draw]
              · have : okSt x = true := by unfold okSt; simp only [decide_eq_false_iff_not] at g g2; simp; omega
                rw [this] at et
                simp +contextual (maxSteps := 10000000) only [r0, r1, r5, d1, d2, e, g, g2, Option.map_some, wrap_natY i (by omega), go_sem, W_draw]
                exact ⟨by omega, by omega, et⟩
          · have d2 : decide ((i : Int) < 300) = false := by simp; omega
            have h300 : i = 300 := by omega
            subst h300
            have : fewB l n = decide ((l.length : Int) ≤ n) := by unfold fewB; rw [hall]; rfl
            simp +contextual (maxSteps := 10000000) only [r0, r1, r5, d1, d2, this, go_sem, W_draw]
        · have d1 : decide ((i : Int) < l.length) = false := by simpa using ha
          have : fewB l n = decide ((l.length : Int) ≤ n) := by
            unfold fewB
            have e2 : l.take i = l := List.take_of_length_le (by omega)
            rw [e2] at hall
            have : l.take 300 = l := List.take_of_length_le (by omega)
            rw [this, hall]; rfl
          simp +contextual (maxSteps := 10000000) only [r0, r1, r5, d1, this, go_sem, W_draw]
      · cases h
    · cases h
  · cases h
theorem p41 (n : Bool) (l : List St) (k : Int) : φ41 [stS n l, .int .i64 k] = some (.bool (fewB l k)) := by
  simp only [φ41, elems_stS, stsD_map]
  rw [if_pos (isSl_stS n l)]
theorem wrap_u8' {i : Int} (h0 : 0 ≤ i) (h1 : i ≤ 255) : IntKind.u8.wrap i = i := by
  have : IntKind.u8.wrap i = i % 2 ^ 8 := by simp [IntKind.wrap, IntKind.bits, IntKind.signed]
  rw [this]; omega
theorem edges_snd {T : Tk} {Q : Post} (h : RosS H p S es ms) (k : ∀ d L, edsM (H ++ L) d = some es → Q d (H ++ L) T) : Snd Try.prog 35 [.ptr p 0] H T Q := by
  obtain ⟨hS, oe, om, w, k1, k2, k3, k4, eD, mD, ents, clk, ks, c, r, h⟩ := h
  refine call_of fn35 (by simp) (W_mono (X := XG Try.prog [72] [] [] [] []) (XG.X .nil .nil .nil .nil) (fun _ _ h => h) ?_)
  have g0 : rdAt H (.ptr p 0) = some [eD, mD, .mp w] := by simp only [rdAt, h.row]; rfl
  simp +contextual (maxSteps := 10000000) only [c35, XG_eq, g0, nilc_ptr, ld, List.head?_cons, go_sem, W_draw]
  refine cloneE_snd fn72c h.e.eds (by have := h.el; omega) (fun e => ?_) fun L o h1 h2 => ?_
  · simp +contextual (maxSteps := 10000000) only [go_sem, W_draw]
    have := k .nils []
    rw [List.append_nil] at this
    have he := h.e.eds
    rw [e] at he
    exact this he
  · simp +contextual (maxSteps := 10000000) only [go_sem, W_draw]
    refine k _ _ ?_
    have := edsM_ms (cap := es.length) (X := []) (l := es) (H := H ++ L) (o := o) (by rw [List.append_nil]; exact h2)
    exact this
theorem members_snd {T : Tk} {Q : Post} (h : RosS H p S es ms) (k : ∀ d L, edsM (H ++ L) d = some ms → Q d (H ++ L) T) : Snd Try.prog 47 [.ptr p 0] H T Q := by
  obtain ⟨hS, oe, om, w, k1, k2, k3, k4, eD, mD, ents, clk, ks, c, r, h⟩ := h
  refine call_of fn47 (by simp) (W_mono (X := XG Try.prog [80] [] [] [] []) (XG.X .nil .nil .nil .nil) (fun _ _ h => h) ?_)
  have g0 : rdAt H (.ptr p 1) = some [mD, .mp w] := by simp only [rdAt, h.row]; rfl
  simp +contextual (maxSteps := 10000000) only [c47, XG_eq, g0, nilc_ptr, ld, List.head?_cons, go_sem, W_draw]
  refine cloneE_snd fn80c h.m.eds (by have := h.ml; omega) (fun e => ?_) fun L o h1 h2 => ?_
  · simp +contextual (maxSteps := 10000000) only [go_sem, W_draw]
    have := k .nils []
    rw [List.append_nil] at this
    have he := h.m.eds
    rw [e] at he
    exact this he
  · simp +contextual (maxSteps := 10000000) only [go_sem, W_draw]
    refine k _ _ ?_
    have := edsM_ms (cap := ms.length) (X := []) (l := ms) (H := H ++ L) (o := o) (by rw [List.append_nil]; exact h2)
    exact this
end GP
namespace GP
open Go Go.Proofs
set_option maxRecDepth 100000
variable [HasG Try.prog]
variable {H B : Hp} {p : Nat} {S : List Nat} {es ms : List Ed}
theorem RosS.ext (h : RosS H p S es ms) (hE : Ext H B) : RosS B p S es ms := h.fr (Fr.ext [] hE) (by simp)
theorem RosS.new {H B : Hp} {p w : Nat} (h : Ros B p p p w [] []) : RosS B p [p, w] [] [] := by
  obtain ⟨eD, mD, ents, clk, ks, c, r, k⟩ := h
  obtain ⟨l1, l2, _⟩ := k.lts
  exact ⟨fun o ho => by simp at ho; rcases ho with rfl | rfl <;> assumption, p, p, w, by simp, by simp, by simp, by simp, eD, mD, ents, clk, ks, c, r, k⟩
theorem new_S {T : Tk} {Q : Post} (k : ∀ B p S, Ext H B → H.length ≤ p → (∀ o ∈ S, H.length ≤ o) → RosS B p S [] [] → Q (.ptr p 0) B T) : Snd Try.prog 31 [] H T Q :=
  new_snd fun B p w h1 h2 h3 h4 => k B p [p, w] h1 h2 (by simp [h2, h3]) (RosS.new (H := H) h4)
theorem RosS.ros {p : Nat} {S : List Nat} {es ms : List Ed} (h : RosS H p S es ms) {a b : Sb} (ha : a.length ≤ 1000) (hb : b.length ≤ 1000) : φ34 H [.ptr p 0, .str a, .str b] = some (.bool (reachB es a b)) := by
  obtain ⟨_, oe, om, w, _, _, _, _, h⟩ := h
  exact p34 h ha hb
theorem fr_of_new {S : List Nat} {A C : Hp} (hE : Ext H A) (h : ∀ o ∈ S, H.length ≤ o) (hF : Fr S A C) : Ext H C := by
  have hlen := Nat.le_trans hE.ln hF.1
  refine ⟨C.drop H.length, ?_⟩
  refine List.ext_getElem? fun i => ?_
  by_cases hi : i < H.length
  · rw [List.getElem?_append_left hi, hF.2 i (Nat.lt_of_lt_of_le hi hE.ln) (fun hm => by have := h i hm; omega)]
    obtain ⟨L, rfl⟩ := hE
    rw [List.getElem?_append_left hi]
  · rw [List.getElem?_append_right (by omega), List.getElem?_drop]
    congr 1; omega
theorem awake_snd {T : Tk} {Q : Post} (k : ∀ L U, Q (.bool true) (H ++ L) (T ++ U)) : Snd Try.prog 30 [] H T Q := by
  have hM : MonoH [(34, φ34)] := .cons φ34_mono .nil
  refine call_of fn30 (by simp) (W_mono (X := XG Try.prog [31, 32] [] [(34, φ34)] [] []) (XG.X .nil (.cons ok34 .nil) .nil .nil) (fun _ _ h => h) ?_)
  simp +contextual (maxSteps := 10000000) only [c30, XG_eq, go_sem, W_draw]
  refine new_S fun A p S hE hp hS h => ?_
  simp +contextual (maxSteps := 10000000) only [XG_eq, go_sem, W_draw]
  refine join_snd h (by simp) (by simp) (by simp) fun C U hs => ?_
  have e0 : errR [] [] 0 [97] [98] = 0 := by decide
  rw [e0, if_pos rfl] at hs
  obtain ⟨S', h2, hF, hS'⟩ := hs
  have p1 := h2.ros (a := [97]) (b := [98]) (by simp) (by simp)
  have p2 := h2.ros (a := [98]) (b := [97]) (by simp) (by simp)
  have b1 : reachB ([] ++ [([97], [98])]) [97] [98] = true := by decide
  have b2 : reachB ([] ++ [([97], [98])]) [98] [97] = false := by decide
  rw [b1] at p1; rw [b2] at p2
  obtain ⟨L, rfl⟩ := fr_of_new hE hS hF
  rw [e0]
  simp +contextual (maxSteps := 10000000) only [p1, p2, pcallG hM, lookH_cons, lookH_nil, orK_n, go_sem, W_draw]
  exact k _ _
end GP
namespace GP
open Go Go.Proofs
set_option maxRecDepth 100000
variable [HasG Try.prog]
variable {H B : Hp} {p : Nat} {S : List Nat} {es ms : List Ed}
theorem RosS.rs (h : RosS H p S es ms) : es.Nodup ∧ ms.Nodup ∧ es.length ≤ 60 ∧ ms.length ≤ 100 ∧ ∃ c r, Cnt es c r ∧ ∀ a b, reachB es a b = (nmB a && nmB b && decide (0 < c a b)) := by
  obtain ⟨_, oe, om, w, _, _, _, _, eD, mD, ents, clk, ks, c, r, h⟩ := h
  refine ⟨h.en, h.mn, h.el, h.ml, c, r, h.cnt, fun a b => ?_⟩
  rw [h.reach]; rfl
theorem few_of {l : List St} {n : Nat} (hn : n ≤ 300) (h : fewB l n = true) : l.length ≤ n ∧ ∀ x ∈ l, x.2.1.length ≤ 100 ∧ x.2.2.length ≤ 100 := by
  unfold fewB at h
  simp only [Bool.and_eq_true, decide_eq_true_eq] at h
  have hl : l.length ≤ n := by omega
  refine ⟨hl, fun x hx => ?_⟩
  rw [List.take_of_length_le (by omega)] at h
  have := List.all_eq_true.1 h.1 x hx
  unfold okSt at this
  simpa using this
theorem stE_len (E M : List Ed) (k : Int) (a b : Sb) : (stE E M k a b).length ≤ E.length + 1 := by
  unfold stE nxtE
  split
  · split
    · simp
    · split
      · rw [List.length_erase]; split <;> omega
      · omega
  · omega
def Liv (H B : Hp) (T U : Tk) (p : Nat) (S : List Nat) (es ms : List Ed) : Prop := RosS B p S es ms ∧ Ext H B ∧ (∀ o ∈ S, H.length ≤ o) ∧ ExtT T U
theorem Liv.step {T U : Tk} {C : Hp} {U' : Tk} {es' ms' : List Ed} (h : Liv H B T U p S es ms) (hs : Stp B C p S es' ms') : ∃ S', Liv H C T (U ++ U') p S' es' ms' ∧ Fr S B C ∧ ∀ o ∈ S', o ∈ S ∨ B.length ≤ o := by
  obtain ⟨h1, h2, h3, h4⟩ := h
  obtain ⟨S', k1, k2, k3⟩ := hs
  refine ⟨S', ⟨k1, fr_of_new h2 h3 k2, fun o ho => ?_, h4.app U'⟩, k2, k3⟩
  rcases k3 o ho with h' | h'
  · exact h3 o h'
  · exact Nat.le_trans h2.ln h'
def stOk (l : List St) : Bool := l.all fun e => decide (0 ≤ e.1) && decide (e.1 ≤ 255)
theorem tmod_lt {x : Int} {n : Nat} (h0 : 0 ≤ x) (hn : 0 < n) : ∃ i : Nat, x.tmod (n : Int) = (i : Int) ∧ i < n := by
  refine ⟨(x.tmod n).toNat, ?_, ?_⟩
  · have := Int.tmod_nonneg (n : Int) h0; omega
  · have := Int.tmod_lt_of_pos x (b := (n : Int)) (by omega)
    have := Int.tmod_nonneg (n : Int) h0; omega
end GP
namespace GP
open Go Go.Proofs Go.Proofs.Ytjpbliffonimgaa
open Go.ChangeShapes Go.WideShapes Go.ChangeAt Go.RowKit
set_option maxRecDepth 100000
instance instG : HasG Try.prog := ⟨fun _ _ => True, fun _ _ h => h⟩
theorem own6 : ownKnob Try.prog.godebug = none := by kernel_rfl
theorem laid6 : laidOutB Try.prog = true := by kernel_rfl
theorem rowed6 : mapsRowed Try.prog = true := by kernel_rfl
theorem full6 : ((List.range Try.prog.types.size).all fun t => match Try.prog.underlying t with | some (.slice e) => decide (0 < Try.prog.cellsOf e) | _ => true) = true := by kernel_rfl
theorem cells81 : Try.prog.cellsOf 81 = 3 := by kernel_rfl
theorem cells5 : Try.prog.cellsOf 5 = 1 := by kernel_rfl
theorem cells9 : Try.prog.cellsOf 9 = 1 := by kernel_rfl
theorem bytes81 : 1 ≤ Try.prog.bytesOf 81 := of_decide_eq_true (by kernel_rfl)
theorem u8min : IntKind.u8.min = 0 := by decide
theorem u8max : IntKind.u8.max = 255 := by decide
def isSt (d : D) : Prop := ∃ e : St, d = stD e ∧ 0 ≤ e.1 ∧ e.1 ≤ 255
theorem rdSt (W : World) : ∀ fuel, Rds Try.prog W 81 (fun ds => isSt (D.agg ds)) fuel
  | 0 => fun _ _ _ _ _ h _ => by simp [DataW.trod] at h
  | fuel + 1 => by
    refine (rds_struct (P := Try.prog) (w := W) (φs := [fun ds => ∃ n, ds = [.int .u8 n] ∧ IntKind.u8.min ≤ n ∧ n ≤ IntKind.u8.max, fun ds => ∃ l, ds = [.str l] ∧ l.length ≤ 2 ^ 47, fun ds => ∃ l, ds = [.str l] ∧ l.length ≤ 2 ^ 47]) Try.underlying81 rfl ?_ ?_ ?_).imp ?_
    · simp only [FldsOf, cells5, cells9, and_self, and_true, Nat.zero_add, Nat.reduceAdd]
    · simp only [List.map_cons, List.map_nil, cells5, cells9, cells81]; rfl
    · intro i f φ e1 e2
      match i with
      | 0 => simp at e1 e2; subst e1; subst e2; exact rds_int Try.underlying5 fuel
      | 1 => simp at e1 e2; subst e1; subst e2; exact rds_string Try.underlying9 fuel
      | 2 => simp at e1 e2; subst e1; subst e2; exact rds_string Try.underlying9 fuel
      | i + 3 => simp at e1
    · rintro ds ⟨x1, y1, rfl, ⟨k, rfl, i1, i2⟩, x2, y2, rfl, ⟨s, rfl, hs⟩, x3, y3, rfl, ⟨n, rfl, hn⟩, rfl⟩
      rw [u8min] at i1; rw [u8max] at i2
      exact ⟨(k, s, n), rfl, i1, i2⟩
theorem argSt (W : World) : Arg Try.prog W 81 isSt := by
  intro H enc v d ps base h1 h2 h3
  obtain ⟨x, k1, ds, rfl, k2⟩ := arg_struct Try.underlying81 (fun f => rdSt W f) H enc v d ps base h1 h2 h3
  exact ⟨_, k1, k2⟩
def isSts (d : D) : Prop := ∃ n l, d = stS n l ∧ stOk l = true
theorem sts_of : ∀ {xs : List (List D)}, (∀ x ∈ xs, isSt (D.agg x)) → ∃ l, xs.map D.agg = l.map stD ∧ stOk l = true
  | [], _ => ⟨[], rfl, rfl⟩
  | x :: xs, h => by
    obtain ⟨e, h1, h2, h3⟩ := h x (by simp)
    obtain ⟨l, h4, h5⟩ := sts_of fun y hy => h y (List.mem_cons_of_mem _ hy)
    exact ⟨e :: l, by simp [h1, h4], by simp only [stOk, List.all_cons, Bool.and_eq_true] at h5 ⊢; exact ⟨by simp [h2, h3], h5⟩⟩
theorem argSts (W : World) : Arg Try.prog W 76 isSts := by
  have h : ∀ fuel, Rds Try.prog W 76 (fun ds => ∃ d, ds = [d] ∧ isSts d) fuel := fun fuel => by
    cases fuel with
    | zero => exact fun _ _ _ _ _ h _ => by simp [DataW.trod] at h
    | succ fuel =>
      refine (rds_slice (P := Try.prog) (w := W) (mk := D.agg) (fun _ => rfl) (sz := 3) (by decide) Try.underlying76 cells81 bytes81 (rdSt W fuel)).imp fun ds hd => ?_
      rcases hd with rfl | ⟨xs, rfl, h1, h2⟩
      · exact ⟨_, rfl, true, [], rfl, rfl⟩
      · obtain ⟨l, h3, h4⟩ := sts_of fun x hx => (h2 x hx).1
        refine ⟨_, rfl, false, l, ?_, h4⟩
        rw [h3]; rfl
  intro H enc v d ps base h1 h2 h3
  obtain ⟨x, k1, l, e, k2⟩ := arg_one Try.underlying76 rfl h H enc v d ps base h1 h2 h3
  injection e with e
  exact ⟨_, k1, e ▸ k2⟩
theorem argU8 (W : World) : Arg Try.prog W 5 (fun x => ∃ n, x = .int .u8 n ∧ 0 ≤ n ∧ n ≤ 255) := by
  intro H enc v d ps base h1 h2 h3
  obtain ⟨x, k1, n, e, i1, i2⟩ := arg_one Try.underlying5 rfl (fun f => rds_int Try.underlying5 f) H enc v d ps base h1 h2 h3
  injection e with e
  rw [u8min] at i1; rw [u8max] at i2
  exact ⟨_, k1, n, e, i1, i2⟩
end GP
namespace Go.Proofs
open Go.Shelf
shelf_lay_g SlLaysW.n5 Slmc 5 at Try 81 as Try.cloneM
end Go.Proofs
namespace GP
open Go Go.Proofs
set_option maxRecDepth 100000
variable [HasG Try.prog]
variable {H B : Hp} {p : Nat} {S : List Nat} {es ms : List Ed}
theorem e81 : ∀ args w, (callFunc 81 args).run Try.prog w = .ok (.enter 81 args) w := enters_of Try.func81 (by kernel_rfl) rfl
theorem f81 : Try.cloneM_ren.f 5 = 81 := by first | rfl | kernel_rfl
theorem clone81_snd {w clk : Nat} {ents : List (D × D × Nat)} {H : Hp} {T : Tk} {Q : Post} (hw : H[w]? = some (.map ents clk)) (hQ : Q (.mp H.length) (H ++ [.map ents clk]) T) : Snd Try.prog 81 [.mp w] H T Q := by
  intro c W vs hg k1 k2 k3
  match vs, k3.len with
  | [u], _ =>
    have h1 := k3.rep 0 (by simp) (by simp)
    simp only [List.getElem_cons_zero] at h1
    cases h1 with
    | mp _ hb =>
    obtain ⟨hpu, hm⟩ := k1.map w ents clk hw
    have L := AnyW.maps_Clone Try.cloneM (c.β w) _ clk W hm
    rw [f81] at L
    refine .inl ⟨e81 _ _, L.mono ?_⟩
    rintro e w' ⟨rfl, rfl⟩
    have hf := k1.free H.length (.inl (Nat.le_refl _))
    have hr : Rep (bindC c H.length W.heap.size 0) (.mp H.length) (.map (some ((bindC c H.length W.heap.size 0).β H.length))) := Rep.mp _ (by show updB _ _ _ = _; unfold updB; rw [if_pos rfl])
    have hβ : (bindC c H.length W.heap.size 0).β H.length = W.heap.size := by show updN _ _ _ _ = _; unfold updN; rw [if_pos rfl]
    rw [hβ] at hr
    exact ⟨_, rfl, _, _, T, bindC c H.length W.heap.size 0, hQ, hr, k1.newob 0 hf (x0 := .map ents clk) ⟨hpu, rfl⟩ (push_at _ _) (fun o h => push_other _ _ o h), bind_le hf, k2, Below.of_alloc W _ k1.low⟩
end GP
namespace GP
open Go Go.Proofs
set_option maxRecDepth 100000
variable [HasG Try.prog]
variable {H B : Hp} {p : Nat} {S : List Nat} {es ms : List Ed}
def CloneOk [HasG Try.prog] : Prop := ∀ {H : Hp} {p : Nat} {S : List Nat} {es ms : List Ed} {T : Tk} {Q : Post}, RosS H p S es ms → (∀ C p' S', Ext H C → (∀ o ∈ S', H.length ≤ o) → RosS C p' S' es ms → Q (.ptr p' 0) C T) → Snd Try.prog 46 [.ptr p 0] H T Q
theorem erase_last {l : List Ed} {e : Ed} (h : l.contains e = false) : (l ++ [e]).erase e = l := by
  have hn : e ∉ l := fun hm => by rw [List.contains_iff_mem.2 hm] at h; cases h
  rw [List.erase_append_right _ hn]; simp
theorem undo_0 {a b : Sb} (h : errR es ms 0 a b = 0) : stE es ms 0 a b = es ++ [(a, b)] ∧ stM es ms 0 a b = ms ∧ errR (es ++ [(a, b)]) ms 1 a b = 0 ∧ stE (es ++ [(a, b)]) ms 1 a b = es ∧ stM (es ++ [(a, b)]) ms 1 a b = ms := by
  have hc : es.contains (a, b) = false := by
    rw [errR_0] at h
    cases hc : es.contains (a, b) with
    | false => rfl
    | true => rw [hc] at h; split at h <;> simp at h
  have h1 : errR (es ++ [(a, b)]) ms 1 a b = 0 := by rw [errR_1, if_pos (by simp)]
  refine ⟨?_, ?_, h1, ?_, ?_⟩
  · unfold stE; rw [if_pos h]; rfl
  · unfold stM; rw [if_pos h]; rfl
  · unfold stE; rw [if_pos h1]
    exact erase_last hc
  · unfold stM; rw [if_pos h1]; rfl
theorem undo_2 {a b : Sb} (h : errR es ms 2 a b = 0) : stE es ms 2 a b = es ∧ stM es ms 2 a b = ms ++ [(a, b)] ∧ errR es (ms ++ [(a, b)]) 3 a b = 0 ∧ stE es (ms ++ [(a, b)]) 3 a b = es ∧ stM es (ms ++ [(a, b)]) 3 a b = ms := by
  have hc : ms.contains (a, b) = false := by
    rw [errR_2] at h
    cases hc : ms.contains (a, b) with
    | false => rfl
    | true => rw [hc] at h; split at h <;> simp at h
  have h1 : errR es (ms ++ [(a, b)]) 3 a b = 0 := by rw [errR_3, if_pos (by simp)]
  refine ⟨?_, ?_, h1, ?_, ?_⟩
  · unfold stE; rw [if_pos h]; rfl
  · unfold stM; rw [if_pos h]; rfl
  · unfold stE; rw [if_pos h1]; rfl
  · unfold stM; rw [if_pos h1]
    exact erase_last hc
theorem undo {a b : Sb} {k : Int} (hk : k = 0 ∨ k = 2) (h : errR es ms k a b = 0) : ∃ es1 ms1, stE es ms k a b = es1 ∧ stM es ms k a b = ms1 ∧ errR es1 ms1 (k + 1) a b = 0 ∧ stE es1 ms1 (k + 1) a b = es ∧ stM es1 ms1 (k + 1) a b = ms ∧ es1.length + ms1.length = es.length + ms.length + 1 ∧ es1.length ≤ es.length + 1 := by
  rcases hk with rfl | rfl
  · obtain ⟨h1, h2, h3, h4, h5⟩ := undo_0 h
    exact ⟨_, _, h1, h2, h3, h4, h5, by simp; omega, by simp⟩
  · obtain ⟨h1, h2, h3, h4, h5⟩ := undo_2 h
    exact ⟨_, _, h1, h2, h3, h4, h5, by simp; omega, by omega⟩
set_option maxHeartbeats 8000000 in
theorem main11 (hcl : CloneOk) {n : Bool} {l : List St} {k0 y : Int} {a0 b0 : Sb} (hso : stOk l = true) (hk0 : 0 ≤ k0 ∧ k0 ≤ 255) (hy : 0 ≤ y ∧ y ≤ 255) {H : Hp} {T : Tk} {Q : Post} (hQ : ∀ L U, Q (.bool true) (H ++ L) (T ++ U)) : W (Snd Try.prog) c11 (endQ [.inl 6] Q) ⟨argT [stS n l, .agg [.int .u8 k0, .str a0, .str b0], .int .u8 y], H, T⟩ := by
  have hM : MonoH [(34, φ34)] := .cons φ34_mono .nil
  have hX := XG_mono (P := Try.prog) [30, 31, 42, 46, 35, 47] [(41, φ41)] [(34, φ34)] [] []
  refine W_mono (X := XG Try.prog [30, 31, 42, 46, 35, 47] [(41, φ41)] [(34, φ34)] [] []) (XG.X (.cons ok41 .nil) (.cons ok34 .nil) .nil .nil) (fun _ _ h => h) ?_
  have hQ' : ∀ {B : Hp} {U : Tk}, Ext H B → ExtT T U → Q (.bool true) B U := fun h k => by
    obtain ⟨L, rfl⟩ := h; obtain ⟨M, rfl⟩ := k; exact hQ L M
  have p41' := p41 n l 40
  have hE1 : Ext H (H ++ [Ob.row [.int .u8 k0, .str a0, .str b0]]) := Ext.of _ _
  have o4 : (H ++ [Ob.row [.int .u8 k0, .str a0, .str b0]])[H.length]? = some (.row [.int .u8 k0, .str a0, .str b0]) := by simp
  simp +contextual (maxSteps := 10000000) only [c11, XG_eq, go_sem, W_draw]
  obtain ⟨H1, hH1⟩ : ∃ B, H ++ [Ob.row [.int .u8 k0, .str a0, .str b0]] = B := ⟨_, rfl⟩
  rw [hH1] at hE1 o4 ⊢
  refine awake_snd fun L1 U1 => ?_
  have o4' := fun X => (Ext.of H1 X).get o4
  have g1 : ∀ X, rdAt (H1 ++ X) (.ptr H.length 1) = some [.str a0, .str b0] := fun X => by simp only [rdAt, o4']; rfl
  have g2 : ∀ X, rdAt (H1 ++ X) (.ptr H.length 2) = some [.str b0] := fun X => by simp only [rdAt, o4']; rfl
  rcases tf' (fewB l 40) with hf | hf
  · rw [hf] at p41'
    simp +contextual (maxSteps := 10000000) only [p41', XG_eq, pcallG hM, lookH_cons, lookH_nil, orK_n, orK_s, go_sem, W_draw]
    refine awake_snd fun L2 U2 => ?_
    simp +contextual (maxSteps := 10000000) only [go_sem, W_draw]
    exact hQ' (hE1.app _) ⟨_, rfl⟩
  rw [hf] at p41'
  obtain ⟨hll, hsl⟩ := few_of (n := 40) (by omega) hf
  rcases tf ((l.length : Int) == 0) with c0 | c0
  · simp +contextual (maxSteps := 10000000) only [p41', c0, XG_eq, pcallG hM, lookH_cons, lookH_nil, orK_n, orK_s, go_sem, W_draw]
    refine awake_snd fun L2 U2 => ?_
    simp +contextual (maxSteps := 10000000) only [go_sem, W_draw]
    exact hQ' (hE1.app _) ⟨_, rfl⟩
  rcases tf (decide ((100 : Int) < a0.length)) with ca | ca
  · simp +contextual (maxSteps := 10000000) only [p41', c0, ca, g1, g2, ld, List.head?_cons, XG_eq, pcallG hM, lookH_cons, lookH_nil, orK_n, orK_s, go_sem, W_draw]
    refine awake_snd fun L2 U2 => ?_
    simp +contextual (maxSteps := 10000000) only [go_sem, W_draw]
    exact hQ' (hE1.app _) ⟨_, rfl⟩
  rcases tf (decide ((100 : Int) < b0.length)) with cb | cb
  · simp +contextual (maxSteps := 10000000) only [p41', c0, ca, cb, g1, g2, ld, List.head?_cons, XG_eq, pcallG hM, lookH_cons, lookH_nil, orK_n, orK_s, go_sem, W_draw]
    refine awake_snd fun L2 U2 => ?_
    simp +contextual (maxSteps := 10000000) only [go_sem, W_draw]
    exact hQ' (hE1.app _) ⟨_, rfl⟩
  simp +contextual (maxSteps := 10000000) only [p41', c0, ca, cb, g1, g2, ld, List.head?_cons, XG_eq, pcallG hM, lookH_cons, lookH_nil, orK_n, orK_s, go_sem, W_draw]
  have la : a0.length ≤ 100 := by simp at ca; omega
  have lb : b0.length ≤ 100 := by simp at cb; omega
  have hl0 : 0 < l.length := by
    cases l with
    | nil => simp at c0
    | cons => simp
  have hE0 : Ext H1 (H1 ++ L1) := Ext.of _ _
  have hlo4 := lt_get o4
  refine new_S fun A p S hE hp hS hros => ?_
  have hL : Liv H1 A T (T ++ U1) p S [] [] := ⟨hros, hE0.trans hE, fun o ho => Nat.le_trans hE0.ln (hS o ho), ⟨U1, rfl⟩⟩
  clear hros hE hp hS hE0
  simp +contextual (maxSteps := 10000000) only [go_sem, W_draw]
  refine W_for (fun i s' => s'.t 0 = stS n l ∧ s'.t 2 = .int .u8 y ∧ s'.t 4 = .ptr H.length 0 ∧ s'.t 7 = .ptr p 0 ∧ s'.t 8 = .int .i64 (i : Int) ∧ (∃ S es ms, Liv H1 s'.H T s'.T p S es ms ∧ es.length ≤ i) ∧ i ≤ l.length) l.length
    ⟨0, ?_⟩ (fun i s h => h.2.2.2.2.2.2) ?_ hX
  · exact ⟨by simp [upd, argT], by simp [upd, argT], by simp [upd], by simp [upd], by simp [upd], ⟨S, [], [], hL, by simp⟩, by omega⟩
  clear hL
  rintro i ⟨t, B, U⟩ ⟨r0, r2, r4, r7, r8, ⟨S, es, ms, hL, he⟩, hi⟩
  simp only at r0 r2 r4 r7 r8 hL
  by_cases ha : i < l.length
  · have d1 : decide ((i : Int) < l.length) = true := by simpa using ha
    have e : l[i]? = some l[i] := by simp [ha]
    obtain ⟨⟨k, a, b⟩, hx⟩ : ∃ x, l[i] = x := ⟨_, rfl⟩
    rw [hx] at e
    have hm := List.mem_of_getElem? e
    have hk := List.all_eq_true.1 hso _ hm
    have hab := hsl _ hm
    simp only [Bool.and_eq_true, decide_eq_true_eq] at hk hab
    simp +contextual (maxSteps := 10000000) only [r0, r2, r4, r7, r8, d1, e, Option.map_some, XG_eq, go_sem, W_draw]
    refine do_snd hL.1 (by omega) (by omega) (by omega) hk.1 hk.2 fun C U' hs => ?_
    obtain ⟨S', hL', _, _⟩ := hL.step (U' := U') hs
    simp +contextual (maxSteps := 10000000) only [r0, r2, r4, r7, r8, wrap_natY i (by omega), go_sem, W_draw]
    exact ⟨⟨S', _, _, hL', Nat.le_trans (stE_len _ _ _ _ _) (by omega)⟩, by omega⟩
  · have d1 : decide ((i : Int) < l.length) = false := by simpa using ha
    obtain ⟨i1, f1, v1⟩ := tmod_lt hy.1 hl0
    obtain ⟨⟨ke, ae, be⟩, he1⟩ : ∃ e, l[i1]? = some e := ⟨_, by simp [v1]; rfl⟩
    have b1 := hsl _ (List.mem_of_getElem? he1)
    simp only at b1
    have w1 : IntKind.i64.wrap y = y := wrap_inY (by omega) (by omega)
    have hz : ((l.length : Int) = 0) = False := eq_false (by omega)
    obtain ⟨hros, hEB, hSB, hTB⟩ := hL
    have p1 := fun X => (hros.ext (Ext.of B X)).ros (a := ae) (b := be) (by omega) (by omega)
    have gE : rdAt (B ++ [Ob.row [.int .u8 ke, .str ae, .str be]]) (.ptr B.length 1) = some [.str ae, .str be] := by simp [rdAt]
    have gE2 : rdAt (B ++ [Ob.row [.int .u8 ke, .str ae, .str be]]) (.ptr B.length 2) = some [.str be] := by simp [rdAt]
    simp +contextual (maxSteps := 10000000) only [r0, r2, r4, r7, r8, d1, w1, f1, c0, hz, he1, Option.map_some, XG_eq, gE, gE2, p1, ld, List.head?_cons, pcallG hM, lookH_cons, lookH_nil, orK_n, orK_s, go_sem, W_draw]
    have hE2 : Ext B (B ++ [Ob.row [.int .u8 ke, .str ae, .str be]]) := Ext.of _ _
    have o9 : (B ++ [Ob.row [.int .u8 ke, .str ae, .str be]])[B.length]? = some (.row [.int .u8 ke, .str ae, .str be]) := by simp
    have hB5 : (B ++ [Ob.row [.int .u8 ke, .str ae, .str be]]).length = B.length + 1 := by simp
    obtain ⟨rv, hrv⟩ : ∃ v, reachB es ae be = v := ⟨_, rfl⟩
    rw [hrv] at p1 ⊢
    refine hcl (hros.ext hE2) fun C p' S' hE5 hS' hrc => ?_
    have hEBC := hE2.trans hE5
    have hrC := hros.ext hEBC
    have o4C := (hEB.trans hEBC).get o4
    have o9C := hE5.get o9
    have hEC : Ext H C := hE1.trans (hEB.trans hEBC)
    obtain ⟨kk, hkk, hkk2⟩ : ∃ kk : Int, IntKind.u8.wrap (k0.tmod 2 * 2) = kk ∧ (kk = 0 ∨ kk = 2) := by
      have h2 : k0.tmod 2 = k0 % 2 := Int.tmod_eq_emod_of_nonneg hk0.1
      refine ⟨k0 % 2 * 2, by rw [h2, wrap_u8' (by omega) (by omega)], by omega⟩
    have g4 : rdAt C (.ptr H.length 0) = some [.int .u8 k0, .str a0, .str b0] := by simp only [rdAt, o4C]; rfl
    have hSlt : ∀ o ∈ S, H1.length ≤ o ∧ o < B.length := fun o ho => ⟨hSB o ho, hros.1 o ho⟩
    have hS'lt : ∀ o ∈ S', B.length < o ∧ o < C.length := fun o ho => ⟨by have := hS' o ho; omega, hrc.1 o ho⟩
    have hB1 := hEB.ln
    have hloC := lt_get o4C
    have q67 : eq1D .ptr (.ptr p' 0) .nilp = some false := rfl
    simp +contextual (maxSteps := 10000000) only [r0, r2, r4, r7, g4, hkk, q67, Option.map_some, ld, List.head?_cons, storeK_E o4C, List.take_zero, List.nil_append, List.drop_succ_cons, List.drop_zero, go_sem, W_draw]
    have hFD : Fr [H.length] C (C.set H.length (.row [.int .u8 kk, .str a0, .str b0])) := ⟨by simp, fun o _ hn => by rw [List.getElem?_set_ne (fun e => hn (by simp [e]))]⟩
    have hrD := hrC.fr hFD fun o ho hm => by have := hSlt o ho; simp at hm; omega
    have hrcD := hrc.fr hFD fun o ho hm => by have := hS'lt o ho; simp at hm; omega
    have hED : Ext H (C.set H.length (.row [.int .u8 kk, .str a0, .str b0])) := hEC.set (by omega) _
    have o4D : (C.set H.length (.row [.int .u8 kk, .str a0, .str b0]))[H.length]? = some (.row [.int .u8 kk, .str a0, .str b0]) := by rw [List.getElem?_set_self hloC]
    have o9D : (C.set H.length (.row [.int .u8 kk, .str a0, .str b0]))[B.length]? = some (.row [.int .u8 ke, .str ae, .str be]) := by rw [List.getElem?_set_ne (by omega)]; exact o9C
    have hDl : (C.set H.length (.row [.int .u8 kk, .str a0, .str b0])).length = C.length := by simp
    obtain ⟨D1, hD1⟩ : ∃ X, C.set H.length (.row [.int .u8 kk, .str a0, .str b0]) = X := ⟨_, rfl⟩
    rw [hD1] at hrD hrcD hED o4D o9D hDl
    simp only [hD1]
    have g5 : rdAt D1 (.ptr H.length 0) = some [.int .u8 kk, .str a0, .str b0] := by simp only [rdAt, o4D]; rfl
    simp +contextual (maxSteps := 10000000) only [r0, r2, r4, r7, g5, ld, List.head?_cons, XG_eq, go_sem, W_draw]
    refine do_snd hrD (by omega) (by omega) (by omega) (by omega) (by omega) fun E U5 hs => ?_
    obtain ⟨S1, hr1, hF1, hS1⟩ := hs
    have hEE : Ext H E := fr_of_new hED (fun o ho => by have := (hSlt o ho).1; omega) hF1
    have hTE : ExtT T (U ++ U5) := hTB.app U5
    rcases tf (errR es ms kk a0 b0 != 0) with c5 | c5
    · simp +contextual (maxSteps := 10000000) only [c5, go_sem, W_draw]
      exact hQ' hEE hTE
    have c6 : errR es ms kk a0 b0 = 0 := by simpa using c5
    obtain ⟨es1, ms1, u1, u2, u3, u4, u5, u6, u7⟩ := undo hkk2 c6
    rw [u1, u2] at hr1
    have hrcE := hrcD.fr hF1 fun o ho hm => by have := (hS'lt o ho).1; have := (hSlt o hm).2; omega
    have o4E : E[H.length]? = some (.row [.int .u8 kk, .str a0, .str b0]) := by rw [hF1.2 _ (lt_get o4D) fun hm => by have := (hSlt _ hm).1; omega]; exact o4D
    have o9E : E[B.length]? = some (.row [.int .u8 ke, .str ae, .str be]) := by rw [hF1.2 _ (lt_get o9D) fun hm => by have := (hSlt _ hm).2; omega]; exact o9D
    have gE : rdAt E (.ptr B.length 1) = some [.str ae, .str be] := by simp only [rdAt, o9E]; rfl
    have gE2 : rdAt E (.ptr B.length 2) = some [.str be] := by simp only [rdAt, o9E]; rfl
    have p2 := hrcE.ros (a := ae) (b := be) (by omega) (by omega)
    rw [hrv] at p2
    obtain ⟨_, _, l1, l2, _⟩ := hr1.rs
    obtain ⟨_, _, l3, l4, _⟩ := hrcE.rs
    rcases tf rv with v | v
    all_goals
      subst v
      simp +contextual (maxSteps := 10000000) only [r0, r2, r4, r7, c5, gE, gE2, p2, ld, List.head?_cons, XG_eq, pcallG hM, lookH_cons, lookH_nil, orK_n, orK_s, go_sem, W_draw]
      refine edges_snd hrcE fun d1 M1 m1 => ?_
      have n1 := edsM_len m1
      simp +contextual (maxSteps := 10000000) only [r0, r2, r4, r7, n1, XG_eq, go_sem, W_draw]
      refine members_snd (hrcE.ext (Ext.of E _)) fun d2 M2 m2 => ?_
      have n2 := edsM_len m2
      simp +contextual (maxSteps := 10000000) only [r0, r2, r4, r7, n1, n2, XG_eq, go_sem, W_draw]
      refine edges_snd (hr1.ext (Ext.of E _)) fun d3 M3 m3 => ?_
      have n3' := edsM_len m3
      simp +contextual (maxSteps := 10000000) only [r0, r2, r4, r7, n1, n2, n3', XG_eq, go_sem, W_draw]
      refine members_snd (hr1.ext (Ext.of E _)) fun d4 M4 m4 => ?_
      have n4 := edsM_len m4
      have wa : IntKind.i64.wrap ((es.length : Int) + (ms.length : Int)) = ((es.length + ms.length : Nat) : Int) := by rw [wrap_inY (by omega) (by omega)]; simp
      have wb : IntKind.i64.wrap ((es1.length : Int) + (ms1.length : Int)) = ((es1.length + ms1.length : Nat) : Int) := by rw [wrap_inY (by omega) (by omega)]; simp
      have wc := wrap_natY (es.length + ms.length) (by omega)
      have hne : (((es.length + ms.length + 1 : Nat) : Int) != ((es1.length + ms1.length : Nat) : Int)) = false := by rw [u6]; simp
      have g8 : ∀ X, rdAt (E ++ X) (.ptr H.length 0) = some [.int .u8 kk, .str a0, .str b0] := fun X => by simp only [rdAt, (Ext.of E X).get o4E]; rfl
      have wk : IntKind.u8.wrap (kk + 1) = kk + 1 := wrap_u8' (by omega) (by omega)
      simp +contextual (maxSteps := 10000000) only [r0, r2, r4, r7, n1, n2, n3', n4, wa, wb, wc, hne, g8, wk, ld, List.head?_cons, storeK_Ea o4E, List.take_zero, List.nil_append, List.drop_succ_cons, List.drop_zero, go_sem, W_draw]
      have hFD2 : Fr [H.length] E (E.set H.length (.row [.int .u8 (kk + 1), .str a0, .str b0])) := ⟨by simp, fun o _ hn => by rw [List.getElem?_set_ne (fun e => hn (by simp [e]))]⟩
      have hS1n : ∀ o ∈ S1, H.length < o ∧ o ≠ B.length ∧ (∀ o' ∈ S', o ≠ o') := fun o ho => by
        rcases hS1 o ho with h' | h'
        · have := hSlt o h'
          exact ⟨by omega, by omega, fun o' ho' => by have := hS'lt o' ho'; omega⟩
        · have := lt_get o9D
          exact ⟨by omega, by omega, fun o' ho' => by have := hS'lt o' ho'; omega⟩
      have hrE2 := hr1.fr hFD2 fun o ho hm => by have := (hS1n o ho).1; simp at hm; omega
      have hrcE2 := hrcE.fr hFD2 fun o ho hm => by have := hS'lt o ho; simp at hm; omega
      have hEE2 : Ext H (E.set H.length (.row [.int .u8 (kk + 1), .str a0, .str b0])) := hEE.set (by omega) _
      have o4E2 : (E.set H.length (.row [.int .u8 (kk + 1), .str a0, .str b0]))[H.length]? = some (.row [.int .u8 (kk + 1), .str a0, .str b0]) := by rw [List.getElem?_set_self (lt_get o4E)]
      have o9E2 : (E.set H.length (.row [.int .u8 (kk + 1), .str a0, .str b0]))[B.length]? = some (.row [.int .u8 ke, .str ae, .str be]) := by rw [List.getElem?_set_ne (by omega)]; exact o9E
      obtain ⟨D2, hD2⟩ : ∃ X, E.set H.length (.row [.int .u8 (kk + 1), .str a0, .str b0]) = X := ⟨_, rfl⟩
      rw [hD2] at hrE2 hrcE2 hEE2 o4E2 o9E2
      simp only [hD2]
      have g9 : ∀ X, rdAt (D2 ++ X) (.ptr H.length 0) = some [.int .u8 (kk + 1), .str a0, .str b0] := fun X => by simp only [rdAt, (Ext.of D2 X).get o4E2]; rfl
      simp +contextual (maxSteps := 10000000) only [r0, r2, r4, r7, g9, ld, List.head?_cons, XG_eq, go_sem, W_draw]
      refine do_snd (hrE2.ext (Ext.of D2 _)) (by omega) (by omega) (by omega) (by omega) (by omega) fun F U6 hs2 => ?_
      rw [u3]
      rw [u4, u5] at hs2
      obtain ⟨S2, hr2, hF2, hS2⟩ := hs2
      have hEF : Ext H F := fr_of_new (hEE2.app _) (fun o ho => by have := (hS1n o ho).1; omega) hF2
      have hTF := hTB.app (U5 ++ U6)
      have hrcF := (hrcE2.ext (Ext.of D2 (M1 ++ (M2 ++ (M3 ++ M4))))).fr hF2 fun o ho hm => (hS1n o hm).2.2 o ho rfl
      have o9F : F[B.length]? = some (.row [.int .u8 ke, .str ae, .str be]) := by
        have h9 := (Ext.of D2 (M1 ++ (M2 ++ (M3 ++ M4)))).get o9E2
        rw [hF2.2 _ (lt_get h9) fun hm => (hS1n _ hm).2.1 rfl]; exact h9
      have gF : rdAt F (.ptr B.length 1) = some [.str ae, .str be] := by simp only [rdAt, o9F]; rfl
      have gF2 : rdAt F (.ptr B.length 2) = some [.str be] := by simp only [rdAt, o9F]; rfl
      have p3 := hr2.ros (a := ae) (b := be) (by omega) (by omega)
      rw [hrv] at p3
      simp +contextual (maxSteps := 10000000) only [r0, r2, r4, r7, gF, gF2, p3, ld, List.head?_cons, XG_eq, pcallG hM, lookH_cons, lookH_nil, orK_n, orK_s, go_sem, W_draw]
      refine edges_snd hrcF fun d5 N1 y1 => ?_
      have z1 := edsM_len y1
      simp +contextual (maxSteps := 10000000) only [r0, r2, r4, r7, z1, XG_eq, go_sem, W_draw]
      refine members_snd (hrcF.ext (Ext.of F _)) fun d6 N2 y2 => ?_
      have z2 := edsM_len y2
      simp +contextual (maxSteps := 10000000) only [r0, r2, r4, r7, z1, z2, XG_eq, go_sem, W_draw]
      refine edges_snd (hr2.ext (Ext.of F _)) fun d7 N3 y3 => ?_
      have z3 := edsM_len y3
      simp +contextual (maxSteps := 10000000) only [r0, r2, r4, r7, z1, z2, z3, XG_eq, go_sem, W_draw]
      refine members_snd (hr2.ext (Ext.of F _)) fun d8 N4 y4 => ?_
      have z4 := edsM_len y4
      simp +contextual (maxSteps := 10000000) only [r0, r2, r4, r7, z1, z2, z3, z4, wa, beq_self_eq_true, go_sem, W_draw]
      exact hQ' (hEF.app _) hTF
end GP
namespace GP
open Go Go.Proofs
open Rd O
set_option maxRecDepth 100000
def c46b : C :=
  (.seq (.reg [⟨(some 2), none, .mv (k .nilp)⟩])
  (.seq (.draw 1 [(⟨(some 3), none, .mv (t 0)⟩, []), (⟨(some 4), none, .nilc (t 3)⟩, []), (⟨(some 5), none, .faddr 0 (t 4)⟩, []), (⟨(some 6), none, .load false 1 (t 5)⟩, []), (⟨(some 8), none, .mv (t 0)⟩, []), (⟨(some 9), none, .nilc (t 8)⟩, []), (⟨(some 10), none, .faddr 1 (t 9)⟩, []), (⟨(some 11), none, .load false 1 (t 10)⟩, []), (⟨(some 13), none, .mv (t 0)⟩, []), (⟨(some 14), none, .nilc (t 13)⟩, []), (⟨(some 15), none, .faddr 2 (t 14)⟩, []), (⟨(some 16), none, .load false 1 (t 15)⟩, []), (⟨(some 7), none, .call (k (.fn 72 [] [])) [(t 6)]⟩, [⟨(some 11), none, .load false 1 (t 10)⟩, ⟨(some 16), none, .load false 1 (t 15)⟩]), (⟨(some 12), none, .call (k (.fn 80 [] [])) [(t 11)]⟩, [⟨(some 16), none, .load false 1 (t 15)⟩]), (⟨(some 17), none, .call (k (.fn 81 [] [])) [(t 16)]⟩, []), (⟨(some 18), none, .build [.nils, .nils, .nilm] [(0, 1, (t 7)), (1, 1, (t 12)), (2, 1, (t 17))]⟩, []), (⟨(some 19), none, .box (t 18)⟩, []), (⟨(some 2), none, .mv (t 19)⟩, [])])
  .ret))
theorem fn46b : Fn Go.Proofs.Try.prog 46 20 [.inl 2] c46b :=
  ⟨⟨_, _, Go.Proofs.Try.func46, rfl, by kernel_rfl, Go.Proofs.Try.ntmps46, by kernel_rfl, ⟨fun f => (1000002 :: imp).contains f, false, fun _ => false, false⟩, by kernel_rfl⟩⟩
end GP
namespace GP
open Go Go.Proofs
set_option maxRecDepth 100000
variable [HasG Try.prog]
variable {H B : Hp} {p oe om w : Nat} {S : List Nat} {es ms : List Ed} {eD mD : D} {ents : List (D × D × Nat)} {clk : Nat} {ks : List Nm} {c : Sb → Sb → Int} {r : Sb → Nat}
theorem RosS.make0 (h : RosD B p oe om w es ms eD mD ents clk ks c r) (hf : Fr S H B) (hp : p ∈ S) (hw : w ∈ S) (he : eD ≠ .nils → oe ∈ S ∨ H.length ≤ oe) (hm : mD ≠ .nils → om ∈ S ∨ H.length ≤ om) : Stp H B p S es ms := by
  obtain ⟨l1, l2, l3, l4, l5⟩ := h.lts
  refine ⟨[p, w, if nlB eD then p else oe, if nlB mD then p else om], ⟨?_, if nlB eD then p else oe, if nlB mD then p else om, w, by simp, by simp, by simp, by simp, eD, mD, ents, clk, ks, c, r, ?_⟩, hf, ?_⟩
  · intro o ho
    simp only [List.mem_cons, List.not_mem_nil, or_false] at ho
    rcases ho with rfl | rfl | rfl | rfl
    · exact l1
    · exact l2
    · split
      · exact l1
      · rename_i hn; exact (l4 (by rintro rfl; exact hn rfl)).1
    · split
      · exact l1
      · rename_i hn; exact (l5 (by rintro rfl; exact hn rfl)).1
  · refine { h with e := ?_, m := ?_, ne := ?_ }
    · split
      · rename_i hn
        rcases h.e with ⟨rfl, rfl⟩ | ⟨cap, X, rfl, _⟩
        · exact .inl ⟨rfl, rfl⟩
        · simp [nlB] at hn
      · exact h.e
    · split
      · rename_i hn
        rcases h.m with ⟨rfl, rfl⟩ | ⟨cap, X, rfl, _⟩
        · exact .inl ⟨rfl, rfl⟩
        · simp [nlB] at hn
      · exact h.m
    · rcases h.e with ⟨rfl, _⟩ | ⟨cap, X, rfl, _⟩
      · exact .inl rfl
      · rcases h.m with ⟨rfl, _⟩ | ⟨cap', X', rfl, _⟩
        · exact .inr (.inl rfl)
        · simpa [nlB] using h.ne
  · intro o ho
    simp only [List.mem_cons, List.not_mem_nil, or_false] at ho
    rcases ho with rfl | rfl | rfl | rfl
    · exact .inl hp
    · exact .inl hw
    · split
      · exact .inl hp
      · rename_i hn; exact he (by rintro rfl; exact hn rfl)
    · split
      · exact .inl hp
      · rename_i hn; exact hm (by rintro rfl; exact hn rfl)
theorem Sl.of_clone {C : Hp} {o : Nat} {l : List Ed} (h : C[o]? = some (.row (flE l))) : Sl C o (.ms true 2 o 0 l.length l.length) l := .inr ⟨l.length, [], rfl, by rw [List.append_nil]; exact h, by simp [flE_len]⟩
theorem cl_snd {N : FuncId} (hf : Fn Try.prog N 8 [.inl 2] (cloneC true 2 32)) {d : D} {l : List Ed} {H : Hp} {T : Tk} {Q : Post} (h : edsM H d = some l) (hl : l.length ≤ 1000) (k : ∀ L d' o, Sl (H ++ L) o d' l → (d' = .nils ∨ H.length ≤ o) → Q d' (H ++ L) T) : Snd Try.prog N [d] H T Q := by
  refine cloneE_snd hf h (by omega) (fun e => ?_) fun L o h3 h4 => k L _ o (Sl.of_clone h4) (.inr h3)
  subst e
  have hl : l = [] := by simp [edsM] at h; exact h
  have := k [] .nils 0 (.inl ⟨rfl, hl⟩) (.inl rfl)
  rw [List.append_nil] at this
  exact this
set_option maxHeartbeats 2000000 in
theorem clone46_snd {T : Tk} {Q : Post} (h : RosS H p S es ms) (k : ∀ C p' S', Ext H C → (∀ o ∈ S', H.length ≤ o) → RosS C p' S' es ms → Q (.ptr p' 0) C T) : Snd Try.prog 46 [.ptr p 0] H T Q := by
  obtain ⟨hS, oe, om, w, k1, k2, k3, k4, eD, mD, ents, clk, ks, c, r, h⟩ := h
  refine call_of fn46b (by simp) (W_mono (X := XG Try.prog [72, 80, 81] [] [] [] []) (XG.X .nil .nil .nil .nil) (fun _ _ h => h) ?_)
  have hE1 : Ext H (H ++ [Ob.hole]) := Ext.of _ _
  have h1 := h.ext hE1
  have g0 : ∀ X, rdAt (H ++ [Ob.hole] ++ X) (.ptr p 0) = some [eD, mD, .mp w] := fun X => by simp only [rdAt, (h1.ext (Ext.of _ X)).row]; rfl
  have g1 : ∀ X, rdAt (H ++ [Ob.hole] ++ X) (.ptr p 1) = some [mD, .mp w] := fun X => by simp only [rdAt, (h1.ext (Ext.of _ X)).row]; rfl
  have g2 : ∀ X, rdAt (H ++ [Ob.hole] ++ X) (.ptr p 2) = some [.mp w] := fun X => by simp only [rdAt, (h1.ext (Ext.of _ X)).row]; rfl
  have g0' := g0 []
  have g1' := g1 []
  have g2' := g2 []
  rw [List.append_nil] at g0' g1' g2'
  simp +contextual (maxSteps := 10000000) only [c46b, XG_eq, g0', g1', g2', nilc_ptr, ld, List.head?_cons, go_sem, W_draw]
  have hole : (H ++ [Ob.hole])[H.length]? = some .hole := by simp
  have hlen : (H ++ [Ob.hole]).length = H.length + 1 := by simp
  obtain ⟨H1, hH1⟩ : ∃ B, H ++ [Ob.hole] = B := ⟨_, rfl⟩
  rw [hH1] at hE1 h1 g0 g1 g2 hole hlen ⊢
  clear g0' g1' g2'
  refine cl_snd fn72c h1.e.eds (by have := h.el; omega) fun L1 e' oe' hs ho => ?_
  simp +contextual (maxSteps := 10000000) only [XG_eq, g0, g1, g2, ld, List.head?_cons, go_sem, W_draw]
  refine cl_snd fn80c (edsM_mono (hle_ext (Ext.of H1 L1)) h1.m.eds) (by have := h.ml; omega) fun L2 m' om' hs2 ho2 => ?_
  rw [List.append_assoc] at hs2 ⊢
  simp +contextual (maxSteps := 10000000) only [XG_eq, g0, g1, g2, ld, List.head?_cons, go_sem, W_draw]
  have h3 := h1.ext (Ext.of H1 (L1 ++ L2))
  refine clone81_snd h3.mp ?_
  have he2 : Sl (H1 ++ (L1 ++ L2)) oe' e' es := hs.mono fun hn => by
    rcases hs with ⟨rfl, _⟩ | ⟨_, _, _, hh, _⟩
    · exact absurd rfl hn
    · rw [← List.append_assoc, List.getElem?_append_left (lt_get hh)]
  have hm3 : (H1 ++ (L1 ++ L2) ++ [Ob.map ents clk])[(H1 ++ (L1 ++ L2)).length]? = some (.map ents clk) := by simp
  have hE4 : Ext H (H1 ++ (L1 ++ L2) ++ [Ob.map ents clk]) := (hE1.app _).app _
  have hole4 : (H1 ++ (L1 ++ L2) ++ [Ob.map ents clk])[H.length]? = some .hole := (Ext.of (H1 ++ (L1 ++ L2)) _).get ((Ext.of H1 _).get hole)
  have hs4 := he2.mono (H' := H1 ++ (L1 ++ L2) ++ [Ob.map ents clk]) fun hn => by
    rcases he2 with ⟨rfl, _⟩ | ⟨_, _, _, hh, _⟩
    · exact absurd rfl hn
    · rw [List.getElem?_append_left (lt_get hh)]
  have hs5 := hs2.mono (H' := H1 ++ (L1 ++ L2) ++ [Ob.map ents clk]) fun hn => by
    rcases hs2 with ⟨rfl, _⟩ | ⟨_, _, _, hh, _⟩
    · exact absurd rfl hn
    · rw [List.getElem?_append_left (lt_get hh)]
  have hw4 : H.length < (H1 ++ (L1 ++ L2)).length := by rw [List.length_append]; omega
  obtain ⟨w', hw'⟩ : ∃ n, (H1 ++ (L1 ++ L2)).length = n := ⟨_, rfl⟩
  obtain ⟨C, hC⟩ : ∃ B, H1 ++ (L1 ++ L2) ++ [Ob.map ents clk] = B := ⟨_, rfl⟩
  rw [hC, hw'] at hm3
  rw [hC] at hs4 hs5 hE4 hole4
  rw [hw'] at hw4
  rw [hC, hw']
  have fin : ∀ d1 d2, Sl C oe' d1 es → Sl C om' d2 ms → (d1 = .nils ∨ H1.length ≤ oe') → (d2 = .nils ∨ H1.length + L1.length ≤ om') → (d1 = .nils ∨ oe' < H1.length + L1.length) → Q (.ptr C.length 0) (C ++ [Ob.row [d1, d2, .mp w']]) T := fun d1 d2 q1 q2 q3 q4 q5 => by
    have hC2 : Ext H (C ++ [Ob.row [d1, d2, .mp w']]) := hE4.app _
    have a1 := q1.mono (H' := C ++ [Ob.row [d1, d2, .mp w']]) fun hn => by
      rcases q1 with ⟨rfl, _⟩ | ⟨_, _, _, hh, _⟩
      · exact absurd rfl hn
      · rw [List.getElem?_append_left (lt_get hh)]
    have a2 := q2.mono (H' := C ++ [Ob.row [d1, d2, .mp w']]) fun hn => by
      rcases q2 with ⟨rfl, _⟩ | ⟨_, _, _, hh, _⟩
      · exact absurd rfl hn
      · rw [List.getElem?_append_left (lt_get hh)]
    have hlH : H1.length = H.length + 1 := hlen
    have hne : d1 = .nils ∨ d2 = .nils ∨ oe' ≠ om' := by
      rcases q5 with h' | h'
      · exact .inl h'
      · rcases q4 with h'' | h''
        · exact .inr (.inl h'')
        · exact .inr (.inr (by omega))
    have hR : RosD (C ++ [Ob.row [d1, d2, .mp w']]) C.length oe' om' w' es ms d1 d2 ents clk ks c r := { h with row := by simp, e := a1, m := a2, ne := hne, mp := (Ext.of C _).get hm3 }
    obtain ⟨S', s1, s2, s3⟩ := RosS.make0 (S := [C.length, w']) hR (Fr.ext _ hC2) (by simp) (by simp) (fun hn => .inr (by
      rcases q3 with h' | h'
      · exact absurd h' hn
      · omega)) (fun hn => .inr (by
      rcases q4 with h' | h'
      · exact absurd h' hn
      · omega))
    refine k _ _ S' hC2 (fun o ho => ?_) s1
    rcases s3 o ho with h' | h'
    · have := hE4.ln
      simp only [List.mem_cons, List.not_mem_nil, or_false] at h'
      rcases h' with rfl | rfl <;> omega
    · exact h'
  have hq5 : e' = .nils ∨ oe' < H1.length + L1.length := by
    rcases hs with ⟨rfl, _⟩ | ⟨_, _, _, hh, _⟩
    · exact .inl rfl
    · have := lt_get hh; rw [List.length_append] at this; exact .inr this
  rw [List.length_append] at ho2
  have key := fin e' m' hs4 hs5 ho ho2 hq5
  rcases hs4 with ⟨rfl, hl1⟩ | ⟨cap, X, rfl, hh1, hh2⟩ <;> rcases hs5 with ⟨rfl, hl2⟩ | ⟨cap, X, rfl, hh3, hh4⟩
  all_goals
    simp +contextual (maxSteps := 10000000) only [go_sem, W_draw]
    exact key
theorem cloneOk : CloneOk := fun h k => clone46_snd h k
end GP
