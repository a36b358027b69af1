import Derived.JoinedOf
import Derived.Laws.IdiomArrays
import Derived.Test.YtjpbliffonimgaaRows
import Derived.Test.YtjpbliffonimgaaM5
import Derived.Test.YtjpbliffonimgaaM7
set_option linter.unusedSimpArgs false
set_option linter.unnecessarySimpa false
set_option linter.unusedSectionVars false
namespace GP
open Go Go.Proofs
set_option maxRecDepth 100000
variable [HasG Try.prog]
variable {H B : Hp} {p oe om w : Nat} {S : List Nat} {es ms : List Ed} {eD mD : D} {ents : List (D × D × Nat)} {clk : Nat} {ks : List Nm} {c : Sb → Sb → Int} {r : Sb → Nat}
set_option maxHeartbeats 4000000 in
theorem give_snd {s j : Sb} {T : Tk} {Q : Post} (h : RosS H p S es ms) (hs : s.length ≤ 1000) (hj : j.length ≤ 1000)
    (k : ∀ B U, Stp H B p S es (if errR es ms 2 s j = 0 then ms ++ [(s, j)] else ms) → Q (.int .i64 (errR es ms 2 s j)) B (T ++ U)) :
    Snd Try.prog 75 [.ptr p 0, .agg [.str s, .str j]] H T Q := by
  have hr := h
  obtain ⟨hS, oe, om, w, k1, k2, k3, k4, eD, mD, ents, clk, ks, c, r, h⟩ := h
  have hM : MonoH [(112, φCon)] := .cons φCon_mono .nil
  refine call_of fn75 (by simp) (W_mono (X := XG Try.prog [67] [(68, φ68)] [(112, φCon)] [] []) (XG.X (.cons ok68 .nil) (.cons ok112 .nil) .nil .nil) (fun _ _ h => h) ?_)
  have hE1 : Ext H (H ++ [Ob.row [.str s, .str j]]) := Ext.of _ _
  have g0 : rdAt (H ++ [Ob.row [.str s, .str j]]) (.ptr H.length 0) = some [.str s, .str j] := by simp [rdAt]
  have g1 : rdAt (H ++ [Ob.row [.str s, .str j]]) (.ptr H.length 1) = some [.str j] := by simp [rdAt]
  have h1 := h.ext hE1
  have gp1 : rdAt (H ++ [Ob.row [.str s, .str j]]) (.ptr p 1) = some [mD, .mp w] := by simp only [rdAt, h1.row]; rfl
  have her := edsM_er h.m.eds
  have p1 := pN hs hj
  have p2 := pC h1.m.eds (by have := h.ml; omega) s j
  have kk := k
  rw [errR_2] at k
  rcases tf' (nmB s && nmB j) with c1 | c1
  · rw [c1] at p1 k
    simp +contextual (maxSteps := 10000000) only [c75, XG_eq, g0, g1, p1, pcallG hM, lookH_cons, lookH_nil, orK_n, nilc_ptr, ld, List.head?_cons, go_sem, W_draw]
    exact k _ _ (hr.stay hE1)
  rw [c1] at p1 k
  simp only [if_true] at k
  rcases tf (ms.contains (s, j)) with c2 | c2
  · rw [c2] at p2 k
    simp +contextual (maxSteps := 10000000) only [c75, XG_eq, g0, g1, gp1, p1, p2, her, pcallG hM, lookH_cons, lookH_nil, orK_n, nilc_ptr, ld, List.head?_cons, go_sem, W_draw]
    exact k _ _ (hr.stay hE1)
  rw [c2] at p2 k
  simp only [Bool.false_eq_true, if_false] at k
  simp +contextual (maxSteps := 10000000) only [c75, XG_eq, g0, g1, gp1, p1, p2, her, pcallG hM, lookH_cons, lookH_nil, orK_n, nilc_ptr, ld, List.head?_cons, go_sem, W_draw]
  obtain ⟨H1, hH1⟩ : ∃ B, H ++ [Ob.row [.str s, .str j]] = B := ⟨_, rfl⟩
  have hH1l : H.length < H1.length := by rw [← hH1]; simp
  rw [hH1] at hE1 g0 h1 gp1 p2 ⊢
  have hne : n3 [j] es ms ≠ [] := by simp [n3]
  refine snd_er (by rfl) (names_snd (more := [j]) h1.row h1.e.eds h1.m.eds (by have := h.el; omega) (by have := h.ml; omega) (by simp) (fun e => absurd e hne) fun _ L U o cap X ho hor => ?_)
  have hE : Ext H (H1 ++ L) := hE1.trans (Ext.of _ _)
  have g0' : rdAt (H1 ++ L) (.ptr H.length 0) = some [.str s, .str j] := by
    simp only [rdAt] at g0 ⊢
    rw [List.getElem?_append_left (by omega)]; exact g0
  obtain ⟨B, hB⟩ : ∃ B, H1 ++ L = B := ⟨_, rfl⟩
  rw [hB] at hor hE g0' ⊢
  have h2 := h.ext hE
  have gq1 : rdAt B (.ptr p 1) = some [mD, .mp w] := by simp [rdAt, h2.row]
  have hcr := cntR_names es ms [j]
  have q4 : decide (((namesS (n3 [j] es ms)).length : Int) > 24) = decide (24 < cntR es ms [j]) := by
    rw [hcr]; rw [Bool.eq_iff_iff, decide_eq_true_eq, decide_eq_true_eq]; omega
  have q5 : decide ((ms.length : Int) ≥ 96) = decide (96 ≤ ms.length) := by
    rw [Bool.eq_iff_iff, decide_eq_true_eq, decide_eq_true_eq]; omega
  have q6 := edsM_len h2.m.eds
  rcases tf (decide (24 < cntR es ms [j])) with c4 | c4
  · rw [c4] at q4 k
    simp +contextual (maxSteps := 10000000) only [g0', gq1, q4, nilc_ptr, ld, List.head?_cons, go_sem, W_draw]
    exact k _ _ (hr.stay hE)
  rw [c4] at q4 k
  rcases tf (decide (96 ≤ ms.length)) with c5 | c5
  · rw [c5] at q5 k
    simp +contextual (maxSteps := 10000000) only [g0', gq1, q4, q5, q6, nilc_ptr, ld, List.head?_cons, go_sem, W_draw]
    exact k _ _ (hr.stay hE)
  rw [c5] at q5 k
  have hml : ms.length < 96 := by simpa using c5
  simp +contextual (maxSteps := 10000000) only [g0', gq1, q4, q5, q6, nilc_ptr, ld, List.head?_cons, go_sem, W_draw]
  refine appE h2.m (s, j) (by omega) fun B3 om' d' hd hdn ho' hF => ?_
  obtain ⟨l1, l2, l3, l4, l5⟩ := h2.lts
  have hom' : om' ≠ p ∧ om' ≠ w := by
    rcases ho' with ⟨rfl, hn⟩ | rfl
    · exact ⟨(l5 hn).2.1, (l5 hn).2.2⟩
    · exact ⟨by omega, by omega⟩
  have nin : ∀ x, x < B.length → (mD ≠ .nils → x ≠ om) → B3[x]? = B[x]? := fun x hx hn => hF.2 x hx fun hm => by
    split at hm
    · simp at hm
    · rename_i hb
      rw [List.mem_singleton] at hm
      exact hn (by rintro rfl; exact hb rfl) hm
  have mp3 : B3[p]? = some (.row [eD, mD, .mp w]) := by rw [nin p l1 fun hn => Ne.symm (l5 hn).2.1]; exact h2.row
  have mw3 : B3[w]? = some (.map ents clk) := by rw [nin w l2 fun hn => Ne.symm (l5 hn).2.2]; exact h2.mp
  have lp3 := lt_get mp3
  obtain ⟨o1, o2⟩ := hd.cell hdn
  simp +contextual (maxSteps := 10000000) only [storeK_E mp3, o1, o2, List.take_succ_cons, List.take_zero, List.nil_append, List.drop_succ_cons, List.drop_zero, go_sem, W_draw]
  have e0 : errR es ms 2 s j = 0 := by rw [errR_2, c1, c2, c4, c5]; rfl
  rw [e0, if_pos rfl] at kk
  refine kk _ _ (RosS.make (oe := oe) (om := om') (eD := eD) (mD := d') (w := w) (r := r) { row := ?_, e := h2.e.mono fun hn => ?_, m := hd.mono fun _ => ?_, ne := ?_, mp := ?_, ks := h.ks, cnt := h.cnt, val := h.val, en := h.en, mn := ?_, eok := h.eok, mok := fun x hx => ?_, el := h.el, ml := by simp; omega } ⟨?_, fun x hx hn => ?_⟩ k1 k4 (fun _ => .inl k2) (fun _ => ?_) hS)
  · simp [lp3]
  · rw [List.getElem?_set_ne (Ne.symm (l4 hn).2.1)]
    refine nin oe (l4 hn).1 fun he => ?_
    rcases h.ne with h' | h' | h'
    · exact absurd h' hn
    · exact absurd h' he
    · exact h'
  · rw [List.getElem?_set_ne (Ne.symm hom'.1)]
  · by_cases hn : eD = .nils
    · exact .inl hn
    · rcases ho' with ⟨rfl, hm⟩ | rfl
      · rcases h.ne with h' | h' | h'
        · exact .inl h'
        · exact absurd h' hm
        · exact .inr (.inr h')
      · exact .inr (.inr (by have := (l4 hn).1; omega))
  · rw [List.getElem?_set_ne l3]; exact mw3
  · refine List.nodup_append.2 ⟨h.mn, by simp, fun x hx y hy e => ?_⟩
    rw [List.mem_singleton] at hy
    subst hy; subst e
    rw [List.contains_iff_mem.2 hx] at c2; cases c2
  · rcases List.mem_append.1 hx with hx | hx
    · exact h.mok x hx
    · rw [List.mem_singleton] at hx; subst hx
      simpa [Bool.and_eq_true] using c1
  · have := hE.ln; have := hF.1; simp; omega
  · have lh := hE.ln
    rw [List.getElem?_set_ne (fun e => hn (by rw [← e]; exact k1)), nin x (by omega) (fun _ e => hn (by rw [e]; exact k3))]
    obtain ⟨Y, hY⟩ := hE
    rw [hY, List.getElem?_append_left hx]
  · rcases ho' with ⟨rfl, _⟩ | rfl
    · exact .inl k3
    · exact .inr (by have := hE.ln; omega)
set_option maxHeartbeats 4000000 in
theorem take_snd {s j : Sb} {T : Tk} {Q : Post} (h : RosS H p S es ms)
    (k : ∀ B U, Stp H B p S es (if errR es ms 3 s j = 0 then ms.erase (s, j) else ms) → Q (.int .i64 (errR es ms 3 s j)) B (T ++ U)) :
    Snd Try.prog 76 [.ptr p 0, .agg [.str s, .str j]] H T Q := by
  have hr := h
  obtain ⟨hS, oe, om, w, k1, k2, k3, k4, eD, mD, ents, clk, ks, c, r, h⟩ := h
  have hM : MonoH [(113, φIdx)] := .cons φIdx_mono .nil
  refine call_of fn76 (by simp) (W_mono (X := XG Try.prog [114] [] [(113, φIdx)] [] []) (XG.X .nil (.cons ok113 .nil) .nil .nil) (fun _ _ h => h) ?_)
  have hE : Ext H (H ++ [Ob.row [.str s, .str j]]) := Ext.of _ _
  have g0 : rdAt (H ++ [Ob.row [.str s, .str j]]) (.ptr H.length 0) = some [.str s, .str j] := by simp [rdAt]
  have h2 := h.ext hE
  have gp1 : rdAt (H ++ [Ob.row [.str s, .str j]]) (.ptr p 1) = some [mD, .mp w] := by simp only [rdAt, h2.row]; rfl
  have her := edsM_er h.m.eds
  have hml := h.ml
  have p2 := pI h2.m.eds (by omega) s j
  have kk := k
  rw [errR_3] at k
  rcases tf' (ms.contains (s, j)) with c1 | c1
  · have e1 : idxE ms (s, j) = -1 := by unfold idxE; rw [c1]; rfl
    rw [e1] at p2
    rw [c1] at k
    simp +contextual (maxSteps := 10000000) only [c76, XG_eq, g0, gp1, p2, her, pcallG hM, lookH_cons, lookH_nil, orK_n, nilc_ptr, ld, List.head?_cons, go_sem, W_draw]
    rw [← List.append_nil T]
    exact k _ [] (hr.stay hE)
  obtain ⟨i, hi, e1, hat, her2⟩ := idx_in c1
  rw [e1] at p2
  have d1 : decide ((i : Int) < 0) = false := by simp
  have hmne : mD ≠ .nils := by
    rintro rfl
    rcases h.m with ⟨_, h'⟩ | ⟨_, _, h', _⟩
    · rw [h'] at hi; simp at hi
    · cases h'
  obtain ⟨H1, hH1⟩ : ∃ B, H ++ [Ob.row [.str s, .str j]] = B := ⟨_, rfl⟩
  simp +contextual (maxSteps := 10000000) only [c76, XG_eq, g0, gp1, p2, d1, her, pcallG hM, lookH_cons, lookH_nil, orK_n, nilc_ptr, ld, List.head?_cons, wrap_natY i (by omega), go_sem, W_draw]
  rw [hH1] at hE g0 h2 gp1 p2 ⊢
  obtain ⟨l1, l2, l3, l4, l5⟩ := h2.lts
  obtain ⟨q1, q2, q3⟩ := l5 hmne
  rcases h2.m with ⟨e, _⟩ | ⟨cap2, X2, e, ho2, hc2⟩
  · exact absurd e hmne
  subst e
  have hel : (ms.take i ++ ms.drop (i + 1)).length = ms.length - 1 := by simp; omega
  refine delE_snd fn114 ho2 hc2 (by omega) hi ?_
  have mp3 : (H1.set om (.row (flE (ms.take i ++ ms.drop (i + 1)) ++ (.str [] :: .str [] :: X2))))[p]? = some (.row [eD, .ms true 2 om 0 ms.length cap2, .mp w]) := by rw [List.getElem?_set_ne q2]; exact h2.row
  simp +contextual (maxSteps := 10000000) only [storeK_E mp3, List.take_succ_cons, List.take_zero, List.nil_append, List.drop_succ_cons, List.drop_zero, go_sem, W_draw]
  have e0 : errR es ms 3 s j = 0 := by rw [errR_3, c1]; rfl
  rw [e0, if_pos rfl, her2] at kk
  have kk2 := fun B h => kk B [] h
  rw [List.append_nil] at kk2
  refine kk2 _ (RosS.make (oe := oe) (om := om) (eD := eD) (mD := .ms true 2 om 0 (ms.length - 1) cap2) (w := w) (r := r) { row := ?_, e := h2.e.mono fun hn => ?_, m := .inr ⟨cap2, .str [] :: .str [] :: X2, by rw [hel], ?_, ?_⟩, ne := ?_, mp := ?_, ks := h.ks, cnt := h.cnt, val := h.val, en := h.en, mn := ?_, eok := h.eok, mok := fun x hx => ?_, el := h.el, ml := by rw [hel]; omega } ⟨?_, fun x hx hn => ?_⟩ k1 k4 (fun _ => .inl k2) (fun _ => .inl k3) hS)
  · rw [List.getElem?_set_self (by simp; omega)]
  · rw [List.getElem?_set_ne (Ne.symm (l4 hn).2.1), List.getElem?_set_ne]
    rcases h.ne with h' | h' | h'
    · exact absurd h' hn
    · exact absurd h' hmne
    · exact Ne.symm h'
  · rw [List.getElem?_set_ne (Ne.symm q2)]; simp [q1]
  · rw [List.length_append, flE_len] at hc2 ⊢
    rw [hel]; simp; omega
  · rcases h.ne with h' | h' | h'
    · exact .inl h'
    · exact absurd h' hmne
    · exact .inr (.inr h')
  · rw [List.getElem?_set_ne l3, List.getElem?_set_ne q3]; exact h2.mp
  · rw [← her2]; exact h.mn.erase _
  · rw [← her2] at hx; exact h.mok x (List.mem_of_mem_erase hx)
  · have := hE.ln; simp; omega
  · have lh := hE.ln
    rw [List.getElem?_set_ne (fun e => hn (by rw [← e]; exact k1)), List.getElem?_set_ne (fun e => hn (by rw [← e]; exact k3))]
    obtain ⟨Y, hY⟩ := hE
    rw [hY, List.getElem?_append_left hx]
end GP
namespace GP
open Go Go.Proofs
set_option maxRecDepth 100000
variable [HasG Try.prog]
variable {H B : Hp} {p : Nat} {S : List Nat} {es ms : List Ed}
def stE (E M : List Ed) (k : Int) (a b : Sb) : List Ed := if errR E M k a b = 0 then nxtE E k a b else E
def stM (E M : List Ed) (k : Int) (a b : Sb) : List Ed := if errR E M k a b = 0 then nxtM M k a b else M
theorem do_mod {k : Int} (hk : 0 ≤ k) (E M : List Ed) (a b : Sb) : errR E M k a b = errR E M (k.tmod 4) a b ∧ nxtE E k a b = nxtE E (k.tmod 4) a b ∧ nxtM M k a b = nxtM M (k.tmod 4) a b := by
  have h : (k.tmod 4).tmod 4 = k.tmod 4 := by
    rw [Int.tmod_eq_emod_of_nonneg hk, Int.tmod_eq_emod_of_nonneg (Int.emod_nonneg _ (by omega))]; omega
  unfold errR nxtE nxtM
  rw [h]
  exact ⟨rfl, rfl, rfl⟩
set_option maxHeartbeats 2000000 in
theorem do_snd {k : Int} {a b : Sb} {T : Tk} {Q : Post} (h : RosS H p S es ms) (hl : es.length < 60) (ha : a.length ≤ 1000) (hb : b.length ≤ 1000) (hk : 0 ≤ k) (hk2 : k ≤ 255)
    (kQ : ∀ B U, Stp H B p S (stE es ms k a b) (stM es ms k a b) → Q (.int .i64 (errR es ms k a b)) B (T ++ U)) :
    Snd Try.prog 42 [.ptr p 0, .agg [.int .u8 k, .str a, .str b]] H T Q := by
  refine call_of fn42 (by simp) (W_mono (X := XG Try.prog [32, 74, 75, 76] [] [] [] []) (XG.X .nil .nil .nil .nil) (fun _ _ h => h) ?_)
  obtain ⟨e1, e2, e3⟩ := do_mod hk es ms a b
  unfold stE stM at kQ
  rw [e1, e2, e3] at kQ
  have hE1 : Ext H (H ++ [Ob.row [.int .u8 k, .str a, .str b]]) := Ext.of _ _
  have g0 : rdAt (H ++ [Ob.row [.int .u8 k, .str a, .str b]]) (.ptr H.length 0) = some [.int .u8 k, .str a, .str b] := by simp [rdAt]
  have g1 : rdAt (H ++ [Ob.row [.int .u8 k, .str a, .str b]]) (.ptr H.length 1) = some [.str a, .str b] := by simp [rdAt]
  have g2 : rdAt (H ++ [Ob.row [.int .u8 k, .str a, .str b]]) (.ptr H.length 2) = some [.str b] := by simp [rdAt]
  have h1 := h.fr (Fr.ext [] hE1) (by simp)
  have hS := h.1
  have m4 : k.tmod 4 = k % 4 := Int.tmod_eq_emod_of_nonneg hk
  have hkk : ∀ {C : Hp} {E M : List Ed}, Stp (H ++ [Ob.row [.int .u8 k, .str a, .str b]]) C p S E M → Stp H C p S E M := fun h => Stp.trans (Fr.ext S hE1) hS (fun o ho => .inl ho) h
  obtain ⟨r, hr⟩ : ∃ r, k.tmod 4 = r := ⟨_, rfl⟩
  have hrr : r = 0 ∨ r = 1 ∨ r = 2 ∨ r = 3 := by omega
  rw [hr] at kQ
  rcases hrr with rfl | rfl | rfl | rfl
  · simp +contextual (maxSteps := 10000000) only [c42, XG_eq, g0, g1, g2, hr, ld, List.head?_cons, go_sem, W_draw]
    refine join_snd h1 hl ha hb fun B U hs => ?_
    simp +contextual (maxSteps := 10000000) only [go_sem, W_draw]
    refine kQ _ _ ?_
    have := hkk hs
    split
    · rename_i e; rw [if_pos e] at this; exact this
    · rename_i e; rw [if_neg e] at this; exact this
  · simp +contextual (maxSteps := 10000000) only [c42, XG_eq, g0, g1, g2, hr, ld, List.head?_cons, go_sem, W_draw]
    refine part_snd h1 ha hb fun B U hs => ?_
    simp +contextual (maxSteps := 10000000) only [go_sem, W_draw]
    refine kQ _ _ ?_
    have := hkk hs
    split
    · rename_i e; rw [if_pos e] at this; exact this
    · rename_i e; rw [if_neg e] at this; exact this
  · simp +contextual (maxSteps := 10000000) only [c42, XG_eq, g0, g1, g2, hr, ld, List.head?_cons, go_sem, W_draw]
    refine give_snd h1 ha hb fun B U hs => ?_
    simp +contextual (maxSteps := 10000000) only [go_sem, W_draw]
    refine kQ _ _ ?_
    have := hkk hs
    split
    · rename_i e; rw [if_pos e] at this; exact this
    · rename_i e; rw [if_neg e] at this; exact this
  · simp +contextual (maxSteps := 10000000) only [c42, XG_eq, g0, g1, g2, hr, ld, List.head?_cons, go_sem, W_draw]
    refine take_snd h1 fun B U hs => ?_
    simp +contextual (maxSteps := 10000000) only [go_sem, W_draw]
    refine kQ _ _ ?_
    have := hkk hs
    split
    · rename_i e; rw [if_pos e] at this; exact this
    · rename_i e; rw [if_neg e] at this; exact this
end GP
namespace GP
open Go Go.Proofs
set_option maxRecDepth 100000
variable [HasG Try.prog]
variable {H B : Hp} {p : Nat} {S : List Nat} {es ms : List Ed}
abbrev St := Int × Sb × Sb
def stD (e : St) : D := .agg [.int .u8 e.1, .str e.2.1, .str e.2.2]
def stS (n : Bool) (l : List St) : D := sliceD n (l.map stD)
theorem stL_erase (l : List St) : D.eraseL (l.map stD) = l.map stD := eraseL_id fun x hx => by
  obtain ⟨e, _, rfl⟩ := List.mem_map.1 hx; rfl
@[go_sem] theorem stS_erase (n : Bool) (l : List St) : (stS n l).erase = stS n l := by unfold stS; rw [erase_sliceD, stL_erase]
@[go_sem] theorem stS_len (n : Bool) (l : List St) : lenD (stS n l) = some l.length := by
  unfold stS; rcases sliceD_cases n (l.map stD) with ⟨e, h⟩ | e <;> rw [e] <;> simp [lenD]
  have : l = [] := by simpa using h
  subst this; rfl
@[go_sem high] theorem stS_ia (n : Bool) (l : List St) (k : IntKind) (i : Nat) : ia 3 (stS n l) (.int k (i : Int)) = (l[i]?).map fun e => .el [.int .u8 e.1, .str e.2.1, .str e.2.2] := by
  unfold stS
  rw [iab_nat]
  simp only [List.getElem?_map]
  cases l[i]? <;> rfl
def stsD : List D → Option (List St)
  | [] => some []
  | .agg [.int .u8 k, .str a, .str b] :: ds => (stsD ds).map fun l => (k, a, b) :: l
  | _ => none
theorem stsD_of : ∀ {xs : List D} {l : List St}, stsD xs = some l → xs = l.map stD
  | [], l, h => by simp [stsD] at h; subst h; rfl
  | x :: xs, l, h => by
    unfold stsD at h
    split at h
    · rename_i e; cases e
    · rename_i k a b ds e
      injection e with e1 e2; subst e1; subst e2
      cases hd : stsD xs with
      | none => rw [hd] at h; cases h
      | some m =>
        rw [hd] at h
        simp only [Option.map_some] at h
        injection h with h; subst h
        rw [stsD_of hd]; rfl
    · cases h
theorem stsD_map : ∀ l : List St, stsD (l.map stD) = some l
  | [] => rfl
  | (k, a, b) :: l => by simp [stsD, stD, stsD_map l]
theorem elems_stS (n : Bool) (l : List St) : elems (stS n l) = l.map stD := elems_sliceD _ _
def okSt (e : St) : Bool := decide (e.2.1.length ≤ 100) && decide (e.2.2.length ≤ 100)
def fewB (l : List St) (n : Int) : Bool := (l.take 300).all okSt && decide ((l.length : Int) ≤ n)
def φ41 : List D → Option D
  | [d, .int .i64 n] => if isSl d = true then (match stsD (elems d) with
    | some l => some (.bool (fewB l n))
    | none => none) else none
  | _ => none
theorem all_take {l : List St} {i : Nat} {e : St} (h : l[i]? = some e) : (l.take (i + 1)).all okSt = ((l.take i).all okSt && okSt e) := by
  rw [List.take_add_one, h, List.all_append]; simp
theorem stS_of {d : D} {l : List St} (h1 : isSl d = true) (h2 : stsD (elems d) = some l) : ∃ n, d = stS n l := by
  obtain ⟨n, hn⟩ := isSl_m h1
  rw [stsD_of h2] at hn
  exact ⟨n, hn⟩
theorem isSl_stS (n : Bool) (l : List St) : isSl (stS n l) = true := by
  unfold stS; rcases sliceD_cases n (l.map stD) with ⟨e, _⟩ | e <;> rw [e] <;> rfl
theorem ok41 : OkAt Try.prog 41 φ41 := by
  refine ok_of (l := []) .nil fn41 fun args r h => ?_
  unfold φ41 at h
  split at h
  · rename_i d n
    split at h
    · rename_i hs
      split at h
      · rename_i l hl
        injection h with h; subst h
        obtain ⟨nn, rfl⟩ := stS_of hs hl
        refine ⟨by simp, by simp [D.cl], fun H T => ?_⟩
        simp +contextual (maxSteps := 10000000) only [c41, go_sem, W_draw]
        refine W_for (fun i s' => s'.t 0 = stS nn l ∧ s'.t 1 = .int .i64 n ∧ s'.t 5 = .int .i64 (i : Int) ∧ s'.H = H ∧ s'.T = T ∧ i ≤ l.length ∧ i ≤ 300 ∧ (l.take i).all okSt = true) l.length
          ⟨0, ?_⟩ (fun i s h => h.2.2.2.2.2.1) ?_ (XL_mono _)
        · simp [upd, argT]
        rintro i ⟨t, B, T'⟩ ⟨r0, r1, r5, rfl, rfl, hi, hi3, hall⟩
        simp only at r0 r1 r5
        by_cases ha : i < l.length
        · have d1 : decide ((i : Int) < l.length) = true := by simpa using ha
          by_cases h3 : i < 300
          · have d2 : decide ((i : Int) < 300) = true := by simp; omega
            have e : l[i]? = some l[i] := by simp [ha]
            obtain ⟨x, hx⟩ : ∃ x, l[i] = x := ⟨_, rfl⟩
            rw [hx] at e
            have et := all_take e
            rw [hall, Bool.true_and] at et
            have hno : okSt x = false → fewB l n = false := fun hno => by
              unfold fewB
              have : (l.take 300).all okSt = false := by
                rw [List.all_eq_false]
                refine ⟨x, ?_, by rw [hno]; simp⟩
                have : (l.take 300)[i]? = some x := by rw [List.getElem?_take_of_lt h3]; exact e
                exact List.mem_of_getElem? this
              rw [this]; rfl
            rcases tf (decide ((x.2.1.length : Int) > 100)) with g | g
            · have := hno (by unfold okSt; simp only [decide_eq_true_eq] at g; simp; intro; omega)
              simp +contextual (maxSteps := 10000000) only [r0, r1, r5, d1, d2, e, g, Option.map_some, this, go_sem, W_draw]
            · rcases tf (decide ((x.2.2.length : Int) > 100)) with g2 | g2
              · have := hno (by unfold okSt; simp only [decide_eq_true_eq] at g2; simp; intro; omega)
                simp +contextual (maxSteps := 10000000) only [r0, r1, r5, d1, d2, e, g, g2, Option.map_some, this, go_sem, W_draw]
              · have : okSt x = true := by unfold okSt; simp only [decide_eq_false_iff_not] at g g2; simp; omega
                rw [this] at et
                simp +contextual (maxSteps := 10000000) only [r0, r1, r5, d1, d2, e, g, g2, Option.map_some, wrap_natY i (by omega), go_sem, W_draw]
                exact ⟨by omega, by omega, et⟩
          · have d2 : decide ((i : Int) < 300) = false := by simp; omega
            have h300 : i = 300 := by omega
            subst h300
            have : fewB l n = decide ((l.length : Int) ≤ n) := by unfold fewB; rw [hall]; rfl
            simp +contextual (maxSteps := 10000000) only [r0, r1, r5, d1, d2, this, go_sem, W_draw]
        · have d1 : decide ((i : Int) < l.length) = false := by simpa using ha
          have : fewB l n = decide ((l.length : Int) ≤ n) := by
            unfold fewB
            have e2 : l.take i = l := List.take_of_length_le (by omega)
            rw [e2] at hall
            have : l.take 300 = l := List.take_of_length_le (by omega)
            rw [this, hall]; rfl
          simp +contextual (maxSteps := 10000000) only [r0, r1, r5, d1, this, go_sem, W_draw]
      · cases h
    · cases h
  · cases h
theorem p41 (n : Bool) (l : List St) (k : Int) : φ41 [stS n l, .int .i64 k] = some (.bool (fewB l k)) := by
  simp only [φ41, elems_stS, stsD_map]
  rw [if_pos (isSl_stS n l)]
end GP
namespace GP
open Go Go.Proofs
set_option maxRecDepth 100000
variable [HasG Try.prog]
variable {H B : Hp} {p : Nat} {S : List Nat} {es ms : List Ed}
theorem RosS.ext (h : RosS H p S es ms) (hE : Ext H B) : RosS B p S es ms := h.fr (Fr.ext [] hE) (by simp)
theorem RosS.new {H B : Hp} {p w : Nat} (h : Ros B p p p w [] []) : RosS B p [p, w] [] [] := by
  obtain ⟨eD, mD, ents, clk, ks, c, r, k⟩ := h
  obtain ⟨l1, l2, _⟩ := k.lts
  exact ⟨fun o ho => by simp at ho; rcases ho with rfl | rfl <;> assumption, p, p, w, by simp, by simp, by simp, by simp, eD, mD, ents, clk, ks, c, r, k⟩
theorem new_S {T : Tk} {Q : Post} (k : ∀ B p S, Ext H B → H.length ≤ p → (∀ o ∈ S, H.length ≤ o) → RosS B p S [] [] → Q (.ptr p 0) B T) : Snd Try.prog 31 [] H T Q :=
  new_snd fun B p w h1 h2 h3 h4 => k B p [p, w] h1 h2 (by simp [h2, h3]) (RosS.new (H := H) h4)
theorem RosS.ros {p : Nat} {S : List Nat} {es ms : List Ed} (h : RosS H p S es ms) {a b : Sb} (ha : a.length ≤ 1000) (hb : b.length ≤ 1000) : φ34 H [.ptr p 0, .str a, .str b] = some (.bool (reachB es a b)) := by
  obtain ⟨_, oe, om, w, _, _, _, _, h⟩ := h
  exact p34 h ha hb
theorem fr_of_new {S : List Nat} {A C : Hp} (hE : Ext H A) (h : ∀ o ∈ S, H.length ≤ o) (hF : Fr S A C) : Ext H C := by
  have hlen := Nat.le_trans hE.ln hF.1
  refine ⟨C.drop H.length, ?_⟩
  refine List.ext_getElem? fun i => ?_
  by_cases hi : i < H.length
  · rw [List.getElem?_append_left hi, hF.2 i (Nat.lt_of_lt_of_le hi hE.ln) (fun hm => by have := h i hm; omega)]
    obtain ⟨L, rfl⟩ := hE
    rw [List.getElem?_append_left hi]
  · rw [List.getElem?_append_right (by omega), List.getElem?_drop]
    congr 1; omega
theorem awake_snd {T : Tk} {Q : Post} (k : ∀ L U, Q (.bool true) (H ++ L) (T ++ U)) : Snd Try.prog 30 [] H T Q := by
  have hM : MonoH [(34, φ34)] := .cons φ34_mono .nil
  refine call_of fn30 (by simp) (W_mono (X := XG Try.prog [31, 32] [] [(34, φ34)] [] []) (XG.X .nil (.cons ok34 .nil) .nil .nil) (fun _ _ h => h) ?_)
  simp +contextual (maxSteps := 10000000) only [c30, XG_eq, go_sem, W_draw]
  refine new_S fun A p S hE hp hS h => ?_
  simp +contextual (maxSteps := 10000000) only [XG_eq, go_sem, W_draw]
  refine join_snd h (by simp) (by simp) (by simp) fun C U hs => ?_
  have e0 : errR [] [] 0 [97] [98] = 0 := by decide
  rw [e0, if_pos rfl] at hs
  obtain ⟨S', h2, hF, hS'⟩ := hs
  have p1 := h2.ros (a := [97]) (b := [98]) (by simp) (by simp)
  have p2 := h2.ros (a := [98]) (b := [97]) (by simp) (by simp)
  have b1 : reachB ([] ++ [([97], [98])]) [97] [98] = true := by decide
  have b2 : reachB ([] ++ [([97], [98])]) [98] [97] = false := by decide
  rw [b1] at p1; rw [b2] at p2
  obtain ⟨L, rfl⟩ := fr_of_new hE hS hF
  rw [e0]
  simp +contextual (maxSteps := 10000000) only [p1, p2, pcallG hM, lookH_cons, lookH_nil, orK_n, go_sem, W_draw]
  exact k _ _
end GP
namespace GP
open Go Go.Proofs
set_option maxRecDepth 100000
variable [HasG Try.prog]
variable {H B : Hp} {p : Nat} {S : List Nat} {es ms : List Ed}
theorem RosS.rs (h : RosS H p S es ms) : es.Nodup ∧ ms.Nodup ∧ es.length ≤ 60 ∧ ms.length ≤ 100 ∧ ∃ c r, Cnt es c r ∧ ∀ a b, reachB es a b = (nmB a && nmB b && decide (0 < c a b)) := by
  obtain ⟨_, oe, om, w, _, _, _, _, eD, mD, ents, clk, ks, c, r, h⟩ := h
  refine ⟨h.en, h.mn, h.el, h.ml, c, r, h.cnt, fun a b => ?_⟩
  rw [h.reach]; rfl
theorem few_of {l : List St} {n : Nat} (hn : n ≤ 300) (h : fewB l n = true) : l.length ≤ n ∧ ∀ x ∈ l, x.2.1.length ≤ 100 ∧ x.2.2.length ≤ 100 := by
  unfold fewB at h
  simp only [Bool.and_eq_true, decide_eq_true_eq] at h
  have hl : l.length ≤ n := by omega
  refine ⟨hl, fun x hx => ?_⟩
  rw [List.take_of_length_le (by omega)] at h
  have := List.all_eq_true.1 h.1 x hx
  unfold okSt at this
  simpa using this
theorem stE_len (E M : List Ed) (k : Int) (a b : Sb) : (stE E M k a b).length ≤ E.length + 1 := by
  unfold stE nxtE
  split
  · split
    · simp
    · split
      · rw [List.length_erase]; split <;> omega
      · omega
  · omega
def Liv (H B : Hp) (T U : Tk) (p : Nat) (S : List Nat) (es ms : List Ed) : Prop := RosS B p S es ms ∧ Ext H B ∧ (∀ o ∈ S, H.length ≤ o) ∧ ExtT T U
theorem Liv.step {T U : Tk} {C : Hp} {U' : Tk} {es' ms' : List Ed} (h : Liv H B T U p S es ms) (hs : Stp B C p S es' ms') : ∃ S', Liv H C T (U ++ U') p S' es' ms' ∧ Fr S B C ∧ ∀ o ∈ S', o ∈ S ∨ B.length ≤ o := by
  obtain ⟨h1, h2, h3, h4⟩ := h
  obtain ⟨S', k1, k2, k3⟩ := hs
  refine ⟨S', ⟨k1, fr_of_new h2 h3 k2, fun o ho => ?_, h4.app U'⟩, k2, k3⟩
  rcases k3 o ho with h' | h'
  · exact h3 o h'
  · exact Nat.le_trans h2.ln h'
def stOk (l : List St) : Bool := l.all fun e => decide (0 ≤ e.1) && decide (e.1 ≤ 255)
theorem tmod_lt {x : Int} {n : Nat} (h0 : 0 ≤ x) (hn : 0 < n) : ∃ i : Nat, x.tmod (n : Int) = (i : Int) ∧ i < n := by
  refine ⟨(x.tmod n).toNat, ?_, ?_⟩
  · have := Int.tmod_nonneg (n : Int) h0; omega
  · have := Int.tmod_lt_of_pos x (b := (n : Int)) (by omega)
    have := Int.tmod_nonneg (n : Int) h0; omega
theorem cyc {es : List Ed} {c : Sb → Sb → Int} {r : Sb → Nat} (h : Cnt es c r) (hr : ∀ a b, reachB es a b = (nmB a && nmB b && decide (0 < c a b))) {a b : Sb} (h1 : reachB es a b = true) (h2 : reachB es b a = true) : a = b := by
  rw [hr] at h1 h2
  simp only [Bool.and_eq_true, decide_eq_true_eq] at h1 h2
  exact h.anti (by omega) (by omega)
theorem trn {es : List Ed} {c : Sb → Sb → Int} {r : Sb → Nat} (h : Cnt es c r) (hr : ∀ a b, reachB es a b = (nmB a && nmB b && decide (0 < c a b))) {a b d : Sb} (h1 : reachB es a b = true) (h2 : reachB es b d = true) : reachB es a d = true := by
  rw [hr] at h1 h2 ⊢
  simp only [Bool.and_eq_true, decide_eq_true_eq] at h1 h2 ⊢
  refine ⟨⟨h1.1.1, h2.1.2⟩, ?_⟩
  have := h.pos a d
  have := h.trans (a := a) (x := b) (b := d) (by omega) (by omega)
  omega
set_option maxHeartbeats 4000000 in
theorem main9 {n : Bool} {l : List St} {x y z : Int} (hso : stOk l = true) (hok : 0 ≤ x ∧ 0 ≤ y ∧ 0 ≤ z ∧ x ≤ 255 ∧ y ≤ 255 ∧ z ≤ 255) {H : Hp} {T : Tk} {Q : Post} (hQ : ∀ L U, Q (.bool true) (H ++ L) (T ++ U)) : W (Snd Try.prog) c9 (endQ [.inl 4] Q) ⟨argT [stS n l, .agg [.int .u8 x, .int .u8 y, .int .u8 z]], H, T⟩ := by
  have hM : MonoH [(34, φ34)] := .cons φ34_mono .nil
  have hX := XG_mono (P := Try.prog) [30, 31, 42] [(41, φ41)] [(34, φ34)] [] []
  refine W_mono (X := XG Try.prog [30, 31, 42] [(41, φ41)] [(34, φ34)] [] []) (XG.X (.cons ok41 .nil) (.cons ok34 .nil) .nil .nil) (fun _ _ h => h) ?_
  have hQ' : ∀ {B : Hp} {U : Tk}, Ext H B → ExtT T U → Q (.bool true) B U := fun h k => by
    obtain ⟨L, rfl⟩ := h; obtain ⟨M, rfl⟩ := k; exact hQ L M
  obtain ⟨x0, y0, z0, x1, y1, z1⟩ := hok
  simp +contextual (maxSteps := 10000000) only [c9, XG_eq, go_sem, W_draw]
  obtain ⟨R, hR⟩ : ∃ R : Hp, R = [Ob.row [.int .u8 x, .int .u8 y, .int .u8 z]] := ⟨_, rfl⟩
  rw [← hR]
  refine awake_snd fun L1 U1 => ?_
  have p41' := p41 n l 60
  rcases tf' (fewB l 60) with hf | hf
  · rw [hf] at p41'
    simp +contextual (maxSteps := 10000000) only [p41', XG_eq, pcallG hM, lookH_cons, lookH_nil, orK_n, orK_s, go_sem, W_draw]
    refine awake_snd fun L2 U2 => ?_
    simp +contextual (maxSteps := 10000000) only [go_sem, W_draw]
    exact hQ _ _
  rw [hf] at p41'
  obtain ⟨hll, hsl⟩ := few_of (n := 60) (by omega) hf
  rcases tf ((l.length : Int) == 0) with g0 | g0
  · simp +contextual (maxSteps := 10000000) only [p41', g0, XG_eq, pcallG hM, lookH_cons, lookH_nil, orK_n, orK_s, go_sem, W_draw]
    refine awake_snd fun L2 U2 => ?_
    simp +contextual (maxSteps := 10000000) only [go_sem, W_draw]
    exact hQ _ _
  simp +contextual (maxSteps := 10000000) only [p41', g0, XG_eq, pcallG hM, lookH_cons, lookH_nil, orK_n, orK_s, go_sem, W_draw]
  have hl0 : 0 < l.length := by simp at g0; cases l with
    | nil => exact absurd rfl g0
    | cons => simp
  have hE0 : Ext H (H ++ (R ++ L1)) := Ext.of _ _
  refine new_S fun A p S hE hp hS hros => ?_
  have hL : Liv H A T (T ++ U1) p S [] [] := ⟨hros, hE0.trans hE, fun o ho => Nat.le_trans hE0.ln (hS o ho), ⟨U1, rfl⟩⟩
  clear hros hE hp hS hE0 hR
  simp +contextual (maxSteps := 10000000) only [go_sem, W_draw]
  refine W_for (fun i s' => s'.t 0 = stS n l ∧ s'.t 8 = .ptr p 0 ∧ s'.t 9 = .int .i64 (i : Int) ∧ s'.t 5 = .int .u8 x ∧ s'.t 6 = .int .u8 y ∧ s'.t 7 = .int .u8 z ∧ (∃ S es ms, Liv H s'.H T s'.T p S es ms ∧ es.length ≤ i) ∧ i ≤ l.length) l.length
    ⟨0, ?_⟩ (fun i s h => h.2.2.2.2.2.2.2) ?_ hX
  · exact ⟨by simp [upd, argT], by simp [upd], by simp [upd], by simp [upd], by simp [upd], by simp [upd], ⟨S, [], [], hL, by simp⟩, by omega⟩
  clear hL
  rintro i ⟨t, B, U⟩ ⟨r0, r8, r9, r5, r6, r7, ⟨S, es, ms, hL, he⟩, hi⟩
  simp only at r0 r8 r9 r5 r6 r7 hL
  by_cases ha : i < l.length
  · have d1 : decide ((i : Int) < l.length) = true := by simpa using ha
    have e : l[i]? = some l[i] := by simp [ha]
    obtain ⟨⟨k, a, b⟩, hx⟩ : ∃ x, l[i] = x := ⟨_, rfl⟩
    rw [hx] at e
    have hm := List.mem_of_getElem? e
    have hk := List.all_eq_true.1 hso _ hm
    have hab := hsl _ hm
    simp only [Bool.and_eq_true, decide_eq_true_eq] at hk hab
    simp +contextual (maxSteps := 10000000) only [r0, r8, r9, r5, r6, r7, d1, e, Option.map_some, XG_eq, go_sem, W_draw]
    refine do_snd hL.1 (by omega) (by omega) (by omega) hk.1 hk.2 fun C U' hs => ?_
    obtain ⟨S', hL', _, _⟩ := hL.step (U' := U') hs
    simp +contextual (maxSteps := 10000000) only [r0, r8, r9, r5, r6, r7, wrap_natY i (by omega), go_sem, W_draw]
    exact ⟨⟨S', _, _, hL', Nat.le_trans (stE_len _ _ _ _ _) (by omega)⟩, by omega⟩
  · have d1 : decide ((i : Int) < l.length) = false := by simpa using ha
    obtain ⟨i1, f1, v1⟩ := tmod_lt x0 hl0
    obtain ⟨i2, f2, v2⟩ := tmod_lt y0 hl0
    obtain ⟨i3, f3, v3⟩ := tmod_lt z0 hl0
    obtain ⟨e1, he1⟩ : ∃ e, l[i1]? = some e := ⟨_, by simp [v1]; rfl⟩
    obtain ⟨e2, he2⟩ : ∃ e, l[i2]? = some e := ⟨_, by simp [v2]; rfl⟩
    obtain ⟨e3, he3⟩ : ∃ e, l[i3]? = some e := ⟨_, by simp [v3]; rfl⟩
    have b1 := hsl _ (List.mem_of_getElem? he1)
    have b2 := hsl _ (List.mem_of_getElem? he2)
    have b3 := hsl _ (List.mem_of_getElem? he3)
    have p1 := hL.1.ros (a := e1.2.1) (b := e2.2.2) (by omega) (by omega)
    have p2 := hL.1.ros (a := e2.2.2) (b := e1.2.1) (by omega) (by omega)
    have p3 := hL.1.ros (a := e2.2.2) (b := e3.2.2) (by omega) (by omega)
    have p4 := hL.1.ros (a := e1.2.1) (b := e3.2.2) (by omega) (by omega)
    obtain ⟨_, _, _, _, c, r, hc, hr⟩ := hL.1.rs
    have w1 : IntKind.i64.wrap x = x := wrap_inY (by omega) (by omega)
    have w2 : IntKind.i64.wrap y = y := wrap_inY (by omega) (by omega)
    have w3 : IntKind.i64.wrap z = z := wrap_inY (by omega) (by omega)
    have hz : ((l.length : Int) = 0) = False := eq_false (by omega)
    obtain ⟨⟨k1, a, a'⟩, rfl⟩ : ∃ x, e1 = x := ⟨_, rfl⟩
    obtain ⟨⟨k2, b', b⟩, rfl⟩ : ∃ x, e2 = x := ⟨_, rfl⟩
    obtain ⟨⟨k3, d', d⟩, rfl⟩ : ∃ x, e3 = x := ⟨_, rfl⟩
    simp only at p1 p2 p3 p4
    obtain ⟨hE, hT⟩ : Ext H B ∧ ExtT T U := ⟨hL.2.1, hL.2.2.2⟩
    rcases tf' (reachB es a b) with c1 | c1
    · rw [c1] at p1
      simp +contextual (maxSteps := 10000000) only [r0, r8, r9, r5, r6, r7, d1, w1, w2, w3, f1, f2, f3, g0, hz, he1, he2, he3, p1, Option.map_some, pcallG hM, lookH_cons, lookH_nil, orK_n, orK_s, go_sem, W_draw]
      exact hQ' hE hT
    rw [c1] at p1
    rcases tf' (reachB es b d) with c3 | c3
    · rw [c3] at p3
      rcases tf' (reachB es b a) with c2 | c2
      · rw [c2] at p2
        simp +contextual (maxSteps := 10000000) only [r0, r8, r9, r5, r6, r7, d1, w1, w2, w3, f1, f2, f3, g0, hz, he1, he2, he3, p1, p2, p3, Option.map_some, pcallG hM, lookH_cons, lookH_nil, orK_n, orK_s, go_sem, W_draw]
        exact hQ' hE hT
      · rw [c2] at p2
        have := cyc hc hr c1 c2
        subst this
        simp +contextual (maxSteps := 10000000) only [r0, r8, r9, r5, r6, r7, d1, w1, w2, w3, f1, f2, f3, g0, hz, he1, he2, he3, p1, p2, p3, Option.map_some, pcallG hM, lookH_cons, lookH_nil, orK_n, orK_s, bne_self_eq_false, go_sem, W_draw]
        exact hQ' hE hT
    · have c4 := trn hc hr c1 c3
      rw [c3] at p3; rw [c4] at p4
      rcases tf' (reachB es b a) with c2 | c2
      · rw [c2] at p2
        simp +contextual (maxSteps := 10000000) only [r0, r8, r9, r5, r6, r7, d1, w1, w2, w3, f1, f2, f3, g0, hz, he1, he2, he3, p1, p2, p3, p4, Option.map_some, pcallG hM, lookH_cons, lookH_nil, orK_n, orK_s, go_sem, W_draw]
        exact hQ' hE hT
      · rw [c2] at p2
        have := cyc hc hr c1 c2
        subst this
        simp +contextual (maxSteps := 10000000) only [r0, r8, r9, r5, r6, r7, d1, w1, w2, w3, f1, f2, f3, g0, hz, he1, he2, he3, p1, p2, p3, p4, Option.map_some, pcallG hM, lookH_cons, lookH_nil, orK_n, orK_s, bne_self_eq_false, go_sem, W_draw]
        exact hQ' hE hT
end GP
namespace GP
open Go Go.Proofs Go.Proofs.Ytjpbliffonimgaa
open Go.ChangeShapes Go.WideShapes Go.ChangeAt Go.RowKit
set_option maxRecDepth 100000
instance instG : HasG Try.prog := ⟨fun _ _ => True, fun _ _ h => h⟩
theorem own6 : ownKnob Try.prog.godebug = none := by kernel_rfl
theorem laid6 : laidOutB Try.prog = true := by kernel_rfl
theorem rowed6 : mapsRowed Try.prog = true := by kernel_rfl
theorem full6 : ((List.range Try.prog.types.size).all fun t => match Try.prog.underlying t with | some (.slice e) => decide (0 < Try.prog.cellsOf e) | _ => true) = true := by kernel_rfl
theorem cells81 : Try.prog.cellsOf 81 = 3 := by kernel_rfl
theorem cells77 : Try.prog.cellsOf 77 = 3 := by kernel_rfl
theorem cells5 : Try.prog.cellsOf 5 = 1 := by kernel_rfl
theorem cells9 : Try.prog.cellsOf 9 = 1 := by kernel_rfl
theorem bytes81 : 1 ≤ Try.prog.bytesOf 81 := of_decide_eq_true (by kernel_rfl)
theorem u8min : IntKind.u8.min = 0 := by decide
theorem u8max : IntKind.u8.max = 255 := by decide
def isSt (d : D) : Prop := ∃ e : St, d = stD e ∧ 0 ≤ e.1 ∧ e.1 ≤ 255
theorem rdSt (W : World) : ∀ fuel, Rds Try.prog W 81 (fun ds => isSt (D.agg ds)) fuel
  | 0 => fun _ _ _ _ _ h _ => by simp [DataW.trod] at h
  | fuel + 1 => by
    refine (rds_struct (P := Try.prog) (w := W) (φs := [fun ds => ∃ n, ds = [.int .u8 n] ∧ IntKind.u8.min ≤ n ∧ n ≤ IntKind.u8.max, fun ds => ∃ l, ds = [.str l] ∧ l.length ≤ 2 ^ 47, fun ds => ∃ l, ds = [.str l] ∧ l.length ≤ 2 ^ 47]) Try.underlying81 rfl ?_ ?_ ?_).imp ?_
    · simp only [FldsOf, cells5, cells9, and_self, and_true, Nat.zero_add, Nat.reduceAdd]
    · simp only [List.map_cons, List.map_nil, cells5, cells9, cells81]; rfl
    · intro i f φ e1 e2
      match i with
      | 0 => simp at e1 e2; subst e1; subst e2; exact rds_int Try.underlying5 fuel
      | 1 => simp at e1 e2; subst e1; subst e2; exact rds_string Try.underlying9 fuel
      | 2 => simp at e1 e2; subst e1; subst e2; exact rds_string Try.underlying9 fuel
      | i + 3 => simp at e1
    · rintro ds ⟨x1, y1, rfl, ⟨k, rfl, i1, i2⟩, x2, y2, rfl, ⟨s, rfl, hs⟩, x3, y3, rfl, ⟨n, rfl, hn⟩, rfl⟩
      rw [u8min] at i1; rw [u8max] at i2
      exact ⟨(k, s, n), rfl, i1, i2⟩
def isSts (d : D) : Prop := ∃ n l, d = stS n l ∧ stOk l = true
theorem sts_of : ∀ {xs : List (List D)}, (∀ x ∈ xs, isSt (D.agg x)) → ∃ l, xs.map D.agg = l.map stD ∧ stOk l = true
  | [], _ => ⟨[], rfl, rfl⟩
  | x :: xs, h => by
    obtain ⟨e, h1, h2, h3⟩ := h x (by simp)
    obtain ⟨l, h4, h5⟩ := sts_of fun y hy => h y (List.mem_cons_of_mem _ hy)
    exact ⟨e :: l, by simp [h1, h4], by simp only [stOk, List.all_cons, Bool.and_eq_true] at h5 ⊢; exact ⟨by simp [h2, h3], h5⟩⟩
theorem argSts (W : World) : Arg Try.prog W 76 isSts := by
  have h : ∀ fuel, Rds Try.prog W 76 (fun ds => ∃ d, ds = [d] ∧ isSts d) fuel := fun fuel => by
    cases fuel with
    | zero => exact fun _ _ _ _ _ h _ => by simp [DataW.trod] at h
    | succ fuel =>
      refine (rds_slice (P := Try.prog) (w := W) (mk := D.agg) (fun _ => rfl) (sz := 3) (by decide) Try.underlying76 cells81 bytes81 (rdSt W fuel)).imp fun ds hd => ?_
      rcases hd with rfl | ⟨xs, rfl, h1, h2⟩
      · exact ⟨_, rfl, true, [], rfl, rfl⟩
      · obtain ⟨l, h3, h4⟩ := sts_of fun x hx => (h2 x hx).1
        refine ⟨_, rfl, false, l, ?_, h4⟩
        rw [h3]; rfl
  intro H enc v d ps base h1 h2 h3
  obtain ⟨x, k1, l, e, k2⟩ := arg_one Try.underlying76 rfl h H enc v d ps base h1 h2 h3
  injection e with e
  exact ⟨_, k1, e ▸ k2⟩
def isA3 (d : D) : Prop := ∃ x y z, d = .agg [.int .u8 x, .int .u8 y, .int .u8 z] ∧ 0 ≤ x ∧ 0 ≤ y ∧ 0 ≤ z ∧ x ≤ 255 ∧ y ≤ 255 ∧ z ≤ 255
theorem argA3 (W : World) : Arg Try.prog W 77 isA3 := by
  intro H enc v d ps base hd hz hok
  simp only [Value.okWide, Try.underlying77] at hok
  obtain ⟨cs, rfl, hsz, _⟩ := hok
  rw [cells77] at hsz
  obtain ⟨fuel, hf⟩ := hd
  obtain ⟨c0, c1, c2, e⟩ : ∃ c0 c1 c2, cs.toList = [c0, c1, c2] := by
    have hl : cs.toList.length = 3 := by simpa using hsz
    match cs.toList, hl with
    | [a, b, c], _ => exact ⟨a, b, c, rfl⟩
  have hf' : DataW.trod enc Try.prog W 0 (fun _ => true) true fuel 77 [c0, c1, c2] = some (d, ps) := by
    rw [← e]; exact hf
  obtain ⟨y0, y1, y2, m, hx, h0, h1, h2⟩ := trod_array3 Try.underlying77 cells5 hf'
  obtain ⟨n0, e0, _, w0⟩ := DataW.trod_int Try.underlying5 h0
  obtain ⟨n1, e1, _, w1⟩ := DataW.trod_int Try.underlying5 h1
  obtain ⟨n2, e2, _, w2⟩ := DataW.trod_int Try.underlying5 h2
  injection e0 with e0; injection e1 with e1; injection e2 with e2
  subst e0; subst e1; subst e2
  simp only [Lit.wf, Bool.and_eq_true, decide_eq_true_eq, u8min, u8max] at w0 w1 w2
  refine ⟨.agg [.int .u8 n0, .int .u8 n1, .int .u8 n2], ?_, n0, n1, n2, rfl, w0.1, w1.1, w2.1, w0.2, w1.2, w2.2⟩
  have := Rep.agg (c := Cx0 W) [.int .u8 n0, .int .u8 n1, .int .u8 n2] [.int .u8 n0, .int .u8 n1, .int .u8 n2] rfl (by simp [D.one]) (fun i hi hi' => by
    match i, hi with
    | 0, _ => exact .int .u8 n0
    | 1, _ => exact .int .u8 n1
    | 2, _ => exact .int .u8 n2)
  rw [← e] at this
  simpa using this
end GP
