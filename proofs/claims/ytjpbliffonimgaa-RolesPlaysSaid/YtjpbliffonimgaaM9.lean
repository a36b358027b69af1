import Derived.JoinedOf
import Derived.Laws.IdiomArrays
import Derived.Test.YtjpbliffonimgaaRows
import Derived.Test.YtjpbliffonimgaaM5
import Derived.Test.YtjpbliffonimgaaM8
set_option linter.unusedSimpArgs false
set_option linter.unnecessarySimpa false
set_option linter.unusedSectionVars false
namespace GP
open Go Go.Proofs
set_option maxRecDepth 100000
variable [HasG Try.prog]
variable {H B : Hp} {p : Nat} {S : List Nat} {es ms : List Ed}
abbrev St := Int × Sb × Sb
def stD (e : St) : D := .agg [.int .u8 e.1, .str e.2.1, .str e.2.2]
def stS (n : Bool) (l : List St) : D := sliceD n (l.map stD)
theorem stL_erase (l : List St) : D.eraseL (l.map stD) = l.map stD := eraseL_id fun x hx => by
  obtain ⟨e, _, rfl⟩ := List.mem_map.1 hx; rfl
@[go_sem] theorem stS_erase (n : Bool) (l : List St) : (stS n l).erase = stS n l := by unfold stS; rw [erase_sliceD, stL_erase]
@[go_sem] theorem stS_len (n : Bool) (l : List St) : lenD (stS n l) = some l.length := by
  unfold stS; rcases sliceD_cases n (l.map stD) with ⟨e, h⟩ | e <;> rw [e] <;> simp [lenD]
  have : l = [] := by simpa using h
  subst this; rfl
@[go_sem high] theorem stS_ia (n : Bool) (l : List St) (k : IntKind) (i : Nat) : ia 3 (stS n l) (.int k (i : Int)) = (l[i]?).map fun e => .el [.int .u8 e.1, .str e.2.1, .str e.2.2] := by
  unfold stS
  rw [iab_nat]
  simp only [List.getElem?_map]
  cases l[i]? <;> rfl
def stsD : List D → Option (List St)
  | [] => some []
  | .agg [.int .u8 k, .str a, .str b] :: ds => (stsD ds).map fun l => (k, a, b) :: l
  | _ => none
theorem stsD_of : ∀ {xs : List D} {l : List St}, stsD xs = some l → xs = l.map stD
  | [], l, h => by simp [stsD] at h; subst h; rfl
  | x :: xs, l, h => by
    unfold stsD at h
    split at h
    · rename_i e; cases e
    · rename_i k a b ds e
      injection e with e1 e2; subst e1; subst e2
      cases hd : stsD xs with
      | none => rw [hd] at h; cases h
      | some m =>
        rw [hd] at h
        simp only [Option.map_some] at h
        injection h with h; subst h
        rw [stsD_of hd]; rfl
    · cases h
theorem stsD_map : ∀ l : List St, stsD (l.map stD) = some l
  | [] => rfl
  | (k, a, b) :: l => by simp [stsD, stD, stsD_map l]
theorem elems_stS (n : Bool) (l : List St) : elems (stS n l) = l.map stD := elems_sliceD _ _
def okSt (e : St) : Bool := decide (e.2.1.length ≤ 100) && decide (e.2.2.length ≤ 100)
def fewB (l : List St) (n : Int) : Bool := (l.take 300).all okSt && decide ((l.length : Int) ≤ n)
def φ41 : List D → Option D
  | [d, .int .i64 n] => if isSl d = true then (match stsD (elems d) with
    | some l => some (.bool (fewB l n))
    | none => none) else none
  | _ => none
theorem all_take {l : List St} {i : Nat} {e : St} (h : l[i]? = some e) : (l.take (i + 1)).all okSt = ((l.take i).all okSt && okSt e) := by
  rw [List.take_add_one, h, List.all_append]; simp
theorem stS_of {d : D} {l : List St} (h1 : isSl d = true) (h2 : stsD (elems d) = some l) : ∃ n, d = stS n l := by
  obtain ⟨n, hn⟩ := isSl_m h1
  rw [stsD_of h2] at hn
  exact ⟨n, hn⟩
theorem isSl_stS (n : Bool) (l : List St) : isSl (stS n l) = true := by
  unfold stS; rcases sliceD_cases n (l.map stD) with ⟨e, _⟩ | e <;> rw [e] <;> rfl
theorem ok41 : OkAt Try.prog 41 φ41 := by
  refine ok_of (l := []) .nil fn41 fun args r h => ?_
  unfold φ41 at h
  split at h
  · rename_i d n
    split at h
    · rename_i hs
      split at h
      · rename_i l hl
        injection h with h; subst h
        obtain ⟨nn, rfl⟩ := stS_of hs hl
        refine ⟨by simp, by simp [D.cl], fun H T => ?_⟩
        simp +contextual (maxSteps := 10000000) only [c41, go_sem, W_draw]
        refine W_for (fun i s' => s'.t 0 = stS nn l ∧ s'.t 1 = .int .i64 n ∧ s'.t 5 = .int .i64 (i : Int) ∧ s'.H = H ∧ s'.T = T ∧ i ≤ l.length ∧ i ≤ 300 ∧ (l.take i).all okSt = true) l.length
          ⟨0, ?_⟩ (fun i s h => h.2.2.2.2.2.1) ?_ (XL_mono _)
        · simp [upd, argT]
        rintro i ⟨t, B, T'⟩ ⟨r0, r1, r5, rfl, rfl, hi, hi3, hall⟩
        simp only at r0 r1 r5
        by_cases ha : i < l.length
        · have d1 : decide ((i : Int) < l.length) = true := by simpa using ha
          by_cases h3 : i < 300
          · have d2 : decide ((i : Int) < 300) = true := by simp; omega
            have e : l[i]? = some l[i] := by simp [ha]
            obtain ⟨x, hx⟩ : ∃ x, l[i] = x := ⟨_, rfl⟩
            rw [hx] at e
            have et := all_take e
            rw [hall, Bool.true_and] at et
            have hno : okSt x = false → fewB l n = false := fun hno => by
              unfold fewB
              have : (l.take 300).all okSt = false := by
                rw [List.all_eq_false]
                refine ⟨x, ?_, by rw [hno]; simp⟩
                have : (l.take 300)[i]? = some x := by rw [List.getElem?_take_of_lt h3]; exact e
                exact List.mem_of_getElem? this
              rw [this]; rfl
            rcases tf (decide ((x.2.1.length : Int) > 100)) with g | g
            · have := hno (by unfold okSt; simp only [decide_eq_true_eq] at g; simp; intro; omega)
              simp +contextual (maxSteps := 10000000) only [r0, r1, r5, d1, d2, e, g, Option.map_some, this, go_sem, W_draw]
            · rcases tf (decide ((x.2.2.length : Int) > 100)) with g2 | g2
              · have := hno (by unfold okSt; simp only [decide_eq_true_eq] at g2; simp; intro; omega)
                simp +contextual (maxSteps := 10000000) only [r0, r1, r5, d1, d2, e, g, g2, Option.map_some, this, go_sem, W_draw]
              · have : okSt x = true := by unfold okSt; simp only [decide_eq_false_iff_not] at g g2; simp; omega
                rw [this] at et
                simp +contextual (maxSteps := 10000000) only [r0, r1, r5, d1, d2, e, g, g2, Option.map_some, wrap_natY i (by omega), go_sem, W_draw]
                exact ⟨by omega, by omega, et⟩
          · have d2 : decide ((i : Int) < 300) = false := by simp; omega
            have h300 : i = 300 := by omega
            subst h300
            have : fewB l n = decide ((l.length : Int) ≤ n) := by unfold fewB; rw [hall]; rfl
            simp +contextual (maxSteps := 10000000) only [r0, r1, r5, d1, d2, this, go_sem, W_draw]
        · have d1 : decide ((i : Int) < l.length) = false := by simpa using ha
          have : fewB l n = decide ((l.length : Int) ≤ n) := by
            unfold fewB
            have e2 : l.take i = l := List.take_of_length_le (by omega)
            rw [e2] at hall
            have : l.take 300 = l := List.take_of_length_le (by omega)
            rw [this, hall]; rfl
          simp +contextual (maxSteps := 10000000) only [r0, r1, r5, d1, this, go_sem, W_draw]
      · cases h
    · cases h
  · cases h
theorem p41 (n : Bool) (l : List St) (k : Int) : φ41 [stS n l, .int .i64 k] = some (.bool (fewB l k)) := by
  simp only [φ41, elems_stS, stsD_map]
  rw [if_pos (isSl_stS n l)]
theorem edges_snd {T : Tk} {Q : Post} (h : RosS H p S es ms) (k : ∀ d L, edsM (H ++ L) d = some es → Q d (H ++ L) T) : Snd Try.prog 35 [.ptr p 0] H T Q := by
  obtain ⟨hS, oe, om, w, k1, k2, k3, k4, eD, mD, ents, clk, ks, c, r, h⟩ := h
  refine call_of fn35 (by simp) (W_mono (X := XG Try.prog [72] [] [] [] []) (XG.X .nil .nil .nil .nil) (fun _ _ h => h) ?_)
  have g0 : rdAt H (.ptr p 0) = some [eD, mD, .mp w] := by simp only [rdAt, h.row]; rfl
  simp +contextual (maxSteps := 10000000) only [c35, XG_eq, g0, nilc_ptr, ld, List.head?_cons, go_sem, W_draw]
  refine cloneE_snd fn72c h.e.eds (by have := h.el; omega) (fun e => ?_) fun L o h1 h2 => ?_
  · simp +contextual (maxSteps := 10000000) only [go_sem, W_draw]
    have := k .nils []
    rw [List.append_nil] at this
    have he := h.e.eds
    rw [e] at he
    exact this he
  · simp +contextual (maxSteps := 10000000) only [go_sem, W_draw]
    refine k _ _ ?_
    have := edsM_ms (cap := es.length) (X := []) (l := es) (H := H ++ L) (o := o) (by rw [List.append_nil]; exact h2)
    exact this
theorem members_snd {T : Tk} {Q : Post} (h : RosS H p S es ms) (k : ∀ d L, edsM (H ++ L) d = some ms → Q d (H ++ L) T) : Snd Try.prog 47 [.ptr p 0] H T Q := by
  obtain ⟨hS, oe, om, w, k1, k2, k3, k4, eD, mD, ents, clk, ks, c, r, h⟩ := h
  refine call_of fn47 (by simp) (W_mono (X := XG Try.prog [80] [] [] [] []) (XG.X .nil .nil .nil .nil) (fun _ _ h => h) ?_)
  have g0 : rdAt H (.ptr p 1) = some [mD, .mp w] := by simp only [rdAt, h.row]; rfl
  simp +contextual (maxSteps := 10000000) only [c47, XG_eq, g0, nilc_ptr, ld, List.head?_cons, go_sem, W_draw]
  refine cloneE_snd fn80c h.m.eds (by have := h.ml; omega) (fun e => ?_) fun L o h1 h2 => ?_
  · simp +contextual (maxSteps := 10000000) only [go_sem, W_draw]
    have := k .nils []
    rw [List.append_nil] at this
    have he := h.m.eds
    rw [e] at he
    exact this he
  · simp +contextual (maxSteps := 10000000) only [go_sem, W_draw]
    refine k _ _ ?_
    have := edsM_ms (cap := ms.length) (X := []) (l := ms) (H := H ++ L) (o := o) (by rw [List.append_nil]; exact h2)
    exact this
end GP
namespace GP
open Go Go.Proofs
set_option maxRecDepth 100000
variable [HasG Try.prog]
variable {H B : Hp} {p : Nat} {S : List Nat} {es ms : List Ed}
theorem RosS.ext (h : RosS H p S es ms) (hE : Ext H B) : RosS B p S es ms := h.fr (Fr.ext [] hE) (by simp)
theorem eq_self_ed (e : Ed) : eqCells [.str e.1, .str e.2] [.str e.1, .str e.2] = some true := by rw [eq_ed e e]; simp
set_option maxHeartbeats 2000000 in
theorem same_snd {n n2 : Bool} {T : Tk} {Q : Post} (h : RosS H p S es ms) (hl1 : es.length ≤ 1000) (hl2 : ms.length ≤ 1000) (k : ∀ L U, Q (.bool true) (H ++ L) (T ++ U)) : Snd Try.prog 44 [.ptr p 0, .agg [edS n es, edS n2 ms]] H T Q := by
  have hX := XG_mono (P := Try.prog) [35, 47] [] [] [] []
  refine call_of fn44 (by simp) (W_mono (X := XG Try.prog [35, 47] [] [] [] []) (XG.X .nil .nil .nil .nil) (fun _ _ h => h) ?_)
  simp +contextual (maxSteps := 10000000) only [c44, XG_eq, go_sem, W_draw]
  have hE1 : Ext H (H ++ [Ob.row [edS n es, edS n2 ms]]) := Ext.of _ _
  refine edges_snd (h.ext hE1) fun d5 L1 h5 => ?_
  have hE2 : Ext H (H ++ [Ob.row [edS n es, edS n2 ms]] ++ L1) := hE1.app L1
  have g0 : rdAt (H ++ [Ob.row [edS n es, edS n2 ms]] ++ L1) (.ptr H.length 0) = some [edS n es, edS n2 ms] := by simp [rdAt]
  have g1 : rdAt (H ++ [Ob.row [edS n es, edS n2 ms]] ++ L1) (.ptr H.length 1) = some [edS n2 ms] := by simp [rdAt]
  obtain ⟨B1, hB1⟩ : ∃ B, H ++ [Ob.row [edS n es, edS n2 ms]] ++ L1 = B := ⟨_, rfl⟩
  rw [hB1] at hE2 h5 g0 g1 ⊢
  have hlB : H.length < B1.length := by rw [← hB1]; simp
  simp +contextual (maxSteps := 10000000) only [XG_eq, go_sem, W_draw]
  refine members_snd (h.ext hE2) fun d6 L2 h6 => ?_
  have hE3 : Ext H (B1 ++ L2) := hE2.app L2
  have h5' := edsM_mono (hle_ext (Ext.of _ L2)) h5
  have g0 : rdAt (B1 ++ L2) (.ptr H.length 0) = some [edS n es, edS n2 ms] := by
    simp only [rdAt] at g0 ⊢
    rw [List.getElem?_append_left hlB]; exact g0
  have g1 : rdAt (B1 ++ L2) (.ptr H.length 1) = some [edS n2 ms] := by
    simp only [rdAt] at g1 ⊢
    rw [List.getElem?_append_left hlB]; exact g1
  clear h5
  obtain ⟨B, hB⟩ : ∃ B, B1 ++ L2 = B := ⟨_, rfl⟩
  rw [hB] at g0 g1 h6 h5' hE3 ⊢
  have q5 := edsM_len h5'
  have q6 := edsM_len h6
  simp +contextual (maxSteps := 10000000) only [g0, g1, q5, q6, go_sem, W_draw]
  refine W_for (fun i s' => s'.t 3 = .ptr H.length 0 ∧ s'.t 5 = d5 ∧ s'.t 6 = d6 ∧ s'.t 7 = .int .i64 (i : Int) ∧ s'.H = B ∧ ExtT T s'.T ∧ i ≤ es.length) es.length
    ⟨0, ?_⟩ (fun i s h => h.2.2.2.2.2.2) ?_ hX
  · exact ⟨by simp [upd], by simp [upd], by simp [upd], by simp [upd], rfl, ExtT.refl T, by omega⟩
  rintro i ⟨t, B', U⟩ ⟨r3, r5, r6, r7, rfl, hT, hi⟩
  simp only at r3 r5 r6 r7 hT
  by_cases ha : i < es.length
  · have d1 : decide ((i : Int) < es.length) = true := by simpa using ha
    have e : es[i]? = some es[i] := by simp [ha]
    obtain ⟨x, hx⟩ : ∃ x, es[i] = x := ⟨_, rfl⟩
    rw [hx] at e
    obtain ⟨o, e1, X, e2⟩ := edsM_at h5' e .i64
    have q := eq_self_ed x
    simp +contextual (maxSteps := 10000000) only [r3, r5, r6, r7, g0, g1, q5, d1, e1, e2, e, q, Option.map_some, wrap_natY i (by omega), go_sem, W_draw]
    exact ⟨hT, by omega⟩
  · have d1 : decide ((i : Int) < es.length) = false := by simpa using ha
    simp +contextual (maxSteps := 10000000) only [r3, r5, r6, r7, q5, d1, go_sem, W_draw]
    clear hi ha d1 r7
    refine W_for (fun i s' => s'.t 3 = .ptr H.length 0 ∧ s'.t 6 = d6 ∧ s'.t 8 = .int .i64 (i : Int) ∧ s'.H = B' ∧ ExtT T s'.T ∧ i ≤ ms.length) ms.length
      ⟨0, ?_⟩ (fun i s h => h.2.2.2.2.2) ?_ hX
    · exact ⟨by simp [upd, r3], by simp [upd, r6], by simp [upd], rfl, hT, by omega⟩
    clear r3 r5 r6 hT
    rintro i ⟨t, B, U⟩ ⟨r3, r6, r8, rfl, hT, hi⟩
    simp only at r3 r6 r8 hT
    by_cases ha : i < ms.length
    · have d1 : decide ((i : Int) < ms.length) = true := by simpa using ha
      have e : ms[i]? = some ms[i] := by simp [ha]
      obtain ⟨x, hx⟩ : ∃ x, ms[i] = x := ⟨_, rfl⟩
      rw [hx] at e
      obtain ⟨o, e1, X, e2⟩ := edsM_at h6 e .i64
      have q := eq_self_ed x
      simp +contextual (maxSteps := 10000000) only [r3, r6, r8, g1, q6, d1, e1, e2, e, q, Option.map_some, wrap_natY i (by omega), go_sem, W_draw]
      exact ⟨hT, by omega⟩
    · have d1 : decide ((i : Int) < ms.length) = false := by simpa using ha
      obtain ⟨U', rfl⟩ := hT
      obtain ⟨L, rfl⟩ := hE3
      simp +contextual (maxSteps := 10000000) only [r3, r6, r8, q6, d1, go_sem, W_draw]
      exact k _ _
theorem RosS.new {H B : Hp} {p w : Nat} (h : Ros B p p p w [] []) : RosS B p [p, w] [] [] := by
  obtain ⟨eD, mD, ents, clk, ks, c, r, k⟩ := h
  obtain ⟨l1, l2, _⟩ := k.lts
  exact ⟨fun o ho => by simp at ho; rcases ho with rfl | rfl <;> assumption, p, p, w, by simp, by simp, by simp, by simp, eD, mD, ents, clk, ks, c, r, k⟩
theorem new_S {T : Tk} {Q : Post} (k : ∀ B p S, Ext H B → H.length ≤ p → (∀ o ∈ S, H.length ≤ o) → RosS B p S [] [] → Q (.ptr p 0) B T) : Snd Try.prog 31 [] H T Q :=
  new_snd fun B p w h1 h2 h3 h4 => k B p [p, w] h1 h2 (by simp [h2, h3]) (RosS.new (H := H) h4)
theorem RosS.ros {p : Nat} {S : List Nat} {es ms : List Ed} (h : RosS H p S es ms) {a b : Sb} (ha : a.length ≤ 1000) (hb : b.length ≤ 1000) : φ34 H [.ptr p 0, .str a, .str b] = some (.bool (reachB es a b)) := by
  obtain ⟨_, oe, om, w, _, _, _, _, h⟩ := h
  exact p34 h ha hb
theorem fr_of_new {S : List Nat} {A C : Hp} (hE : Ext H A) (h : ∀ o ∈ S, H.length ≤ o) (hF : Fr S A C) : Ext H C := by
  have hlen := Nat.le_trans hE.ln hF.1
  refine ⟨C.drop H.length, ?_⟩
  refine List.ext_getElem? fun i => ?_
  by_cases hi : i < H.length
  · rw [List.getElem?_append_left hi, hF.2 i (Nat.lt_of_lt_of_le hi hE.ln) (fun hm => by have := h i hm; omega)]
    obtain ⟨L, rfl⟩ := hE
    rw [List.getElem?_append_left hi]
  · rw [List.getElem?_append_right (by omega), List.getElem?_drop]
    congr 1; omega
theorem awake_snd {T : Tk} {Q : Post} (k : ∀ L U, Q (.bool true) (H ++ L) (T ++ U)) : Snd Try.prog 30 [] H T Q := by
  have hM : MonoH [(34, φ34)] := .cons φ34_mono .nil
  refine call_of fn30 (by simp) (W_mono (X := XG Try.prog [31, 32] [] [(34, φ34)] [] []) (XG.X .nil (.cons ok34 .nil) .nil .nil) (fun _ _ h => h) ?_)
  simp +contextual (maxSteps := 10000000) only [c30, XG_eq, go_sem, W_draw]
  refine new_S fun A p S hE hp hS h => ?_
  simp +contextual (maxSteps := 10000000) only [XG_eq, go_sem, W_draw]
  refine join_snd h (by simp) (by simp) (by simp) fun C U hs => ?_
  have e0 : errR [] [] 0 [97] [98] = 0 := by decide
  rw [e0, if_pos rfl] at hs
  obtain ⟨S', h2, hF, hS'⟩ := hs
  have p1 := h2.ros (a := [97]) (b := [98]) (by simp) (by simp)
  have p2 := h2.ros (a := [98]) (b := [97]) (by simp) (by simp)
  have b1 : reachB ([] ++ [([97], [98])]) [97] [98] = true := by decide
  have b2 : reachB ([] ++ [([97], [98])]) [98] [97] = false := by decide
  rw [b1] at p1; rw [b2] at p2
  obtain ⟨L, rfl⟩ := fr_of_new hE hS hF
  rw [e0]
  simp +contextual (maxSteps := 10000000) only [p1, p2, pcallG hM, lookH_cons, lookH_nil, orK_n, go_sem, W_draw]
  exact k _ _
end GP
namespace GP
open Go Go.Proofs
set_option maxRecDepth 100000
variable [HasG Try.prog]
variable {H B : Hp} {p : Nat} {S : List Nat} {es ms : List Ed}
theorem RosS.rs (h : RosS H p S es ms) : es.Nodup ∧ ms.Nodup ∧ es.length ≤ 60 ∧ ms.length ≤ 100 ∧ ∃ c r, Cnt es c r ∧ ∀ a b, reachB es a b = (nmB a && nmB b && decide (0 < c a b)) := by
  obtain ⟨_, oe, om, w, _, _, _, _, eD, mD, ents, clk, ks, c, r, h⟩ := h
  refine ⟨h.en, h.mn, h.el, h.ml, c, r, h.cnt, fun a b => ?_⟩
  rw [h.reach]; rfl
theorem few_of {l : List St} {n : Nat} (hn : n ≤ 300) (h : fewB l n = true) : l.length ≤ n ∧ ∀ x ∈ l, x.2.1.length ≤ 100 ∧ x.2.2.length ≤ 100 := by
  unfold fewB at h
  simp only [Bool.and_eq_true, decide_eq_true_eq] at h
  have hl : l.length ≤ n := by omega
  refine ⟨hl, fun x hx => ?_⟩
  rw [List.take_of_length_le (by omega)] at h
  have := List.all_eq_true.1 h.1 x hx
  unfold okSt at this
  simpa using this
theorem stE_len (E M : List Ed) (k : Int) (a b : Sb) : (stE E M k a b).length ≤ E.length + 1 := by
  unfold stE nxtE
  split
  · split
    · simp
    · split
      · rw [List.length_erase]; split <;> omega
      · omega
  · omega
def Liv (H B : Hp) (T U : Tk) (p : Nat) (S : List Nat) (es ms : List Ed) : Prop := RosS B p S es ms ∧ Ext H B ∧ (∀ o ∈ S, H.length ≤ o) ∧ ExtT T U
theorem Liv.step {T U : Tk} {C : Hp} {U' : Tk} {es' ms' : List Ed} (h : Liv H B T U p S es ms) (hs : Stp B C p S es' ms') : ∃ S', Liv H C T (U ++ U') p S' es' ms' ∧ Fr S B C ∧ ∀ o ∈ S', o ∈ S ∨ B.length ≤ o := by
  obtain ⟨h1, h2, h3, h4⟩ := h
  obtain ⟨S', k1, k2, k3⟩ := hs
  refine ⟨S', ⟨k1, fr_of_new h2 h3 k2, fun o ho => ?_, h4.app U'⟩, k2, k3⟩
  rcases k3 o ho with h' | h'
  · exact h3 o h'
  · exact Nat.le_trans h2.ln h'
def stOk (l : List St) : Bool := l.all fun e => decide (0 ≤ e.1) && decide (e.1 ≤ 255)
end GP
namespace GP
open Go Go.Proofs Go.Proofs.Ytjpbliffonimgaa
open Go.ChangeShapes Go.WideShapes Go.ChangeAt Go.RowKit
set_option maxRecDepth 100000
instance instG : HasG Try.prog := ⟨fun _ _ => True, fun _ _ h => h⟩
theorem own6 : ownKnob Try.prog.godebug = none := by kernel_rfl
theorem laid6 : laidOutB Try.prog = true := by kernel_rfl
theorem rowed6 : mapsRowed Try.prog = true := by kernel_rfl
theorem full6 : ((List.range Try.prog.types.size).all fun t => match Try.prog.underlying t with | some (.slice e) => decide (0 < Try.prog.cellsOf e) | _ => true) = true := by kernel_rfl
theorem cells81 : Try.prog.cellsOf 81 = 3 := by kernel_rfl
theorem cells5 : Try.prog.cellsOf 5 = 1 := by kernel_rfl
theorem cells9 : Try.prog.cellsOf 9 = 1 := by kernel_rfl
theorem bytes81 : 1 ≤ Try.prog.bytesOf 81 := of_decide_eq_true (by kernel_rfl)
theorem u8min : IntKind.u8.min = 0 := by decide
theorem u8max : IntKind.u8.max = 255 := by decide
def isSt (d : D) : Prop := ∃ e : St, d = stD e ∧ 0 ≤ e.1 ∧ e.1 ≤ 255
theorem rdSt (W : World) : ∀ fuel, Rds Try.prog W 81 (fun ds => isSt (D.agg ds)) fuel
  | 0 => fun _ _ _ _ _ h _ => by simp [DataW.trod] at h
  | fuel + 1 => by
    refine (rds_struct (P := Try.prog) (w := W) (φs := [fun ds => ∃ n, ds = [.int .u8 n] ∧ IntKind.u8.min ≤ n ∧ n ≤ IntKind.u8.max, fun ds => ∃ l, ds = [.str l] ∧ l.length ≤ 2 ^ 47, fun ds => ∃ l, ds = [.str l] ∧ l.length ≤ 2 ^ 47]) Try.underlying81 rfl ?_ ?_ ?_).imp ?_
    · simp only [FldsOf, cells5, cells9, and_self, and_true, Nat.zero_add, Nat.reduceAdd]
    · simp only [List.map_cons, List.map_nil, cells5, cells9, cells81]; rfl
    · intro i f φ e1 e2
      match i with
      | 0 => simp at e1 e2; subst e1; subst e2; exact rds_int Try.underlying5 fuel
      | 1 => simp at e1 e2; subst e1; subst e2; exact rds_string Try.underlying9 fuel
      | 2 => simp at e1 e2; subst e1; subst e2; exact rds_string Try.underlying9 fuel
      | i + 3 => simp at e1
    · rintro ds ⟨x1, y1, rfl, ⟨k, rfl, i1, i2⟩, x2, y2, rfl, ⟨s, rfl, hs⟩, x3, y3, rfl, ⟨n, rfl, hn⟩, rfl⟩
      rw [u8min] at i1; rw [u8max] at i2
      exact ⟨(k, s, n), rfl, i1, i2⟩
def isSts (d : D) : Prop := ∃ n l, d = stS n l ∧ stOk l = true
theorem sts_of : ∀ {xs : List (List D)}, (∀ x ∈ xs, isSt (D.agg x)) → ∃ l, xs.map D.agg = l.map stD ∧ stOk l = true
  | [], _ => ⟨[], rfl, rfl⟩
  | x :: xs, h => by
    obtain ⟨e, h1, h2, h3⟩ := h x (by simp)
    obtain ⟨l, h4, h5⟩ := sts_of fun y hy => h y (List.mem_cons_of_mem _ hy)
    exact ⟨e :: l, by simp [h1, h4], by simp only [stOk, List.all_cons, Bool.and_eq_true] at h5 ⊢; exact ⟨by simp [h2, h3], h5⟩⟩
theorem argSts (W : World) : Arg Try.prog W 76 isSts := by
  have h : ∀ fuel, Rds Try.prog W 76 (fun ds => ∃ d, ds = [d] ∧ isSts d) fuel := fun fuel => by
    cases fuel with
    | zero => exact fun _ _ _ _ _ h _ => by simp [DataW.trod] at h
    | succ fuel =>
      refine (rds_slice (P := Try.prog) (w := W) (mk := D.agg) (fun _ => rfl) (sz := 3) (by decide) Try.underlying76 cells81 bytes81 (rdSt W fuel)).imp fun ds hd => ?_
      rcases hd with rfl | ⟨xs, rfl, h1, h2⟩
      · exact ⟨_, rfl, true, [], rfl, rfl⟩
      · obtain ⟨l, h3, h4⟩ := sts_of fun x hx => (h2 x hx).1
        refine ⟨_, rfl, false, l, ?_, h4⟩
        rw [h3]; rfl
  intro H enc v d ps base h1 h2 h3
  obtain ⟨x, k1, l, e, k2⟩ := arg_one Try.underlying76 rfl h H enc v d ps base h1 h2 h3
  injection e with e
  exact ⟨_, k1, e ▸ k2⟩
theorem argStr (W : World) : Arg Try.prog W 9 (fun x => ∃ l, x = .str l ∧ l.length ≤ 2 ^ 47) := by
  intro H enc v d ps base h1 h2 h3
  obtain ⟨x, k1, l, e, hl⟩ := arg_one Try.underlying9 rfl (fun f => rds_string Try.underlying9 f) H enc v d ps base h1 h2 h3
  injection e with e
  exact ⟨_, k1, l, e, hl⟩
end GP
namespace GP
open Go Go.Proofs
set_option maxRecDepth 100000
variable [HasG Try.prog]
variable {H B : Hp} {p : Nat} {S : List Nat} {es ms : List Ed}
theorem rosR_st (n n2 : Bool) (E M : List Ed) (k : Int) (a b : Sb) : ∃ m m2, rosR n n2 E M k a b = .agg [edS m (stE E M k a b), edS m2 (stM E M k a b)] := by
  unfold rosR stE stM
  by_cases h : errR E M k a b = 0
  · simp only [h, beq_self_eq_true, if_true]
    exact ⟨_, _, rfl⟩
  · have : (errR E M k a b == 0) = false := by simpa using h
    simp only [this, h, if_false, Bool.false_eq_true]
    exact ⟨_, _, rfl⟩
open Classical in
theorem p43 (n n2 : Bool) {E M : List Ed} {k : Int} (a b : Sb) (h1 : E.length ≤ 800) (h2 : M.length ≤ 800) (h3 : E.Nodup) (h4 : M.Nodup) (h5 : 0 ≤ k) : ∃ m m2, φ43 [.agg [edS n E, edS n2 M], .agg [.int .u8 k, .str a, .str b]] = some (.tup [.agg [edS m (stE E M k a b), edS m2 (stM E M k a b)], .int .i64 (errR E M k a b)]) := by
  simp only [φ43, edgesD_S]
  rw [if_pos ⟨h1, h2, h3, h4, h5⟩]
  obtain ⟨m, m2, e⟩ := rosR_st (isNl (edS n E)) (isNl (edS n2 M)) E M k a b
  exact ⟨m, m2, by rw [e]⟩
set_option maxHeartbeats 4000000 in
theorem main10 {n : Bool} {l : List St} {a0 b0 : Sb} (hso : stOk l = true) {H : Hp} {T : Tk} {Q : Post} (hQ : ∀ L U, Q (.bool true) (H ++ L) (T ++ U)) : W (Snd Try.prog) c10 (endQ [.inl 6] Q) ⟨argT [stS n l, .str a0, .str b0], H, T⟩ := by
  have hM : MonoH [(34, φ34)] := .cons φ34_mono .nil
  have hX := XG_mono (P := Try.prog) [30, 31, 42, 44] [(41, φ41), (43, φ43), (45, φ45)] [(34, φ34)] [] []
  refine W_mono (X := XG Try.prog [30, 31, 42, 44] [(41, φ41), (43, φ43), (45, φ45)] [(34, φ34)] [] []) (XG.X (.cons ok41 (.cons ok43 (.cons ok45 .nil))) (.cons ok34 .nil) .nil .nil) (fun _ _ h => h) ?_
  have hQ' : ∀ {B : Hp} {U : Tk}, Ext H B → ExtT T U → Q (.bool true) B U := fun h k => by
    obtain ⟨L, rfl⟩ := h; obtain ⟨M, rfl⟩ := k; exact hQ L M
  simp +contextual (maxSteps := 10000000) only [c10, XG_eq, go_sem, W_draw]
  refine awake_snd fun L1 U1 => ?_
  have p41' := p41 n l 60
  rcases tf' (fewB l 60) with hf | hf
  · rw [hf] at p41'
    simp +contextual (maxSteps := 10000000) only [p41', XG_eq, pcallG hM, lookH_cons, lookH_nil, orK_n, orK_s, go_sem, W_draw]
    refine awake_snd fun L2 U2 => ?_
    simp +contextual (maxSteps := 10000000) only [go_sem, W_draw]
    exact hQ _ _
  rw [hf] at p41'
  obtain ⟨hll, hsl⟩ := few_of (n := 60) (by omega) hf
  rcases tf (decide ((100 : Int) < a0.length)) with g0 | g0
  · simp +contextual (maxSteps := 10000000) only [p41', g0, XG_eq, pcallG hM, lookH_cons, lookH_nil, orK_n, orK_s, go_sem, W_draw]
    refine awake_snd fun L2 U2 => ?_
    simp +contextual (maxSteps := 10000000) only [go_sem, W_draw]
    exact hQ _ _
  rcases tf (decide ((100 : Int) < b0.length)) with g1 | g1
  · simp +contextual (maxSteps := 10000000) only [p41', g0, g1, XG_eq, pcallG hM, lookH_cons, lookH_nil, orK_n, orK_s, go_sem, W_draw]
    refine awake_snd fun L2 U2 => ?_
    simp +contextual (maxSteps := 10000000) only [go_sem, W_draw]
    exact hQ _ _
  simp +contextual (maxSteps := 10000000) only [p41', g0, g1, XG_eq, pcallG hM, lookH_cons, lookH_nil, orK_n, orK_s, go_sem, W_draw]
  have hE0 : Ext H (H ++ L1) := Ext.of _ _
  refine new_S fun A p S hE hp hS hros => ?_
  have hEA := hE0.trans hE
  have hL : Liv H (A ++ [Ob.row [.nils, .nils]]) T (T ++ U1) p S [] [] := ⟨hros.ext (Ext.of _ _), hEA.app _, fun o ho => Nat.le_trans hE0.ln (hS o ho), ⟨U1, rfl⟩⟩
  have hoA : A.length ∉ S := fun h => by have := hros.1 _ h; omega
  have hHA := hEA.ln
  clear hE hp hS hE0
  simp +contextual (maxSteps := 10000000) only [go_sem, W_draw]
  refine W_for (fun i s' => s'.t 0 = stS n l ∧ s'.t 1 = .str a0 ∧ s'.t 2 = .str b0 ∧ s'.t 7 = .ptr p 0 ∧ s'.t 8 = .ptr A.length 0 ∧ s'.t 9 = .int .i64 (i : Int) ∧ (∃ S es ms n n2, Liv H s'.H T s'.T p S es ms ∧ es.length ≤ i ∧ s'.H[A.length]? = some (.row [edS n es, edS n2 ms]) ∧ A.length ∉ S) ∧ i ≤ l.length) l.length
    ⟨0, ?_⟩ (fun i s h => h.2.2.2.2.2.2.2) ?_ hX
  · exact ⟨by simp [upd, argT], by simp [upd, argT], by simp [upd, argT], by simp [upd], by simp [upd], by simp [upd], ⟨S, [], [], true, true, hL, by simp, by simp; rfl, hoA⟩, by omega⟩
  obtain ⟨oA, hoA'⟩ : ∃ o, A.length = o := ⟨_, rfl⟩
  rw [hoA'] at hHA ⊢
  clear hL hoA hros hEA
  rintro i ⟨t, B, U⟩ ⟨r0, r1, r2, r7, r8, r9, ⟨S, es, ms, n1, n2, hL, he, hrow, hoS⟩, hi⟩
  simp only at r0 r1 r2 r7 r8 r9 hL hrow
  by_cases ha : i < l.length
  · have d1 : decide ((i : Int) < l.length) = true := by simpa using ha
    have e : l[i]? = some l[i] := by simp [ha]
    obtain ⟨⟨k, a, b⟩, hx⟩ : ∃ x, l[i] = x := ⟨_, rfl⟩
    rw [hx] at e
    have hm := List.mem_of_getElem? e
    have hk := List.all_eq_true.1 hso _ hm
    have hab := hsl _ hm
    simp only [Bool.and_eq_true, decide_eq_true_eq] at hk hab
    simp +contextual (maxSteps := 10000000) only [r0, r1, r2, r7, r8, r9, d1, e, Option.map_some, XG_eq, go_sem, W_draw]
    refine do_snd hL.1 (by omega) (by omega) (by omega) hk.1 hk.2 fun C U' hs => ?_
    obtain ⟨S', hL', hF, hS'⟩ := hL.step (U' := U') hs
    obtain ⟨q1, q2, q3, q4, _⟩ := hL.1.rs
    have hoB := lt_get hrow
    have hoS' : oA ∉ S' := fun h => by
      rcases hS' _ h with h' | h'
      · exact hoS h'
      · omega
    have hrowC : C[oA]? = some (.row [edS n1 es, edS n2 ms]) := by rw [hF.2 oA hoB hoS]; exact hrow
    have hoC := lt_get hrowC
    have gC : ∀ X, rdAt (C ++ X) (.ptr oA 0) = some [edS n1 es, edS n2 ms] := fun X => by simp only [rdAt]; rw [List.getElem?_append_left hoC, hrowC]; rfl
    obtain ⟨m1, m2, p43'⟩ := p43 n1 n2 (k := k) a b (by omega) (by omega) q1 q2 hk.1
    obtain ⟨es', hes⟩ : ∃ x, stE es ms k a b = x := ⟨_, rfl⟩
    obtain ⟨ms', hms⟩ : ∃ x, stM es ms k a b = x := ⟨_, rfl⟩
    have hel := stE_len es ms k a b
    rw [hes, hms] at hL' p43'
    rw [hes] at hel
    obtain ⟨er, her⟩ : ∃ x, errR es ms k a b = x := ⟨_, rfl⟩
    rw [her] at p43' ⊢
    simp +contextual (maxSteps := 10000000) only [r0, r1, r2, r7, r8, r9, e, gC, p43', Option.map_some, pcallG hM, lookH_cons, lookH_nil, orK_n, orK_s, storeK_Ea hrowC, List.take_zero, List.nil_append, List.drop_succ_cons, List.drop_zero, go_sem, W_draw]
    have hF2 : Fr [oA] C (C.set oA (.row [edS m1 es', edS m2 ms'])) := ⟨by simp, fun o _ hn => by rw [List.getElem?_set_ne (fun e => hn (by simp [e]))]⟩
    have hr2 := hL'.1.fr hF2 fun o ho hm => by
      rw [List.mem_singleton] at hm
      exact hoS' (hm ▸ ho)
    have hE2 : Ext H (C.set oA (.row [edS m1 es', edS m2 ms'])) := hL'.2.1.set hHA _
    have hrow2 : (C.set oA (.row [edS m1 es', edS m2 ms']))[oA]? = some (.row [edS m1 es', edS m2 ms']) := by rw [List.getElem?_set_self hoC]
    obtain ⟨C2, hC2⟩ : ∃ X, C.set oA (.row [edS m1 es', edS m2 ms']) = X := ⟨_, rfl⟩
    rw [hC2] at hF2 hr2 hE2 hrow2
    simp only [hC2]
    have hoC2 := lt_get hrow2
    have g2 : ∀ X, rdAt (C2 ++ X) (.ptr oA 0) = some [edS m1 es', edS m2 ms'] := fun X => by simp only [rdAt]; rw [List.getElem?_append_left hoC2, hrow2]; rfl
    have p1 := fun X => (hr2.ext (Ext.of C2 X)).ros (a := a) (b := b) (by omega) (by omega)
    have p2 := p45 m1 es' (edS m2 ms') a b (by omega)
    obtain ⟨_, _, q5, q6, _⟩ := hr2.rs
    simp +contextual (maxSteps := 10000000) only [r0, r1, r2, r7, r8, r9, e, g2, Option.map_some, XG_eq, go_sem, W_draw]
    refine same_snd (hr2.ext (Ext.of _ _)) (by omega) (by omega) fun L3 U3 => ?_
    have fin : ∀ (X : Hp) (Y : Tk), ∃ S es ms n n2, Liv H (C2 ++ X) T (U ++ Y) p S es ms ∧ es.length ≤ i + 1 ∧ (C2 ++ X)[oA]? = some (.row [edS n es, edS n2 ms]) ∧ oA ∉ S := fun X Y =>
      ⟨S', es', ms', m1, m2, ⟨hr2.ext (Ext.of _ _), hE2.app X, hL'.2.2.1, hL.2.2.2.app Y⟩, by omega, (Ext.of C2 X).get hrow2, hoS'⟩
    rcases tf (reachB es' a b) with c1 | c1
    · simp only [c1] at p1 p2
      simp +contextual (maxSteps := 10000000) only [r0, r1, r2, r7, r8, r9, e, g2, p1, p2, Option.map_some, pcallG hM, lookH_cons, lookH_nil, orK_n, orK_s, wrap_natY i (by omega), go_sem, W_draw]
      exact ⟨fin _ _, by omega⟩
    · simp only [c1] at p1 p2
      simp +contextual (maxSteps := 10000000) only [r0, r1, r2, r7, r8, r9, e, g2, p1, p2, Option.map_some, pcallG hM, lookH_cons, lookH_nil, orK_n, orK_s, wrap_natY i (by omega), go_sem, W_draw]
      exact ⟨fin _ _, by omega⟩
  · have d1 : decide ((i : Int) < l.length) = false := by simpa using ha
    have hoB := lt_get hrow
    obtain ⟨hE, hT⟩ : Ext H B ∧ ExtT T U := ⟨hL.2.1, hL.2.2.2⟩
    have la : a0.length ≤ 100 := by simp at g0; omega
    have lb : b0.length ≤ 100 := by simp at g1; omega
    have g2 : rdAt B (.ptr oA 0) = some [edS n1 es, edS n2 ms] := by simp [rdAt, hrow]
    have p1 := hL.1.ros (a := a0) (b := b0) (by omega) (by omega)
    have p2 := p45 n1 es (edS n2 ms) a0 b0 (by omega)
    have p3 := hL.1.ros (a := b0) (b := a0) (by omega) (by omega)
    have p4 := p45 n1 es (edS n2 ms) b0 a0 (by omega)
    rcases tf (reachB es a0 b0) with c1 | c1 <;> rcases tf (reachB es b0 a0) with c2 | c2 <;> simp only [c1, c2] at p1 p2 p3 p4
    all_goals
      simp +contextual (maxSteps := 10000000) only [r0, r1, r2, r7, r8, r9, d1, g2, p1, p2, p3, p4, Option.map_some, pcallG hM, lookH_cons, lookH_nil, orK_n, orK_s, go_sem, W_draw]
      exact hQ' hE hT
end GP
