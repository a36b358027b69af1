import Derived.Test.YtoobncfcgknecaaGpF7
set_option linter.unusedSimpArgs false
namespace GP
open Go Go.Proofs
set_option maxRecDepth 10000

@[go_sem high] theorem ia_nat (sz : Nat) (b : Bool) (xs : List D) (k : IntKind) (i : Nat) : ia sz (sliceD b xs) (.int k (i : Int)) = iaE sz xs[i]? := by
  rw [ia_sliceD]; simp
@[go_sem high] theorem ia_nat' (sz : Nat) (t : Option Nat) (xs : List D) (k : IntKind) (i : Nat) : ia sz (.sl t xs) (.int k (i : Int)) = iaE sz xs[i]? := by
  rw [ia_sl]; simp
theorem isSl_elim {l : D} (h : isSl l = true) : ∃ b, l = sliceD b (elems l) := by
  unfold isSl at h
  split at h
  · exact ⟨true, rfl⟩
  · exact ⟨false, rfl⟩
  · cases h
@[go_sem] theorem isSl_sliceD (b : Bool) (xs : List D) : isSl (sliceD b xs) = true := by
  rcases sliceD_cases b xs with ⟨h, _⟩ | h <;> rw [h] <;> rfl

theorem all_take_succ {p : D → Bool} {xs : List D} {i : Nat} {e : D} (h : xs[i]? = some e) : (xs.take (i + 1)).all p = ((xs.take i).all p && p e) := by
  rw [List.take_add_one, h]; simp
theorem all_false_of {p : D → Bool} {xs : List D} {i m : Nat} {e : D} (h : xs[i]? = some e) (hp : p e = false) (him : i < m) : (xs.take m).all p = false := by
  cases hq : (xs.take m).all p with
  | false => rfl
  | true =>
    have hm : e ∈ xs.take m := by
      refine List.mem_of_getElem? (i := i) ?_
      rw [List.getElem?_take_of_lt him]; exact h
    rw [List.all_eq_true.1 hq e hm] at hp; cases hp

def leafFew (e : D) : Bool := decide ((vs e).length ≤ 200) && decide ((vl e).length = 0)
def few1 (d : D) : Bool := decide ((vs d).length ≤ 200) && decide ((vl d).length ≤ 30) && (vl d).all leafFew
def fewB (xs : List D) (n : Int) : Bool := (xs.take 100).all few1 && decide ((xs.length : Int) ≤ n)
def φFew : List D → Option D
  | [l, .int .i64 n] => if isSl l = true ∧ D.isVs (elems l) = true ∧ (elems l).length ≤ 2 ^ 47 then some (.bool (fewB (elems l) n)) else none
  | _ => none

theorem ok28 : OkAt Try.prog 28 φFew := by
  refine ok_of (l := []) .nil fn28 fun args r h => ?_
  unfold φFew at h
  split at h
  · split at h
    · rename_i l n hl
      injection h with h; subst h
      refine ⟨by simp, by simp [D.cl], fun H T => ?_⟩
      obtain ⟨hl1, hl2, hl3⟩ := hl
      obtain ⟨b, hb⟩ := isSl_elim hl1
      generalize elems l = xs at hb hl2 hl3
      subst hb
      have hV := isVs_iff.1 hl2
      simp (config := { contextual := true, maxSteps := 10000000 }) only [c28, go_sem, List.map_cons, List.map_nil, List.append_assoc, List.cons_append, List.nil_append, List.append_nil, List.length_append, List.length_cons, List.length_nil, List.take_zero, List.take_succ_cons, List.take_nil, List.drop_zero, List.drop_succ_cons, List.drop_nil, Nat.zero_add, Nat.add_zero, Nat.reduceAdd, Nat.reduceSub, Nat.reduceMul, Nat.reduceEqDiff, Nat.reduceLeDiff, Nat.reduceLT, Int.reduceToNat, Int.reduceLE, Int.reduceLT, Int.reduceEq, Int.reduceNe, Int.reduceBEq, Int.reduceBNe, Nat.reduceBEq, Nat.reduceBNe, ↓reduceIte, reduceCtorEq, ↓reduceDIte, Option.map_some, Option.map_none, true_and, and_true, false_and, and_false, and_self, W_draw, condK_b, WIk_bt, WIk_bf, Bool.true_eq_false, Bool.false_eq_true, Bool.not_true, Bool.not_false, Bool.not_eq_true', Bool.not_eq_false', Bool.true_and, Bool.and_true, Bool.false_and, Bool.and_false, Bool.true_or, Bool.or_true, Bool.false_or, Bool.or_false, Bool.bne_true, Bool.bne_false, Bool.true_bne, Bool.false_bne, Bool.true_beq, Bool.false_beq, Bool.not_not, decide_true, decide_false, false_implies, true_implies, implies_true, forall_const, List.all_cons, List.all_nil, beq_self_eq_true, bne_self_eq_false, Nat.zero_le, Nat.le_refl, List.getElem?_cons_zero, List.getElem?_cons_succ, List.isEmpty_nil, List.isEmpty_cons, Int.cast_ofNat_Int, Int.toNat_zero]
      refine W_for (fun i s => s.t 0 = sliceD b xs ∧ s.t 1 = .int .i64 n ∧ s.t 5 = .int .i64 i ∧ s.H = H ∧ s.T = T ∧ i ≤ 100 ∧ i ≤ xs.length ∧ (xs.take i).all few1 = true) 100 ⟨0, by simp [upd, argT]⟩ (fun i s h => h.2.2.2.2.2.1) ?_ (XL_mono _)
      rintro i ⟨t, H', T'⟩ ⟨h0, h1, h5, rfl, rfl, hi, hj, hc⟩
      simp only at h0 h1 h5
      by_cases ha : i < xs.length ∧ i < 100
      · obtain ⟨ha, hb'⟩ := ha
        have d1 : decide ((i : Int) < xs.length) = true := by simpa using ha
        have d2 : decide ((i : Int) < 100) = true := by simp; omega
        obtain ⟨k, i', s, m, l', he, hs1, hs2, hV'⟩ := isV_elim (hV _ (List.getElem_mem ha))
        have e1 : xs[i]? = some (mkV k i' s m l') := by rw [← he]; simp [ha]
        simp (config := { contextual := true, maxSteps := 10000000 }) only [h0, h1, h5, d1, d2, e1, mkV, go_sem, List.map_cons, List.map_nil, List.append_assoc, List.cons_append, List.nil_append, List.append_nil, List.length_append, List.length_cons, List.length_nil, List.take_zero, List.take_succ_cons, List.take_nil, List.drop_zero, List.drop_succ_cons, List.drop_nil, Nat.zero_add, Nat.add_zero, Nat.reduceAdd, Nat.reduceSub, Nat.reduceMul, Nat.reduceEqDiff, Nat.reduceLeDiff, Nat.reduceLT, Int.reduceToNat, Int.reduceLE, Int.reduceLT, Int.reduceEq, Int.reduceNe, Int.reduceBEq, Int.reduceBNe, Nat.reduceBEq, Nat.reduceBNe, ↓reduceIte, reduceCtorEq, ↓reduceDIte, Option.map_some, Option.map_none, true_and, and_true, false_and, and_false, and_self, W_draw, condK_b, WIk_bt, WIk_bf, Bool.true_eq_false, Bool.false_eq_true, Bool.not_true, Bool.not_false, Bool.not_eq_true', Bool.not_eq_false', Bool.true_and, Bool.and_true, Bool.false_and, Bool.and_false, Bool.true_or, Bool.or_true, Bool.false_or, Bool.or_false, Bool.bne_true, Bool.bne_false, Bool.true_bne, Bool.false_bne, Bool.true_beq, Bool.false_beq, Bool.not_not, decide_true, decide_false, false_implies, true_implies, implies_true, forall_const, List.all_cons, List.all_nil, beq_self_eq_true, bne_self_eq_false, Nat.zero_le, Nat.le_refl, List.getElem?_cons_zero, List.getElem?_cons_succ, List.isEmpty_nil, List.isEmpty_cons, Int.cast_ofNat_Int, Int.toNat_zero]
        have f1 : few1 (mkV k i' s m l') = (decide (s.length ≤ 200) && decide (l'.length ≤ 30) && l'.all leafFew) := by simp only [few1, vs_mk, vl_mk]
        have bad : few1 (mkV k i' s m l') = false → fewB xs n = false := fun h => by simp only [fewB, all_false_of e1 h hb', Bool.false_and]
        refine ⟨fun q => ?_, fun q1 => ⟨fun q => ?_, fun q2 => ?_⟩⟩
        · rw [bad]; rw [f1]; simp at q ⊢; omega
        · rw [bad]; rw [f1]; simp at q ⊢; omega
        · refine W_for (fun j s => s.t 0 = sliceD b xs ∧ s.t 1 = .int .i64 n ∧ s.t 5 = .int .i64 i ∧ s.t 6 = .int .i64 j ∧ s.H = H' ∧ s.T = T' ∧ j ≤ l'.length ∧ (l'.take j).all leafFew = true) l'.length ⟨0, by simp [upd, h0, h1, h5]⟩ (fun i s h => h.2.2.2.2.2.2.1) ?_ (XL_mono _)
          rintro j ⟨t, H', T'⟩ ⟨h0, h1, h5, h6, rfl, rfl, hj2, hc2⟩
          simp only at h0 h1 h5 h6
          by_cases hb2 : j < l'.length
          · have d3 : decide ((j : Int) < l'.length) = true := by simpa using hb2
            obtain ⟨k2, i2, s2, m2, l2, he2, hs21, hs22, hV2⟩ := isV_elim (hV' _ (List.getElem_mem hb2))
            have e2 : l'[j]? = some (mkV k2 i2 s2 m2 l2) := by rw [← he2]; simp [hb2]
            have f2 : leafFew (mkV k2 i2 s2 m2 l2) = (decide (s2.length ≤ 200) && decide (l2.length = 0)) := by simp only [leafFew, vs_mk, vl_mk]
            have bad2 : leafFew (mkV k2 i2 s2 m2 l2) = false → fewB xs n = false := fun h => bad (by
              have hm : l'.all leafFew = false := by
                have := all_false_of e2 h hb2
                rwa [List.take_length] at this
              rw [f1, hm, Bool.and_false])
            simp (config := { contextual := true, maxSteps := 10000000 }) only [h0, h1, h5, h6, d3, e1, e2, mkV, wrap_succ j (by omega), go_sem, List.map_cons, List.map_nil, List.append_assoc, List.cons_append, List.nil_append, List.append_nil, List.length_append, List.length_cons, List.length_nil, List.take_zero, List.take_succ_cons, List.take_nil, List.drop_zero, List.drop_succ_cons, List.drop_nil, Nat.zero_add, Nat.add_zero, Nat.reduceAdd, Nat.reduceSub, Nat.reduceMul, Nat.reduceEqDiff, Nat.reduceLeDiff, Nat.reduceLT, Int.reduceToNat, Int.reduceLE, Int.reduceLT, Int.reduceEq, Int.reduceNe, Int.reduceBEq, Int.reduceBNe, Nat.reduceBEq, Nat.reduceBNe, ↓reduceIte, reduceCtorEq, ↓reduceDIte, Option.map_some, Option.map_none, true_and, and_true, false_and, and_false, and_self, W_draw, condK_b, WIk_bt, WIk_bf, Bool.true_eq_false, Bool.false_eq_true, Bool.not_true, Bool.not_false, Bool.not_eq_true', Bool.not_eq_false', Bool.true_and, Bool.and_true, Bool.false_and, Bool.and_false, Bool.true_or, Bool.or_true, Bool.false_or, Bool.or_false, Bool.bne_true, Bool.bne_false, Bool.true_bne, Bool.false_bne, Bool.true_beq, Bool.false_beq, Bool.not_not, decide_true, decide_false, false_implies, true_implies, implies_true, forall_const, List.all_cons, List.all_nil, beq_self_eq_true, bne_self_eq_false, Nat.zero_le, Nat.le_refl, List.getElem?_cons_zero, List.getElem?_cons_succ, List.isEmpty_nil, List.isEmpty_cons, Int.cast_ofNat_Int, Int.toNat_zero]
            refine ⟨fun q => ?_, fun q1 => ⟨fun q => ?_, fun q2 => ⟨by omega, ?_⟩⟩⟩
            · rw [bad2]; rw [f2]; simp at q ⊢; omega
            · rw [bad2]; rw [f2]; simp only [decide_eq_true_eq, Bool.and_eq_false_iff, decide_eq_false_iff_not] at q ⊢; omega
            · rw [all_take_succ e2, hc2, f2]; simp only [decide_eq_true_eq, Bool.and_eq_true, decide_eq_false_iff_not, true_and] at q1 q2 ⊢; omega
          · have d3 : decide ((j : Int) < l'.length) = false := by simpa using hb2
            have hall : l'.all leafFew = true := by rwa [List.take_of_length_le (by omega)] at hc2
            have f3 : few1 (mkV k i' s m l') = true := by rw [f1, hall]; simp at q1 q2 ⊢; omega
            have hc3 : (xs.take (i + 1)).all few1 = true := by rw [all_take_succ e1, hc, f3]; rfl
            simp (config := { contextual := true, maxSteps := 10000000 }) only [h0, h1, h5, h6, d3, e1, mkV, wrap_succ i (by omega), go_sem, List.map_cons, List.map_nil, List.append_assoc, List.cons_append, List.nil_append, List.append_nil, List.length_append, List.length_cons, List.length_nil, List.take_zero, List.take_succ_cons, List.take_nil, List.drop_zero, List.drop_succ_cons, List.drop_nil, Nat.zero_add, Nat.add_zero, Nat.reduceAdd, Nat.reduceSub, Nat.reduceMul, Nat.reduceEqDiff, Nat.reduceLeDiff, Nat.reduceLT, Int.reduceToNat, Int.reduceLE, Int.reduceLT, Int.reduceEq, Int.reduceNe, Int.reduceBEq, Int.reduceBNe, Nat.reduceBEq, Nat.reduceBNe, ↓reduceIte, reduceCtorEq, ↓reduceDIte, Option.map_some, Option.map_none, true_and, and_true, false_and, and_false, and_self, W_draw, condK_b, WIk_bt, WIk_bf, Bool.true_eq_false, Bool.false_eq_true, Bool.not_true, Bool.not_false, Bool.not_eq_true', Bool.not_eq_false', Bool.true_and, Bool.and_true, Bool.false_and, Bool.and_false, Bool.true_or, Bool.or_true, Bool.false_or, Bool.or_false, Bool.bne_true, Bool.bne_false, Bool.true_bne, Bool.false_bne, Bool.true_beq, Bool.false_beq, Bool.not_not, decide_true, decide_false, false_implies, true_implies, implies_true, forall_const, List.all_cons, List.all_nil, beq_self_eq_true, bne_self_eq_false, Nat.zero_le, Nat.le_refl, List.getElem?_cons_zero, List.getElem?_cons_succ, List.isEmpty_nil, List.isEmpty_cons, Int.cast_ofNat_Int, Int.toNat_zero]
            exact ⟨by omega, by omega, hc3⟩
      · have hcf : (xs.take 100).all few1 = true := by
          by_cases hx : i < xs.length
          · have : i = 100 := by omega
            rw [← this]; exact hc
          · rw [List.take_of_length_le (by omega)] at hc
            exact List.all_eq_true.2 fun x hx => List.all_eq_true.1 hc x (List.mem_of_mem_take hx)
        by_cases hx : i < xs.length
        · have d1 : decide ((i : Int) < xs.length) = true := by simpa using hx
          have d2 : decide ((i : Int) < 100) = false := by simp; omega
          simp (config := { contextual := true, maxSteps := 10000000 }) only [h0, h1, h5, d1, d2, fewB, hcf, go_sem, List.map_cons, List.map_nil, List.append_assoc, List.cons_append, List.nil_append, List.append_nil, List.length_append, List.length_cons, List.length_nil, List.take_zero, List.take_succ_cons, List.take_nil, List.drop_zero, List.drop_succ_cons, List.drop_nil, Nat.zero_add, Nat.add_zero, Nat.reduceAdd, Nat.reduceSub, Nat.reduceMul, Nat.reduceEqDiff, Nat.reduceLeDiff, Nat.reduceLT, Int.reduceToNat, Int.reduceLE, Int.reduceLT, Int.reduceEq, Int.reduceNe, Int.reduceBEq, Int.reduceBNe, Nat.reduceBEq, Nat.reduceBNe, ↓reduceIte, reduceCtorEq, ↓reduceDIte, Option.map_some, Option.map_none, true_and, and_true, false_and, and_false, and_self, W_draw, condK_b, WIk_bt, WIk_bf, Bool.true_eq_false, Bool.false_eq_true, Bool.not_true, Bool.not_false, Bool.not_eq_true', Bool.not_eq_false', Bool.true_and, Bool.and_true, Bool.false_and, Bool.and_false, Bool.true_or, Bool.or_true, Bool.false_or, Bool.or_false, Bool.bne_true, Bool.bne_false, Bool.true_bne, Bool.false_bne, Bool.true_beq, Bool.false_beq, Bool.not_not, decide_true, decide_false, false_implies, true_implies, implies_true, forall_const, List.all_cons, List.all_nil, beq_self_eq_true, bne_self_eq_false, Nat.zero_le, Nat.le_refl, List.getElem?_cons_zero, List.getElem?_cons_succ, List.isEmpty_nil, List.isEmpty_cons, Int.cast_ofNat_Int, Int.toNat_zero]
        · have d1 : decide ((i : Int) < xs.length) = false := by simpa using hx
          simp (config := { contextual := true, maxSteps := 10000000 }) only [h0, h1, h5, d1, fewB, hcf, go_sem, List.map_cons, List.map_nil, List.append_assoc, List.cons_append, List.nil_append, List.append_nil, List.length_append, List.length_cons, List.length_nil, List.take_zero, List.take_succ_cons, List.take_nil, List.drop_zero, List.drop_succ_cons, List.drop_nil, Nat.zero_add, Nat.add_zero, Nat.reduceAdd, Nat.reduceSub, Nat.reduceMul, Nat.reduceEqDiff, Nat.reduceLeDiff, Nat.reduceLT, Int.reduceToNat, Int.reduceLE, Int.reduceLT, Int.reduceEq, Int.reduceNe, Int.reduceBEq, Int.reduceBNe, Nat.reduceBEq, Nat.reduceBNe, ↓reduceIte, reduceCtorEq, ↓reduceDIte, Option.map_some, Option.map_none, true_and, and_true, false_and, and_false, and_self, W_draw, condK_b, WIk_bt, WIk_bf, Bool.true_eq_false, Bool.false_eq_true, Bool.not_true, Bool.not_false, Bool.not_eq_true', Bool.not_eq_false', Bool.true_and, Bool.and_true, Bool.false_and, Bool.and_false, Bool.true_or, Bool.or_true, Bool.false_or, Bool.or_false, Bool.bne_true, Bool.bne_false, Bool.true_bne, Bool.false_bne, Bool.true_beq, Bool.false_beq, Bool.not_not, decide_true, decide_false, false_implies, true_implies, implies_true, forall_const, List.all_cons, List.all_nil, beq_self_eq_true, bne_self_eq_false, Nat.zero_le, Nat.le_refl, List.getElem?_cons_zero, List.getElem?_cons_succ, List.isEmpty_nil, List.isEmpty_cons, Int.cast_ofNat_Int, Int.toNat_zero]
    · cases h
  · cases h

def φtwo : List D → Option D
  | [a, b] => if a.isV = true ∧ b.isV = true then some (.bool (fewB [a, b] 2)) else none
  | _ => none

theorem ok10 : OkAt Try.prog 10 φtwo := by
  refine ok_of (l := [(28, φFew)]) (.cons ok28 .nil) fn10 fun args r h => ?_
  unfold φtwo at h
  split at h
  · split at h
    · rename_i a b hab
      injection h with h; subst h
      refine ⟨by simp, by simp [D.cl], fun H T => ?_⟩
      obtain ⟨ha, hb⟩ := hab
      have ea := isV_erase ha
      have eb := isV_erase hb
      have hs : D.isVs [a, b] = true := by simp [D.isVs, ha, hb]
      have p : φFew [.sl none [a, b], .int .i64 2] = some (.bool (fewB [a, b] 2)) := by
        simp only [φFew, isSl, elems, hs, List.length_cons, List.length_nil]
        simp
      obtain ⟨k1, i1, s1, n1, l1, rfl, _⟩ := isV_elim ha
      obtain ⟨k2, i2, s2, n2, l2, rfl, _⟩ := isV_elim hb
      simp only [mkV] at ea eb p
      simp (config := { contextual := true, maxSteps := 10000000 }) only [c10, mkV, p, ea, eb, fit_eq, go_sem, List.map_cons, List.map_nil, List.append_assoc, List.cons_append, List.nil_append, List.append_nil, List.length_append, List.length_cons, List.length_nil, List.take_zero, List.take_succ_cons, List.take_nil, List.drop_zero, List.drop_succ_cons, List.drop_nil, Nat.zero_add, Nat.add_zero, Nat.reduceAdd, Nat.reduceSub, Nat.reduceMul, Nat.reduceEqDiff, Nat.reduceLeDiff, Nat.reduceLT, Int.reduceToNat, Int.reduceLE, Int.reduceLT, Int.reduceEq, Int.reduceNe, Int.reduceBEq, Int.reduceBNe, Nat.reduceBEq, Nat.reduceBNe, ↓reduceIte, reduceCtorEq, ↓reduceDIte, Option.map_some, Option.map_none, true_and, and_true, false_and, and_false, and_self, W_draw, condK_b, WIk_bt, WIk_bf, Bool.true_eq_false, Bool.false_eq_true, Bool.not_true, Bool.not_false, Bool.not_eq_true', Bool.not_eq_false', Bool.true_and, Bool.and_true, Bool.false_and, Bool.and_false, Bool.true_or, Bool.or_true, Bool.false_or, Bool.or_false, Bool.bne_true, Bool.bne_false, Bool.true_bne, Bool.false_bne, Bool.true_beq, Bool.false_beq, Bool.not_not, decide_true, decide_false, false_implies, true_implies, implies_true, forall_const, List.all_cons, List.all_nil, beq_self_eq_true, bne_self_eq_false, Nat.zero_le, Nat.le_refl, List.getElem?_cons_zero, List.getElem?_cons_succ, List.isEmpty_nil, List.isEmpty_cons, Int.cast_ofNat_Int, Int.toNat_zero]
    · cases h
  · cases h
end GP
