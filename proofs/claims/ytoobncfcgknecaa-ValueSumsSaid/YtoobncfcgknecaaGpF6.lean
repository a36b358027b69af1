import Derived.Test.YtoobncfcgknecaaGpF5
set_option linter.unusedSimpArgs false
namespace GP
open Go Go.Proofs
set_option maxRecDepth 10000

theorem wrap_of (a : Int) (h : -(2 ^ 63) ≤ a) (h' : a < 2 ^ 63) : IntKind.i64.wrap a = a := by
  have e : IntKind.i64.wrap a = if a % (2 ^ 64 : Int) ≥ (2 ^ 63 : Int) then a % (2 ^ 64 : Int) - (2 ^ 64 : Int) else a % (2 ^ 64 : Int) := by
    simp [IntKind.wrap, IntKind.bits, IntKind.signed]
  rw [e]
  split <;> omega
theorem wrap_nat (n : Nat) (h : n < 2 ^ 62) : IntKind.i64.wrap (n : Int) = n := wrap_of _ (by omega) (by omega)
theorem wrap_succ (n : Nat) (h : n < 2 ^ 61) : IntKind.i64.wrap ((n : Int) + 1) = ((n + 1 : Nat) : Int) := by
  have := wrap_nat (n + 1) (by omega)
  rw [← this]; simp

@[go_sem] theorem ixs_nat (s : List UInt8) (k : IntKind) (i : Nat) : ixs (.str s) (.int k (i : Int)) = (s[i]?).map fun b => .int .u8 (b.toNat : Int) := by
  simp [ixs]

def cmpI (a b : Int) : Int := if a < b then -1 else if b < a then 1 else 0

def cmpS : List UInt8 → List UInt8 → Int
  | [], [] => 0
  | [], _ :: _ => -1
  | _ :: _, [] => 1
  | x :: a, y :: b => if x.toNat < y.toNat then -1 else if y.toNat < x.toNat then 1 else cmpS a b

def φnumbers : List D → Option D
  | [.int .i64 a, .int .i64 b] => some (.int .i64 (cmpI a b))
  | _ => none

theorem ok39 : OkAt Try.prog 39 φnumbers := by
  refine ok_of (l := []) Ok.nil fn39 fun args r h => ?_
  unfold φnumbers at h
  split at h
  · injection h with h; subst h
    refine ⟨by simp, by simp [D.cl], fun H T => ?_⟩
    simp (config := { contextual := true, maxSteps := 10000000 }) only [c39, cmpI, go_sem, List.map_cons, List.map_nil, List.append_assoc, List.cons_append, List.nil_append, List.append_nil, List.length_append, List.length_cons, List.length_nil, List.take_zero, List.take_succ_cons, List.take_nil, List.drop_zero, List.drop_succ_cons, List.drop_nil, Nat.zero_add, Nat.add_zero, Nat.reduceAdd, Nat.reduceSub, Nat.reduceMul, Nat.reduceEqDiff, Nat.reduceLeDiff, Nat.reduceLT, Int.reduceToNat, Int.reduceLE, Int.reduceLT, Int.reduceEq, Int.reduceNe, Int.reduceBEq, Int.reduceBNe, Nat.reduceBEq, Nat.reduceBNe, ↓reduceIte, reduceCtorEq, ↓reduceDIte, Option.map_some, Option.map_none, true_and, and_true, false_and, and_false, and_self, W_draw, condK_b, WIk_bt, WIk_bf, Bool.true_eq_false, Bool.false_eq_true, Bool.not_true, Bool.not_false, Bool.not_eq_true', Bool.not_eq_false', Bool.true_and, Bool.and_true, Bool.false_and, Bool.and_false, Bool.true_or, Bool.or_true, Bool.false_or, Bool.or_false, Bool.bne_true, Bool.bne_false, Bool.true_bne, Bool.false_bne, Bool.true_beq, Bool.false_beq, Bool.not_not, decide_true, decide_false, false_implies, true_implies, implies_true, forall_const, List.all_cons, List.all_nil, beq_self_eq_true, bne_self_eq_false, Nat.zero_le, Nat.le_refl, List.getElem?_cons_zero, List.getElem?_cons_succ, List.isEmpty_nil, List.isEmpty_cons, Int.cast_ofNat_Int]
    simp
    omega
  · cases h

def φTexts : List D → Option D
  | [.str a, .str b] => if a.length ≤ 2 ^ 47 ∧ b.length ≤ 2 ^ 47 then some (.int .i64 (cmpS a b)) else none
  | _ => none

theorem ok56 : OkAt Try.prog 56 φTexts := by
  refine ok_of (l := []) Ok.nil fn56 fun args r h => ?_
  unfold φTexts at h
  split at h
  · split at h
    · rename_i a b hl
      injection h with h; subst h
      refine ⟨by simp, by simp [D.cl], fun H T => ?_⟩
      simp (config := { contextual := true, maxSteps := 10000000 }) only [c56, go_sem, List.map_cons, List.map_nil, List.append_assoc, List.cons_append, List.nil_append, List.append_nil, List.length_append, List.length_cons, List.length_nil, List.take_zero, List.take_succ_cons, List.take_nil, List.drop_zero, List.drop_succ_cons, List.drop_nil, Nat.zero_add, Nat.add_zero, Nat.reduceAdd, Nat.reduceSub, Nat.reduceMul, Nat.reduceEqDiff, Nat.reduceLeDiff, Nat.reduceLT, Int.reduceToNat, Int.reduceLE, Int.reduceLT, Int.reduceEq, Int.reduceNe, Int.reduceBEq, Int.reduceBNe, Nat.reduceBEq, Nat.reduceBNe, ↓reduceIte, reduceCtorEq, ↓reduceDIte, Option.map_some, Option.map_none, true_and, and_true, false_and, and_false, and_self, W_draw, condK_b, WIk_bt, WIk_bf, Bool.true_eq_false, Bool.false_eq_true, Bool.not_true, Bool.not_false, Bool.not_eq_true', Bool.not_eq_false', Bool.true_and, Bool.and_true, Bool.false_and, Bool.and_false, Bool.true_or, Bool.or_true, Bool.false_or, Bool.or_false, Bool.bne_true, Bool.bne_false, Bool.true_bne, Bool.false_bne, Bool.true_beq, Bool.false_beq, Bool.not_not, decide_true, decide_false, false_implies, true_implies, implies_true, forall_const, List.all_cons, List.all_nil, beq_self_eq_true, bne_self_eq_false, Nat.zero_le, Nat.le_refl, List.getElem?_cons_zero, List.getElem?_cons_succ, List.isEmpty_nil, List.isEmpty_cons, Int.cast_ofNat_Int]
      refine W_for (fun i s => s.t 0 = .str a ∧ s.t 1 = .str b ∧ s.t 5 = .int .i64 i ∧ s.H = H ∧ s.T = T ∧ i ≤ a.length ∧ i ≤ b.length ∧ cmpS (a.drop i) (b.drop i) = cmpS a b) a.length ⟨0, by simp [upd, argT]⟩ (fun i s h => h.2.2.2.2.2.1) ?_ (XL_mono _)
      rintro i ⟨t, H', T'⟩ ⟨h0, h1, h5, rfl, rfl, hi, hj, hc⟩
      simp only at h0 h1 h5
      by_cases ha : i < a.length
      · by_cases hb : i < b.length
        · have d1 : decide ((i : Int) < a.length) = true := by simpa using ha
          have d2 : decide ((i : Int) < b.length) = true := by simpa using hb
          have e1 : a[i]? = some a[i] := by simp [ha]
          have e2 : b[i]? = some b[i] := by simp [hb]
          rw [List.drop_eq_getElem_cons ha, List.drop_eq_getElem_cons hb, cmpS] at hc
          simp (config := { contextual := true, maxSteps := 10000000 }) only [h0, h1, h5, d1, d2, e1, e2, wrap_succ i (by omega), go_sem, List.map_cons, List.map_nil, List.append_assoc, List.cons_append, List.nil_append, List.append_nil, List.length_append, List.length_cons, List.length_nil, List.take_zero, List.take_succ_cons, List.take_nil, List.drop_zero, List.drop_succ_cons, List.drop_nil, Nat.zero_add, Nat.add_zero, Nat.reduceAdd, Nat.reduceSub, Nat.reduceMul, Nat.reduceEqDiff, Nat.reduceLeDiff, Nat.reduceLT, Int.reduceToNat, Int.reduceLE, Int.reduceLT, Int.reduceEq, Int.reduceNe, Int.reduceBEq, Int.reduceBNe, Nat.reduceBEq, Nat.reduceBNe, ↓reduceIte, reduceCtorEq, ↓reduceDIte, Option.map_some, Option.map_none, true_and, and_true, false_and, and_false, and_self, W_draw, condK_b, WIk_bt, WIk_bf, Bool.true_eq_false, Bool.false_eq_true, Bool.not_true, Bool.not_false, Bool.not_eq_true', Bool.not_eq_false', Bool.true_and, Bool.and_true, Bool.false_and, Bool.and_false, Bool.true_or, Bool.or_true, Bool.false_or, Bool.or_false, Bool.bne_true, Bool.bne_false, Bool.true_bne, Bool.false_bne, Bool.true_beq, Bool.false_beq, Bool.not_not, decide_true, decide_false, false_implies, true_implies, implies_true, forall_const, List.all_cons, List.all_nil, beq_self_eq_true, bne_self_eq_false, Nat.zero_le, Nat.le_refl, List.getElem?_cons_zero, List.getElem?_cons_succ, List.isEmpty_nil, List.isEmpty_cons, Int.cast_ofNat_Int]
          refine ⟨fun h => ?_, fun h => ⟨fun h' => ?_, fun h' => ⟨by omega, by omega, ?_⟩⟩⟩ <;> simp only [decide_eq_true_eq, decide_eq_false_iff_not] at h <;> (try simp only [decide_eq_true_eq, decide_eq_false_iff_not] at h')
          · rw [if_pos (by omega)] at hc; rw [hc]
          · rw [if_neg (by omega), if_pos (by omega)] at hc; rw [hc]
          · rw [if_neg (by omega), if_neg (by omega)] at hc; exact hc
        · have d1 : decide ((i : Int) < a.length) = true := by simpa using ha
          have d2 : decide ((i : Int) < b.length) = false := by simpa using hb
          have d3 : decide ((a.length : Int) < b.length) = false := by simp; omega
          have d4 : decide ((b.length : Int) < a.length) = true := by simp; omega
          rw [List.drop_eq_getElem_cons ha, List.drop_eq_nil_of_le (by omega : b.length ≤ i), cmpS] at hc
          simp (config := { contextual := true, maxSteps := 10000000 }) only [h0, h1, h5, d1, d2, d3, d4, ← hc, go_sem, List.map_cons, List.map_nil, List.append_assoc, List.cons_append, List.nil_append, List.append_nil, List.length_append, List.length_cons, List.length_nil, List.take_zero, List.take_succ_cons, List.take_nil, List.drop_zero, List.drop_succ_cons, List.drop_nil, Nat.zero_add, Nat.add_zero, Nat.reduceAdd, Nat.reduceSub, Nat.reduceMul, Nat.reduceEqDiff, Nat.reduceLeDiff, Nat.reduceLT, Int.reduceToNat, Int.reduceLE, Int.reduceLT, Int.reduceEq, Int.reduceNe, Int.reduceBEq, Int.reduceBNe, Nat.reduceBEq, Nat.reduceBNe, ↓reduceIte, reduceCtorEq, ↓reduceDIte, Option.map_some, Option.map_none, true_and, and_true, false_and, and_false, and_self, W_draw, condK_b, WIk_bt, WIk_bf, Bool.true_eq_false, Bool.false_eq_true, Bool.not_true, Bool.not_false, Bool.not_eq_true', Bool.not_eq_false', Bool.true_and, Bool.and_true, Bool.false_and, Bool.and_false, Bool.true_or, Bool.or_true, Bool.false_or, Bool.or_false, Bool.bne_true, Bool.bne_false, Bool.true_bne, Bool.false_bne, Bool.true_beq, Bool.false_beq, Bool.not_not, decide_true, decide_false, false_implies, true_implies, implies_true, forall_const, List.all_cons, List.all_nil, beq_self_eq_true, bne_self_eq_false, Nat.zero_le, Nat.le_refl, List.getElem?_cons_zero, List.getElem?_cons_succ, List.isEmpty_nil, List.isEmpty_cons, Int.cast_ofNat_Int]
      · have d1 : decide ((i : Int) < a.length) = false := by simpa using ha
        have d3 : decide ((b.length : Int) < a.length) = false := by simp; omega
        rw [List.drop_eq_nil_of_le (by omega : a.length ≤ i)] at hc
        by_cases hb : i < b.length
        · have d4 : decide ((a.length : Int) < b.length) = true := by simp; omega
          rw [List.drop_eq_getElem_cons hb, cmpS] at hc
          simp (config := { contextual := true, maxSteps := 10000000 }) only [h0, h1, h5, d1, d3, d4, ← hc, go_sem, List.map_cons, List.map_nil, List.append_assoc, List.cons_append, List.nil_append, List.append_nil, List.length_append, List.length_cons, List.length_nil, List.take_zero, List.take_succ_cons, List.take_nil, List.drop_zero, List.drop_succ_cons, List.drop_nil, Nat.zero_add, Nat.add_zero, Nat.reduceAdd, Nat.reduceSub, Nat.reduceMul, Nat.reduceEqDiff, Nat.reduceLeDiff, Nat.reduceLT, Int.reduceToNat, Int.reduceLE, Int.reduceLT, Int.reduceEq, Int.reduceNe, Int.reduceBEq, Int.reduceBNe, Nat.reduceBEq, Nat.reduceBNe, ↓reduceIte, reduceCtorEq, ↓reduceDIte, Option.map_some, Option.map_none, true_and, and_true, false_and, and_false, and_self, W_draw, condK_b, WIk_bt, WIk_bf, Bool.true_eq_false, Bool.false_eq_true, Bool.not_true, Bool.not_false, Bool.not_eq_true', Bool.not_eq_false', Bool.true_and, Bool.and_true, Bool.false_and, Bool.and_false, Bool.true_or, Bool.or_true, Bool.false_or, Bool.or_false, Bool.bne_true, Bool.bne_false, Bool.true_bne, Bool.false_bne, Bool.true_beq, Bool.false_beq, Bool.not_not, decide_true, decide_false, false_implies, true_implies, implies_true, forall_const, List.all_cons, List.all_nil, beq_self_eq_true, bne_self_eq_false, Nat.zero_le, Nat.le_refl, List.getElem?_cons_zero, List.getElem?_cons_succ, List.isEmpty_nil, List.isEmpty_cons, Int.cast_ofNat_Int]
        · have d4 : decide ((a.length : Int) < b.length) = false := by simp; omega
          rw [List.drop_eq_nil_of_le (by omega : b.length ≤ i), cmpS] at hc
          simp (config := { contextual := true, maxSteps := 10000000 }) only [h0, h1, h5, d1, d3, d4, ← hc, go_sem, List.map_cons, List.map_nil, List.append_assoc, List.cons_append, List.nil_append, List.append_nil, List.length_append, List.length_cons, List.length_nil, List.take_zero, List.take_succ_cons, List.take_nil, List.drop_zero, List.drop_succ_cons, List.drop_nil, Nat.zero_add, Nat.add_zero, Nat.reduceAdd, Nat.reduceSub, Nat.reduceMul, Nat.reduceEqDiff, Nat.reduceLeDiff, Nat.reduceLT, Int.reduceToNat, Int.reduceLE, Int.reduceLT, Int.reduceEq, Int.reduceNe, Int.reduceBEq, Int.reduceBNe, Nat.reduceBEq, Nat.reduceBNe, ↓reduceIte, reduceCtorEq, ↓reduceDIte, Option.map_some, Option.map_none, true_and, and_true, false_and, and_false, and_self, W_draw, condK_b, WIk_bt, WIk_bf, Bool.true_eq_false, Bool.false_eq_true, Bool.not_true, Bool.not_false, Bool.not_eq_true', Bool.not_eq_false', Bool.true_and, Bool.and_true, Bool.false_and, Bool.and_false, Bool.true_or, Bool.or_true, Bool.false_or, Bool.or_false, Bool.bne_true, Bool.bne_false, Bool.true_bne, Bool.false_bne, Bool.true_beq, Bool.false_beq, Bool.not_not, decide_true, decide_false, false_implies, true_implies, implies_true, forall_const, List.all_cons, List.all_nil, beq_self_eq_true, bne_self_eq_false, Nat.zero_le, Nat.le_refl, List.getElem?_cons_zero, List.getElem?_cons_succ, List.isEmpty_nil, List.isEmpty_cons, Int.cast_ofNat_Int]
    · cases h
  · cases h
end GP
