import Derived.Test.YtoobncfcgknecaaGpF19
set_option linter.unusedSimpArgs false
namespace GP
open Go Go.Proofs
set_option maxRecDepth 10000

def kindR (k1 k2 : Int) (m : Bool) : Int := if (k1 == 4) && (k2 == 2) then 4 else if ((k1 == 2) && (k2 == 2)) || (m && (k1 == 4) && (k2 == 4)) then 2 else 0
def valV (k n : Int) : D := .agg [.int .i64 k, .int .i64 n, .str [], .nils]
def sumN (a b : Int) (m : Bool) : Int := if m then a - b else a + b
/-- A sum or a difference, by the chapter: its kind, the number, and its error. -/
def sumsR (k1 i1 k2 i2 : Int) (m : Bool) : D :=
  if kindR k1 k2 m == 0 then .tup [zeroV, .int .i64 6] else
  if !(decide (-(2 ^ 63) ≤ sumN i1 i2 m ∧ sumN i1 i2 m < 2 ^ 63)) || ((kindR k1 k2 m == 4) && (decide (sumN i1 i2 m < 0) || decide (1099511627776 < sumN i1 i2 m))) then .tup [zeroV, .int .i64 7] else
  .tup [valV (kindR k1 k2 m) (sumN i1 i2 m), .int .i64 0]
def φSums : List D → Option D
  | [a, b, .bool m] => if a.isV = true ∧ b.isV = true ∧ (-(2 ^ 63) ≤ vi a ∧ vi a < 2 ^ 63) ∧ (-(2 ^ 63) ≤ vi b ∧ vi b < 2 ^ 63) then some (sumsR (vk a) (vi a) (vk b) (vi b) m) else none
  | _ => none

set_option maxHeartbeats 4000000 in
theorem ok25 : OkAt Try.prog 25 φSums := by
  refine ok_of (l := [(49, φOf), (50, φMinus), (51, φPlus), (27, φFits)]) (.cons ok49 (.cons ok50 (.cons ok51 (.cons ok27 .nil)))) fn25 fun args r h => ?_
  unfold φSums at h
  split at h
  · split at h
    · rename_i a b m hab
      injection h with h; subst h
      refine ⟨by simp, by unfold sumsR; split <;> (try split) <;> simp [D.cl, D.clL, zeroV, valV], fun H T => ?_⟩
      obtain ⟨ha, hb, hi, hj⟩ := hab
      obtain ⟨k1, i1, s1, n1, xs, rfl, z1, y1, hV1⟩ := isV_elim ha
      obtain ⟨k2, i2, s2, n2, ys, rfl, z2, y2, hV2⟩ := isV_elim hb
      simp only [vi_mk] at hi hj
      simp only [vk_mk, vi_mk]
      have pa : φOf [.int .i64 i1] = some (wd i1) := by simp only [φOf]; rw [if_pos hi]
      have pb : φOf [.int .i64 i2] = some (wd i2) := by simp only [φOf]; rw [if_pos hj]
      have pm := minus_wd i2
      cases m with
      | false =>
        have pp := plus_wd i1 i2
        have pf := fits_wd (i1 + i2) (by omega) (by omega)
        have hw : decide (-(2 ^ 63) ≤ i1 + i2 ∧ i1 + i2 < 2 ^ 63) = true → IntKind.i64.wrap (i1 + i2) = i1 + i2 := fun h => by
          simp only [decide_eq_true_eq] at h; exact wrap_of _ h.1 h.2
        simp only [sumsR, sumN, Bool.false_eq_true, if_false]
        generalize decide (-(2 ^ 63) ≤ i1 + i2 ∧ i1 + i2 < 2 ^ 63) = ok at *
        simp only [wd] at pa pb pp pf
        cases ok with
        | false =>
          simp (config := { contextual := true, maxSteps := 10000000 }) only [c25, mkV, pa, pb, pp, pf, zeroV, kindR, go_sem, List.map_cons, List.map_nil, List.append_assoc, List.cons_append, List.nil_append, List.append_nil, List.length_append, List.length_cons, List.length_nil, List.take_zero, List.take_succ_cons, List.take_nil, List.drop_zero, List.drop_succ_cons, List.drop_nil, Nat.zero_add, Nat.add_zero, Nat.reduceAdd, Nat.reduceSub, Nat.reduceMul, Nat.reduceEqDiff, Nat.reduceLeDiff, Nat.reduceLT, Int.reduceToNat, Int.reduceLE, Int.reduceLT, Int.reduceEq, Int.reduceNe, Int.reduceBEq, Int.reduceBNe, Nat.reduceBEq, Nat.reduceBNe, ↓reduceIte, reduceCtorEq, ↓reduceDIte, Option.map_some, Option.map_none, true_and, and_true, false_and, and_false, and_self, W_draw, condK_b, WIk_bt, WIk_bf, Bool.true_eq_false, Bool.false_eq_true, Bool.not_true, Bool.not_false, Bool.not_eq_true', Bool.not_eq_false', Bool.true_and, Bool.and_true, Bool.false_and, Bool.and_false, Bool.true_or, Bool.or_true, Bool.false_or, Bool.or_false, Bool.bne_true, Bool.bne_false, Bool.true_bne, Bool.false_bne, Bool.true_beq, Bool.false_beq, Bool.not_not, decide_true, decide_false, false_implies, true_implies, implies_true, forall_const, List.all_cons, List.all_nil, beq_self_eq_true, bne_self_eq_false, Nat.zero_le, Nat.le_refl, List.getElem?_cons_zero, List.getElem?_cons_succ, List.isEmpty_nil, List.isEmpty_cons, Int.cast_ofNat_Int, Int.toNat_zero]
          repeat' (first | apply And.intro | intro _)
          all_goals grind
        | true =>
          rw [hw rfl] at pf
          simp (config := { contextual := true, maxSteps := 10000000 }) only [c25, mkV, pa, pb, pp, pf, zeroV, valV, kindR, go_sem, List.map_cons, List.map_nil, List.append_assoc, List.cons_append, List.nil_append, List.append_nil, List.length_append, List.length_cons, List.length_nil, List.take_zero, List.take_succ_cons, List.take_nil, List.drop_zero, List.drop_succ_cons, List.drop_nil, Nat.zero_add, Nat.add_zero, Nat.reduceAdd, Nat.reduceSub, Nat.reduceMul, Nat.reduceEqDiff, Nat.reduceLeDiff, Nat.reduceLT, Int.reduceToNat, Int.reduceLE, Int.reduceLT, Int.reduceEq, Int.reduceNe, Int.reduceBEq, Int.reduceBNe, Nat.reduceBEq, Nat.reduceBNe, ↓reduceIte, reduceCtorEq, ↓reduceDIte, Option.map_some, Option.map_none, true_and, and_true, false_and, and_false, and_self, W_draw, condK_b, WIk_bt, WIk_bf, Bool.true_eq_false, Bool.false_eq_true, Bool.not_true, Bool.not_false, Bool.not_eq_true', Bool.not_eq_false', Bool.true_and, Bool.and_true, Bool.false_and, Bool.and_false, Bool.true_or, Bool.or_true, Bool.false_or, Bool.or_false, Bool.bne_true, Bool.bne_false, Bool.true_bne, Bool.false_bne, Bool.true_beq, Bool.false_beq, Bool.not_not, decide_true, decide_false, false_implies, true_implies, implies_true, forall_const, List.all_cons, List.all_nil, beq_self_eq_true, bne_self_eq_false, Nat.zero_le, Nat.le_refl, List.getElem?_cons_zero, List.getElem?_cons_succ, List.isEmpty_nil, List.isEmpty_cons, Int.cast_ofNat_Int, Int.toNat_zero]
          repeat' (first | apply And.intro | intro _)
          all_goals grind
      | true =>
        have pp := plus_wd i1 (-i2)
        rw [← Int.sub_eq_add_neg] at pp
        have pf := fits_wd (i1 - i2) (by omega) (by omega)
        have hw : decide (-(2 ^ 63) ≤ i1 - i2 ∧ i1 - i2 < 2 ^ 63) = true → IntKind.i64.wrap (i1 - i2) = i1 - i2 := fun h => by
          simp only [decide_eq_true_eq] at h; exact wrap_of _ h.1 h.2
        simp only [sumsR, sumN, if_true]
        generalize decide (-(2 ^ 63) ≤ i1 - i2 ∧ i1 - i2 < 2 ^ 63) = ok at *
        simp only [wd] at pa pb pm pp pf
        cases ok with
        | false =>
          simp (config := { contextual := true, maxSteps := 10000000 }) only [c25, mkV, pa, pb, pm, pp, pf, zeroV, kindR, go_sem, List.map_cons, List.map_nil, List.append_assoc, List.cons_append, List.nil_append, List.append_nil, List.length_append, List.length_cons, List.length_nil, List.take_zero, List.take_succ_cons, List.take_nil, List.drop_zero, List.drop_succ_cons, List.drop_nil, Nat.zero_add, Nat.add_zero, Nat.reduceAdd, Nat.reduceSub, Nat.reduceMul, Nat.reduceEqDiff, Nat.reduceLeDiff, Nat.reduceLT, Int.reduceToNat, Int.reduceLE, Int.reduceLT, Int.reduceEq, Int.reduceNe, Int.reduceBEq, Int.reduceBNe, Nat.reduceBEq, Nat.reduceBNe, ↓reduceIte, reduceCtorEq, ↓reduceDIte, Option.map_some, Option.map_none, true_and, and_true, false_and, and_false, and_self, W_draw, condK_b, WIk_bt, WIk_bf, Bool.true_eq_false, Bool.false_eq_true, Bool.not_true, Bool.not_false, Bool.not_eq_true', Bool.not_eq_false', Bool.true_and, Bool.and_true, Bool.false_and, Bool.and_false, Bool.true_or, Bool.or_true, Bool.false_or, Bool.or_false, Bool.bne_true, Bool.bne_false, Bool.true_bne, Bool.false_bne, Bool.true_beq, Bool.false_beq, Bool.not_not, decide_true, decide_false, false_implies, true_implies, implies_true, forall_const, List.all_cons, List.all_nil, beq_self_eq_true, bne_self_eq_false, Nat.zero_le, Nat.le_refl, List.getElem?_cons_zero, List.getElem?_cons_succ, List.isEmpty_nil, List.isEmpty_cons, Int.cast_ofNat_Int, Int.toNat_zero]
          repeat' (first | apply And.intro | intro _)
          all_goals grind
        | true =>
          rw [hw rfl] at pf
          simp (config := { contextual := true, maxSteps := 10000000 }) only [c25, mkV, pa, pb, pm, pp, pf, zeroV, valV, kindR, go_sem, List.map_cons, List.map_nil, List.append_assoc, List.cons_append, List.nil_append, List.append_nil, List.length_append, List.length_cons, List.length_nil, List.take_zero, List.take_succ_cons, List.take_nil, List.drop_zero, List.drop_succ_cons, List.drop_nil, Nat.zero_add, Nat.add_zero, Nat.reduceAdd, Nat.reduceSub, Nat.reduceMul, Nat.reduceEqDiff, Nat.reduceLeDiff, Nat.reduceLT, Int.reduceToNat, Int.reduceLE, Int.reduceLT, Int.reduceEq, Int.reduceNe, Int.reduceBEq, Int.reduceBNe, Nat.reduceBEq, Nat.reduceBNe, ↓reduceIte, reduceCtorEq, ↓reduceDIte, Option.map_some, Option.map_none, true_and, and_true, false_and, and_false, and_self, W_draw, condK_b, WIk_bt, WIk_bf, Bool.true_eq_false, Bool.false_eq_true, Bool.not_true, Bool.not_false, Bool.not_eq_true', Bool.not_eq_false', Bool.true_and, Bool.and_true, Bool.false_and, Bool.and_false, Bool.true_or, Bool.or_true, Bool.false_or, Bool.or_false, Bool.bne_true, Bool.bne_false, Bool.true_bne, Bool.false_bne, Bool.true_beq, Bool.false_beq, Bool.not_not, decide_true, decide_false, false_implies, true_implies, implies_true, forall_const, List.all_cons, List.all_nil, beq_self_eq_true, bne_self_eq_false, Nat.zero_le, Nat.le_refl, List.getElem?_cons_zero, List.getElem?_cons_succ, List.isEmpty_nil, List.isEmpty_cons, Int.cast_ofNat_Int, Int.toNat_zero]
          repeat' (first | apply And.intro | intro _)
          all_goals grind
    · cases h
  · cases h
end GP
