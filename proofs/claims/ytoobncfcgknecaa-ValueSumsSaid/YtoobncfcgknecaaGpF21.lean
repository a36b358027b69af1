import Derived.Test.YtoobncfcgknecaaGpF20
set_option linter.unusedSimpArgs false
namespace GP
open Go Go.Proofs
set_option maxRecDepth 10000

def timeOk (n : Int) (ok : Bool) : Bool := ok && decide (0 ≤ n) && decide (n ≤ 1099511627776)
def φtime : List D → Option D
  | [.int .i64 n, .bool ok] => some (.tup [if timeOk n ok then valV 4 n else zeroV, .int .i64 (if timeOk n ok then 0 else 7)])
  | _ => none
theorem ok46 : OkAt Try.prog 46 φtime := by
  refine ok_of (l := []) .nil fn46 fun args r h => ?_
  unfold φtime at h
  split at h
  · rename_i n ok
    injection h with h; subst h
    refine ⟨by simp, by split <;> simp [D.cl, D.clL, valV, zeroV], fun H T => ?_⟩
    have ht : timeOk n ok = (ok && decide (0 ≤ n) && decide (n ≤ 1099511627776)) := rfl
    rw [ht]
    cases ok <;> simp (config := { contextual := true, maxSteps := 10000000 }) only [c46, valV, zeroV, go_sem, List.map_cons, List.map_nil, List.append_assoc, List.cons_append, List.nil_append, List.append_nil, List.length_append, List.length_cons, List.length_nil, List.take_zero, List.take_succ_cons, List.take_nil, List.drop_zero, List.drop_succ_cons, List.drop_nil, Nat.zero_add, Nat.add_zero, Nat.reduceAdd, Nat.reduceSub, Nat.reduceMul, Nat.reduceEqDiff, Nat.reduceLeDiff, Nat.reduceLT, Int.reduceToNat, Int.reduceLE, Int.reduceLT, Int.reduceEq, Int.reduceNe, Int.reduceBEq, Int.reduceBNe, Nat.reduceBEq, Nat.reduceBNe, ↓reduceIte, reduceCtorEq, ↓reduceDIte, Option.map_some, Option.map_none, true_and, and_true, false_and, and_false, and_self, W_draw, condK_b, WIk_bt, WIk_bf, Bool.true_eq_false, Bool.false_eq_true, Bool.not_true, Bool.not_false, Bool.not_eq_true', Bool.not_eq_false', Bool.true_and, Bool.and_true, Bool.false_and, Bool.and_false, Bool.true_or, Bool.or_true, Bool.false_or, Bool.or_false, Bool.bne_true, Bool.bne_false, Bool.true_bne, Bool.false_bne, Bool.true_beq, Bool.false_beq, Bool.not_not, decide_true, decide_false, false_implies, true_implies, implies_true, forall_const, List.all_cons, List.all_nil, beq_self_eq_true, bne_self_eq_false, Nat.zero_le, Nat.le_refl, List.getElem?_cons_zero, List.getElem?_cons_succ, List.isEmpty_nil, List.isEmpty_cons, Int.cast_ofNat_Int, Int.toNat_zero]
    repeat' (first | apply And.intro | intro _)
    all_goals grind
  · cases h

/-- A number or a time, or their error. -/
def outN (n : Int) (ok : Bool) : D := .tup [if ok then num n else zeroV, .int .i64 (if ok then 0 else 7)]
def outT (n : Int) (ok : Bool) : D := .tup [if timeOk n ok then valV 4 n else zeroV, .int .i64 (if timeOk n ok then 0 else 7)]
def addV (fa fb : Bool) (k1 i1 k2 i2 : Int) : D :=
  if !fa || !fb then .tup [zeroV, .int .i64 1] else
  if (k1 == 2) && (k2 == 2) then outN (IntKind.i64.wrap (i1 + i2)) (sumB i1 i2) else
  if (k1 == 4) && (k2 == 2) then outT (IntKind.i64.wrap (i1 + i2)) (sumB i1 i2) else .tup [zeroV, .int .i64 6]
def subV (fa fb : Bool) (k1 i1 k2 i2 : Int) : D :=
  if !fa || !fb then .tup [zeroV, .int .i64 1] else
  if ((k1 == 2) && (k2 == 2)) || ((k1 == 4) && (k2 == 4)) then outN (IntKind.i64.wrap (i1 - i2)) (lessB i1 i2) else
  if (k1 == 4) && (k2 == 2) then outT (IntKind.i64.wrap (i1 - i2)) (lessB i1 i2) else .tup [zeroV, .int .i64 6]
def φAdd : List D → Option D
  | [a, b] => if a.isV = true ∧ b.isV = true then some (addV (formedB a) (formedB b) (vk a) (vi a) (vk b) (vi b)) else none
  | _ => none
def φSub : List D → Option D
  | [a, b] => if a.isV = true ∧ b.isV = true then some (subV (formedB a) (formedB b) (vk a) (vi a) (vk b) (vi b)) else none
  | _ => none

set_option maxHeartbeats 4000000 in
theorem ok22 : OkAt Try.prog 22 φAdd := by
  refine ok_of (l := [(11, φFormed), (43, φkinds), (45, φsum), (44, φnumber), (46, φtime)]) (.cons ok11 (.cons ok43 (.cons ok45 (.cons ok44 (.cons ok46 .nil))))) fn22 fun args r h => ?_
  unfold φAdd at h
  split at h
  · split at h
    · rename_i a b hab
      injection h with h; subst h
      refine ⟨by simp, by unfold addV outN outT; (repeat' split) <;> simp [D.cl, D.clL, zeroV, valV, num], fun H T => ?_⟩
      obtain ⟨ha, hb⟩ := hab
      have pa : φFormed [a] = some (.bool (formedB a)) := by simp [φFormed, ha, formed_same]
      have pb : φFormed [b] = some (.bool (formedB b)) := by simp [φFormed, hb, formed_same]
      generalize formedB a = fa at *
      generalize formedB b = fb at *
      obtain ⟨k1, i1, s1, n1, xs, rfl, z1, y1, hV1⟩ := isV_elim ha
      obtain ⟨k2, i2, s2, n2, ys, rfl, z2, y2, hV2⟩ := isV_elim hb
      have r1 := erase_of_isV hV1
      have r2 := erase_of_isV hV2
      simp only [vk_mk, vi_mk]
      simp only [mkV] at pa pb
      generalize hw : IntKind.i64.wrap (i1 + i2) = w
      cases fa with
      | false => simp (config := { contextual := true, maxSteps := 10000000 }) only [c22, mkV, r1, r2, pa, pb, addV, zeroV, go_sem, List.map_cons, List.map_nil, List.append_assoc, List.cons_append, List.nil_append, List.append_nil, List.length_append, List.length_cons, List.length_nil, List.take_zero, List.take_succ_cons, List.take_nil, List.drop_zero, List.drop_succ_cons, List.drop_nil, Nat.zero_add, Nat.add_zero, Nat.reduceAdd, Nat.reduceSub, Nat.reduceMul, Nat.reduceEqDiff, Nat.reduceLeDiff, Nat.reduceLT, Int.reduceToNat, Int.reduceLE, Int.reduceLT, Int.reduceEq, Int.reduceNe, Int.reduceBEq, Int.reduceBNe, Nat.reduceBEq, Nat.reduceBNe, ↓reduceIte, reduceCtorEq, ↓reduceDIte, Option.map_some, Option.map_none, true_and, and_true, false_and, and_false, and_self, W_draw, condK_b, WIk_bt, WIk_bf, Bool.true_eq_false, Bool.false_eq_true, Bool.not_true, Bool.not_false, Bool.not_eq_true', Bool.not_eq_false', Bool.true_and, Bool.and_true, Bool.false_and, Bool.and_false, Bool.true_or, Bool.or_true, Bool.false_or, Bool.or_false, Bool.bne_true, Bool.bne_false, Bool.true_bne, Bool.false_bne, Bool.true_beq, Bool.false_beq, Bool.not_not, decide_true, decide_false, false_implies, true_implies, implies_true, forall_const, List.all_cons, List.all_nil, beq_self_eq_true, bne_self_eq_false, Nat.zero_le, Nat.le_refl, List.getElem?_cons_zero, List.getElem?_cons_succ, List.isEmpty_nil, List.isEmpty_cons, Int.cast_ofNat_Int, Int.toNat_zero]
      | true =>
        cases fb with
        | false => simp (config := { contextual := true, maxSteps := 10000000 }) only [c22, mkV, r1, r2, pa, pb, addV, zeroV, go_sem, List.map_cons, List.map_nil, List.append_assoc, List.cons_append, List.nil_append, List.append_nil, List.length_append, List.length_cons, List.length_nil, List.take_zero, List.take_succ_cons, List.take_nil, List.drop_zero, List.drop_succ_cons, List.drop_nil, Nat.zero_add, Nat.add_zero, Nat.reduceAdd, Nat.reduceSub, Nat.reduceMul, Nat.reduceEqDiff, Nat.reduceLeDiff, Nat.reduceLT, Int.reduceToNat, Int.reduceLE, Int.reduceLT, Int.reduceEq, Int.reduceNe, Int.reduceBEq, Int.reduceBNe, Nat.reduceBEq, Nat.reduceBNe, ↓reduceIte, reduceCtorEq, ↓reduceDIte, Option.map_some, Option.map_none, true_and, and_true, false_and, and_false, and_self, W_draw, condK_b, WIk_bt, WIk_bf, Bool.true_eq_false, Bool.false_eq_true, Bool.not_true, Bool.not_false, Bool.not_eq_true', Bool.not_eq_false', Bool.true_and, Bool.and_true, Bool.false_and, Bool.and_false, Bool.true_or, Bool.or_true, Bool.false_or, Bool.or_false, Bool.bne_true, Bool.bne_false, Bool.true_bne, Bool.false_bne, Bool.true_beq, Bool.false_beq, Bool.not_not, decide_true, decide_false, false_implies, true_implies, implies_true, forall_const, List.all_cons, List.all_nil, beq_self_eq_true, bne_self_eq_false, Nat.zero_le, Nat.le_refl, List.getElem?_cons_zero, List.getElem?_cons_succ, List.isEmpty_nil, List.isEmpty_cons, Int.cast_ofNat_Int, Int.toNat_zero]
        | true =>
          cases hk1 : (k1 == 2) <;> cases hk2 : (k2 == 2) <;> cases hk4 : (k1 == 4) <;> cases hs : sumB i1 i2 <;> cases ht : timeOk w (sumB i1 i2) <;> rw [hs] at ht <;>
            simp (config := { contextual := true, maxSteps := 10000000 }) only [c22, mkV, r1, r2, pa, pb, addV, outN, outT, zeroV, num, valV, φkinds, φsum, φnumber, φtime, hk1, hk2, hk4, hs, hw, ht, go_sem, List.map_cons, List.map_nil, List.append_assoc, List.cons_append, List.nil_append, List.append_nil, List.length_append, List.length_cons, List.length_nil, List.take_zero, List.take_succ_cons, List.take_nil, List.drop_zero, List.drop_succ_cons, List.drop_nil, Nat.zero_add, Nat.add_zero, Nat.reduceAdd, Nat.reduceSub, Nat.reduceMul, Nat.reduceEqDiff, Nat.reduceLeDiff, Nat.reduceLT, Int.reduceToNat, Int.reduceLE, Int.reduceLT, Int.reduceEq, Int.reduceNe, Int.reduceBEq, Int.reduceBNe, Nat.reduceBEq, Nat.reduceBNe, ↓reduceIte, reduceCtorEq, ↓reduceDIte, Option.map_some, Option.map_none, true_and, and_true, false_and, and_false, and_self, W_draw, condK_b, WIk_bt, WIk_bf, Bool.true_eq_false, Bool.false_eq_true, Bool.not_true, Bool.not_false, Bool.not_eq_true', Bool.not_eq_false', Bool.true_and, Bool.and_true, Bool.false_and, Bool.and_false, Bool.true_or, Bool.or_true, Bool.false_or, Bool.or_false, Bool.bne_true, Bool.bne_false, Bool.true_bne, Bool.false_bne, Bool.true_beq, Bool.false_beq, Bool.not_not, decide_true, decide_false, false_implies, true_implies, implies_true, forall_const, List.all_cons, List.all_nil, beq_self_eq_true, bne_self_eq_false, Nat.zero_le, Nat.le_refl, List.getElem?_cons_zero, List.getElem?_cons_succ, List.isEmpty_nil, List.isEmpty_cons, Int.cast_ofNat_Int, Int.toNat_zero]
    · cases h
  · cases h

set_option maxHeartbeats 4000000 in
theorem ok23 : OkAt Try.prog 23 φSub := by
  refine ok_of (l := [(11, φFormed), (43, φkinds), (47, φless), (44, φnumber), (46, φtime)]) (.cons ok11 (.cons ok43 (.cons ok47 (.cons ok44 (.cons ok46 .nil))))) fn23 fun args r h => ?_
  unfold φSub at h
  split at h
  · split at h
    · rename_i a b hab
      injection h with h; subst h
      refine ⟨by simp, by unfold subV outN outT; (repeat' split) <;> simp [D.cl, D.clL, zeroV, valV, num], fun H T => ?_⟩
      obtain ⟨ha, hb⟩ := hab
      have pa : φFormed [a] = some (.bool (formedB a)) := by simp [φFormed, ha, formed_same]
      have pb : φFormed [b] = some (.bool (formedB b)) := by simp [φFormed, hb, formed_same]
      generalize formedB a = fa at *
      generalize formedB b = fb at *
      obtain ⟨k1, i1, s1, n1, xs, rfl, z1, y1, hV1⟩ := isV_elim ha
      obtain ⟨k2, i2, s2, n2, ys, rfl, z2, y2, hV2⟩ := isV_elim hb
      have r1 := erase_of_isV hV1
      have r2 := erase_of_isV hV2
      simp only [vk_mk, vi_mk]
      simp only [mkV] at pa pb
      generalize hw : IntKind.i64.wrap (i1 - i2) = w
      cases fa with
      | false => simp (config := { contextual := true, maxSteps := 10000000 }) only [c23, mkV, r1, r2, pa, pb, subV, zeroV, go_sem, List.map_cons, List.map_nil, List.append_assoc, List.cons_append, List.nil_append, List.append_nil, List.length_append, List.length_cons, List.length_nil, List.take_zero, List.take_succ_cons, List.take_nil, List.drop_zero, List.drop_succ_cons, List.drop_nil, Nat.zero_add, Nat.add_zero, Nat.reduceAdd, Nat.reduceSub, Nat.reduceMul, Nat.reduceEqDiff, Nat.reduceLeDiff, Nat.reduceLT, Int.reduceToNat, Int.reduceLE, Int.reduceLT, Int.reduceEq, Int.reduceNe, Int.reduceBEq, Int.reduceBNe, Nat.reduceBEq, Nat.reduceBNe, ↓reduceIte, reduceCtorEq, ↓reduceDIte, Option.map_some, Option.map_none, true_and, and_true, false_and, and_false, and_self, W_draw, condK_b, WIk_bt, WIk_bf, Bool.true_eq_false, Bool.false_eq_true, Bool.not_true, Bool.not_false, Bool.not_eq_true', Bool.not_eq_false', Bool.true_and, Bool.and_true, Bool.false_and, Bool.and_false, Bool.true_or, Bool.or_true, Bool.false_or, Bool.or_false, Bool.bne_true, Bool.bne_false, Bool.true_bne, Bool.false_bne, Bool.true_beq, Bool.false_beq, Bool.not_not, decide_true, decide_false, false_implies, true_implies, implies_true, forall_const, List.all_cons, List.all_nil, beq_self_eq_true, bne_self_eq_false, Nat.zero_le, Nat.le_refl, List.getElem?_cons_zero, List.getElem?_cons_succ, List.isEmpty_nil, List.isEmpty_cons, Int.cast_ofNat_Int, Int.toNat_zero]
      | true =>
        cases fb with
        | false => simp (config := { contextual := true, maxSteps := 10000000 }) only [c23, mkV, r1, r2, pa, pb, subV, zeroV, go_sem, List.map_cons, List.map_nil, List.append_assoc, List.cons_append, List.nil_append, List.append_nil, List.length_append, List.length_cons, List.length_nil, List.take_zero, List.take_succ_cons, List.take_nil, List.drop_zero, List.drop_succ_cons, List.drop_nil, Nat.zero_add, Nat.add_zero, Nat.reduceAdd, Nat.reduceSub, Nat.reduceMul, Nat.reduceEqDiff, Nat.reduceLeDiff, Nat.reduceLT, Int.reduceToNat, Int.reduceLE, Int.reduceLT, Int.reduceEq, Int.reduceNe, Int.reduceBEq, Int.reduceBNe, Nat.reduceBEq, Nat.reduceBNe, ↓reduceIte, reduceCtorEq, ↓reduceDIte, Option.map_some, Option.map_none, true_and, and_true, false_and, and_false, and_self, W_draw, condK_b, WIk_bt, WIk_bf, Bool.true_eq_false, Bool.false_eq_true, Bool.not_true, Bool.not_false, Bool.not_eq_true', Bool.not_eq_false', Bool.true_and, Bool.and_true, Bool.false_and, Bool.and_false, Bool.true_or, Bool.or_true, Bool.false_or, Bool.or_false, Bool.bne_true, Bool.bne_false, Bool.true_bne, Bool.false_bne, Bool.true_beq, Bool.false_beq, Bool.not_not, decide_true, decide_false, false_implies, true_implies, implies_true, forall_const, List.all_cons, List.all_nil, beq_self_eq_true, bne_self_eq_false, Nat.zero_le, Nat.le_refl, List.getElem?_cons_zero, List.getElem?_cons_succ, List.isEmpty_nil, List.isEmpty_cons, Int.cast_ofNat_Int, Int.toNat_zero]
        | true =>
          cases hk1 : (k1 == 2) <;> cases hk2 : (k2 == 2) <;> cases hk4 : (k1 == 4) <;> cases hk5 : (k2 == 4) <;> cases hs : lessB i1 i2 <;> cases ht : timeOk w (lessB i1 i2) <;> rw [hs] at ht <;>
            simp (config := { contextual := true, maxSteps := 10000000 }) only [c23, mkV, r1, r2, pa, pb, subV, outN, outT, zeroV, num, valV, φkinds, φless, φnumber, φtime, hk1, hk2, hk4, hk5, hs, hw, ht, go_sem, List.map_cons, List.map_nil, List.append_assoc, List.cons_append, List.nil_append, List.append_nil, List.length_append, List.length_cons, List.length_nil, List.take_zero, List.take_succ_cons, List.take_nil, List.drop_zero, List.drop_succ_cons, List.drop_nil, Nat.zero_add, Nat.add_zero, Nat.reduceAdd, Nat.reduceSub, Nat.reduceMul, Nat.reduceEqDiff, Nat.reduceLeDiff, Nat.reduceLT, Int.reduceToNat, Int.reduceLE, Int.reduceLT, Int.reduceEq, Int.reduceNe, Int.reduceBEq, Int.reduceBNe, Nat.reduceBEq, Nat.reduceBNe, ↓reduceIte, reduceCtorEq, ↓reduceDIte, Option.map_some, Option.map_none, true_and, and_true, false_and, and_false, and_self, W_draw, condK_b, WIk_bt, WIk_bf, Bool.true_eq_false, Bool.false_eq_true, Bool.not_true, Bool.not_false, Bool.not_eq_true', Bool.not_eq_false', Bool.true_and, Bool.and_true, Bool.false_and, Bool.and_false, Bool.true_or, Bool.or_true, Bool.false_or, Bool.or_false, Bool.bne_true, Bool.bne_false, Bool.true_bne, Bool.false_bne, Bool.true_beq, Bool.false_beq, Bool.not_not, decide_true, decide_false, false_implies, true_implies, implies_true, forall_const, List.all_cons, List.all_nil, beq_self_eq_true, bne_self_eq_false, Nat.zero_le, Nat.le_refl, List.getElem?_cons_zero, List.getElem?_cons_succ, List.isEmpty_nil, List.isEmpty_cons, Int.cast_ofNat_Int, Int.toNat_zero]
    · cases h
  · cases h
end GP
