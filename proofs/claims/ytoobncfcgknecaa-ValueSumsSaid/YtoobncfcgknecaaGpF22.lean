import Derived.Test.YtoobncfcgknecaaGpF21
set_option linter.unusedSimpArgs false
namespace GP
open Go Go.Proofs
set_option maxRecDepth 10000

/-- How great a number is, without its sign. -/
def absI (n : Int) : Int := if n < 0 then -n else n
def φsize : List D → Option D
  | [.int .i64 n] => if -(2 ^ 63) ≤ n ∧ n < 2 ^ 63 then some (.int .u64 (absI n)) else none
  | _ => none
theorem ok63 : OkAt Try.prog 63 φsize := by
  refine ok_of (l := []) .nil fn63 fun args r h => ?_
  unfold φsize at h
  split at h
  · split at h
    · rename_i n hn
      injection h with h; subst h
      refine ⟨by simp, by simp [D.cl], fun H T => ?_⟩
      simp (config := { contextual := true, maxSteps := 10000000 }) only [c63, u64_eq, go_sem, List.map_cons, List.map_nil, List.append_assoc, List.cons_append, List.nil_append, List.append_nil, List.length_append, List.length_cons, List.length_nil, List.take_zero, List.take_succ_cons, List.take_nil, List.drop_zero, List.drop_succ_cons, List.drop_nil, Nat.zero_add, Nat.add_zero, Nat.reduceAdd, Nat.reduceSub, Nat.reduceMul, Nat.reduceEqDiff, Nat.reduceLeDiff, Nat.reduceLT, Int.reduceToNat, Int.reduceLE, Int.reduceLT, Int.reduceEq, Int.reduceNe, Int.reduceBEq, Int.reduceBNe, Nat.reduceBEq, Nat.reduceBNe, ↓reduceIte, reduceCtorEq, ↓reduceDIte, Option.map_some, Option.map_none, true_and, and_true, false_and, and_false, and_self, W_draw, condK_b, WIk_bt, WIk_bf, Bool.true_eq_false, Bool.false_eq_true, Bool.not_true, Bool.not_false, Bool.not_eq_true', Bool.not_eq_false', Bool.true_and, Bool.and_true, Bool.false_and, Bool.and_false, Bool.true_or, Bool.or_true, Bool.false_or, Bool.or_false, Bool.bne_true, Bool.bne_false, Bool.true_bne, Bool.false_bne, Bool.true_beq, Bool.false_beq, Bool.not_not, decide_true, decide_false, false_implies, true_implies, implies_true, forall_const, List.all_cons, List.all_nil, beq_self_eq_true, bne_self_eq_false, Nat.zero_le, Nat.le_refl, List.getElem?_cons_zero, List.getElem?_cons_succ, List.isEmpty_nil, List.isEmpty_cons, Int.cast_ofNat_Int, Int.toNat_zero]
      refine ⟨fun q => ?_, fun q => ?_⟩ <;> simp only [decide_eq_true_eq, decide_eq_false_iff_not] at q <;> simp only [D.int.injEq, true_and, absI]
      · rw [if_pos q]; omega
      · rw [if_neg q]; omega
    · cases h
  · cases h
end GP
