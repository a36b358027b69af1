import Derived.Test.YtoobncfcgknecaaGpF1
import Derived.Test.YtoobncfcgknecaaRows
set_option linter.unusedSimpArgs false
namespace GP
open Go Go.Proofs
set_option maxRecDepth 10000

theorem main4 (b : Bool) (n : Int) (s : List UInt8) (hs : s.length ≤ 2 ^ 47) (H : Hp) (T : Tk) : W (Snd Try.prog) c4 (endQ [.inl 6] (fun r _ _ => r = .bool true)) ⟨argT [.bool b, .int .i64 n, .str s], H, T⟩ := by
  refine W_mono (X := XL [(9, φawake), (16, φTruth), (17, φNumber), (18, φText), (11, φformed1)]) (Ok.X (.cons ok9 (.cons ok16 (.cons ok17 (.cons ok18 (.cons ok11a .nil)))))) (fun _ _ h => h) ?_
  have hl : decide (((List.take 64 s).length : Int) ≤ 64) = true := by simp; omega
  cases b <;> simp (config := { contextual := true, maxSteps := 10000000 }) only [c4, φawake, φTruth, φNumber, φText, φformed1, plainB, num, sub64, hl, go_sem, List.map_cons, List.map_nil, List.append_assoc, List.cons_append, List.nil_append, List.append_nil, List.length_append, List.length_cons, List.length_nil, List.take_zero, List.take_succ_cons, List.take_nil, List.drop_zero, List.drop_succ_cons, List.drop_nil, Nat.zero_add, Nat.add_zero, Nat.reduceAdd, Nat.reduceSub, Nat.reduceMul, Nat.reduceEqDiff, Nat.reduceLeDiff, Nat.reduceLT, Int.reduceToNat, Int.reduceLE, Int.reduceLT, Int.reduceEq, Int.reduceNe, Int.reduceBEq, Int.reduceBNe, Nat.reduceBEq, Nat.reduceBNe, ↓reduceIte, reduceCtorEq, ↓reduceDIte, Option.map_some, Option.map_none, true_and, and_true, false_and, and_false, and_self, W_draw, condK_b, WIk_bt, WIk_bf, Bool.true_eq_false, Bool.false_eq_true, Bool.not_true, Bool.not_false, Bool.not_eq_true', Bool.not_eq_false', Bool.true_and, Bool.and_true, Bool.false_and, Bool.and_false, Bool.true_or, Bool.or_true, Bool.false_or, Bool.or_false, Bool.bne_true, Bool.bne_false, Bool.true_bne, Bool.false_bne, Bool.true_beq, Bool.false_beq, Bool.not_not, decide_true, decide_false, false_implies, true_implies, implies_true, forall_const, List.all_cons, List.all_nil, beq_self_eq_true, bne_self_eq_false, Nat.zero_le, Nat.le_refl, List.getElem?_cons_zero, List.getElem?_cons_succ, List.isEmpty_nil, List.isEmpty_cons, Int.cast_ofNat_Int]
end GP
