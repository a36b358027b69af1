import Derived.Test.YtoobncfcgknecaaGpF6
import Derived.Lib.Bytealg
import Derived.Conc.EntryLaws
set_option linter.unusedSimpArgs false
namespace GP
open Go Go.Proofs
set_option maxRecDepth 10000

theorem body66 : Try.f66.body.isNone = true := by kernel_rfl
theorem name66 : (Try.f66.name == "runtime.NumGoroutine") = false := by kernel_rfl
theorem next66 : Extern.findNext Try.f66 = none := by kernel_rfl
theorem find66 : Extern.find Try.f66 = some Extern.BytealgCompare.compare := by rfl

theorem cmpS_eq : ∀ (a b : List UInt8), Lib.compareBytes a b = cmpS a b
  | [], [] => rfl
  | [], _ :: _ => rfl
  | _ :: _, [] => rfl
  | x :: a, y :: b => by
    simp only [Lib.compareBytes, cmpS, UInt8.lt_iff_toNat_lt, cmpS_eq a b]

def φcmp : List D → Option D
  | [.str a, .str b] => some (.int .i64 (cmpS a b))
  | _ => none

theorem ok66 : OkAt Try.prog 66 φcmp := by
  intro args r hr args' he H T Q hQ
  unfold φcmp at hr
  split at hr
  · rename_i a b
    injection hr with hr; subst hr
    intro c w vs hi hT hrep
    have h := hrep.erase
    rw [he] at h
    match vs, h.len with
    | [v1, v2], _ =>
      have h1 : Rep c (.str a) v1 := h.rep 0 (by simp) (by simp)
      have h2 : Rep c (.str b) v2 := h.rep 1 (by simp) (by simp)
      cases h1; cases h2
      refine .inr ⟨.int .i64 (cmpS a b), w, ?_, ?_⟩
      · rw [run_callFunc_extern Try.func66 name66 body66 next66 find66]
        have := Lib.run_compareString (P := Try.prog) ⟨a.toArray⟩ ⟨b.toArray⟩ w
        rw [cmpS_eq] at this
        simp only at this
        rw [this]; rfl
      · exact ⟨_, rfl, _, H, T, c, hQ, .int _ _, hi, Cx.le.refl c, hT, Below.refl _ _⟩
  · cases hr

theorem ok59 : OkAt Try.prog 59 φcmp := by
  refine ok_of (l := [(66, φcmp)]) (.cons ok66 .nil) fn59 fun args r h => ?_
  unfold φcmp at h
  split at h
  · injection h with h; subst h
    refine ⟨by simp, by simp [D.cl], fun H T => ?_⟩
    simp (config := { contextual := true, maxSteps := 10000000 }) only [c59, φcmp, go_sem, List.map_cons, List.map_nil, List.append_assoc, List.cons_append, List.nil_append, List.append_nil, List.length_append, List.length_cons, List.length_nil, List.take_zero, List.take_succ_cons, List.take_nil, List.drop_zero, List.drop_succ_cons, List.drop_nil, Nat.zero_add, Nat.add_zero, Nat.reduceAdd, Nat.reduceSub, Nat.reduceMul, Nat.reduceEqDiff, Nat.reduceLeDiff, Nat.reduceLT, Int.reduceToNat, Int.reduceLE, Int.reduceLT, Int.reduceEq, Int.reduceNe, Int.reduceBEq, Int.reduceBNe, Nat.reduceBEq, Nat.reduceBNe, ↓reduceIte, reduceCtorEq, ↓reduceDIte, Option.map_some, Option.map_none, true_and, and_true, false_and, and_false, and_self, W_draw, condK_b, WIk_bt, WIk_bf, Bool.true_eq_false, Bool.false_eq_true, Bool.not_true, Bool.not_false, Bool.not_eq_true', Bool.not_eq_false', Bool.true_and, Bool.and_true, Bool.false_and, Bool.and_false, Bool.true_or, Bool.or_true, Bool.false_or, Bool.or_false, Bool.bne_true, Bool.bne_false, Bool.true_bne, Bool.false_bne, Bool.true_beq, Bool.false_beq, Bool.not_not, decide_true, decide_false, false_implies, true_implies, implies_true, forall_const, List.all_cons, List.all_nil, beq_self_eq_true, bne_self_eq_false, Nat.zero_le, Nat.le_refl, List.getElem?_cons_zero, List.getElem?_cons_succ, List.isEmpty_nil, List.isEmpty_cons, Int.cast_ofNat_Int]
  · cases h

theorem ok37 : OkAt Try.prog 37 φcmp := by
  refine ok_of (l := [(59, φcmp)]) (.cons ok59 .nil) fn37 fun args r h => ?_
  unfold φcmp at h
  split at h
  · injection h with h; subst h
    refine ⟨by simp, by simp [D.cl], fun H T => ?_⟩
    simp (config := { contextual := true, maxSteps := 10000000 }) only [c37, φcmp, go_sem, List.map_cons, List.map_nil, List.append_assoc, List.cons_append, List.nil_append, List.append_nil, List.length_append, List.length_cons, List.length_nil, List.take_zero, List.take_succ_cons, List.take_nil, List.drop_zero, List.drop_succ_cons, List.drop_nil, Nat.zero_add, Nat.add_zero, Nat.reduceAdd, Nat.reduceSub, Nat.reduceMul, Nat.reduceEqDiff, Nat.reduceLeDiff, Nat.reduceLT, Int.reduceToNat, Int.reduceLE, Int.reduceLT, Int.reduceEq, Int.reduceNe, Int.reduceBEq, Int.reduceBNe, Nat.reduceBEq, Nat.reduceBNe, ↓reduceIte, reduceCtorEq, ↓reduceDIte, Option.map_some, Option.map_none, true_and, and_true, false_and, and_false, and_self, W_draw, condK_b, WIk_bt, WIk_bf, Bool.true_eq_false, Bool.false_eq_true, Bool.not_true, Bool.not_false, Bool.not_eq_true', Bool.not_eq_false', Bool.true_and, Bool.and_true, Bool.false_and, Bool.and_false, Bool.true_or, Bool.or_true, Bool.false_or, Bool.or_false, Bool.bne_true, Bool.bne_false, Bool.true_bne, Bool.false_bne, Bool.true_beq, Bool.false_beq, Bool.not_not, decide_true, decide_false, false_implies, true_implies, implies_true, forall_const, List.all_cons, List.all_nil, beq_self_eq_true, bne_self_eq_false, Nat.zero_le, Nat.le_refl, List.getElem?_cons_zero, List.getElem?_cons_succ, List.isEmpty_nil, List.isEmpty_cons, Int.cast_ofNat_Int]
  · cases h

def φnan : List D → Option D
  | [.int .i64 _] => some (.bool false)
  | _ => none

theorem ok57 : OkAt Try.prog 57 φnan := by
  refine ok_of (l := []) .nil fn57 fun args r h => ?_
  unfold φnan at h
  split at h
  · injection h with h; subst h
    refine ⟨by simp, by simp [D.cl], fun H T => ?_⟩
    simp (config := { contextual := true, maxSteps := 10000000 }) only [c57, go_sem, List.map_cons, List.map_nil, List.append_assoc, List.cons_append, List.nil_append, List.append_nil, List.length_append, List.length_cons, List.length_nil, List.take_zero, List.take_succ_cons, List.take_nil, List.drop_zero, List.drop_succ_cons, List.drop_nil, Nat.zero_add, Nat.add_zero, Nat.reduceAdd, Nat.reduceSub, Nat.reduceMul, Nat.reduceEqDiff, Nat.reduceLeDiff, Nat.reduceLT, Int.reduceToNat, Int.reduceLE, Int.reduceLT, Int.reduceEq, Int.reduceNe, Int.reduceBEq, Int.reduceBNe, Nat.reduceBEq, Nat.reduceBNe, ↓reduceIte, reduceCtorEq, ↓reduceDIte, Option.map_some, Option.map_none, true_and, and_true, false_and, and_false, and_self, W_draw, condK_b, WIk_bt, WIk_bf, Bool.true_eq_false, Bool.false_eq_true, Bool.not_true, Bool.not_false, Bool.not_eq_true', Bool.not_eq_false', Bool.true_and, Bool.and_true, Bool.false_and, Bool.and_false, Bool.true_or, Bool.or_true, Bool.false_or, Bool.or_false, Bool.bne_true, Bool.bne_false, Bool.true_bne, Bool.false_bne, Bool.true_beq, Bool.false_beq, Bool.not_not, decide_true, decide_false, false_implies, true_implies, implies_true, forall_const, List.all_cons, List.all_nil, beq_self_eq_true, bne_self_eq_false, Nat.zero_le, Nat.le_refl, List.getElem?_cons_zero, List.getElem?_cons_succ, List.isEmpty_nil, List.isEmpty_cons, Int.cast_ofNat_Int]
  · cases h
theorem ok58 : OkAt Try.prog 58 φnan := by
  refine ok_of (l := []) .nil fn58 fun args r h => ?_
  unfold φnan at h
  split at h
  · injection h with h; subst h
    refine ⟨by simp, by simp [D.cl], fun H T => ?_⟩
    simp (config := { contextual := true, maxSteps := 10000000 }) only [c58, go_sem, List.map_cons, List.map_nil, List.append_assoc, List.cons_append, List.nil_append, List.append_nil, List.length_append, List.length_cons, List.length_nil, List.take_zero, List.take_succ_cons, List.take_nil, List.drop_zero, List.drop_succ_cons, List.drop_nil, Nat.zero_add, Nat.add_zero, Nat.reduceAdd, Nat.reduceSub, Nat.reduceMul, Nat.reduceEqDiff, Nat.reduceLeDiff, Nat.reduceLT, Int.reduceToNat, Int.reduceLE, Int.reduceLT, Int.reduceEq, Int.reduceNe, Int.reduceBEq, Int.reduceBNe, Nat.reduceBEq, Nat.reduceBNe, ↓reduceIte, reduceCtorEq, ↓reduceDIte, Option.map_some, Option.map_none, true_and, and_true, false_and, and_false, and_self, W_draw, condK_b, WIk_bt, WIk_bf, Bool.true_eq_false, Bool.false_eq_true, Bool.not_true, Bool.not_false, Bool.not_eq_true', Bool.not_eq_false', Bool.true_and, Bool.and_true, Bool.false_and, Bool.and_false, Bool.true_or, Bool.or_true, Bool.false_or, Bool.or_false, Bool.bne_true, Bool.bne_false, Bool.true_bne, Bool.false_bne, Bool.true_beq, Bool.false_beq, Bool.not_not, decide_true, decide_false, false_implies, true_implies, implies_true, forall_const, List.all_cons, List.all_nil, beq_self_eq_true, bne_self_eq_false, Nat.zero_le, Nat.le_refl, List.getElem?_cons_zero, List.getElem?_cons_succ, List.isEmpty_nil, List.isEmpty_cons, Int.cast_ofNat_Int]
  · cases h
theorem ok35 : OkAt Try.prog 35 φnumbers := by
  refine ok_of (l := [(57, φnan)]) (.cons ok57 .nil) fn35 fun args r h => ?_
  unfold φnumbers at h
  split at h
  · injection h with h; subst h
    refine ⟨by simp, by simp [D.cl], fun H T => ?_⟩
    simp (config := { contextual := true, maxSteps := 10000000 }) only [c35, φnan, cmpI, go_sem, List.map_cons, List.map_nil, List.append_assoc, List.cons_append, List.nil_append, List.append_nil, List.length_append, List.length_cons, List.length_nil, List.take_zero, List.take_succ_cons, List.take_nil, List.drop_zero, List.drop_succ_cons, List.drop_nil, Nat.zero_add, Nat.add_zero, Nat.reduceAdd, Nat.reduceSub, Nat.reduceMul, Nat.reduceEqDiff, Nat.reduceLeDiff, Nat.reduceLT, Int.reduceToNat, Int.reduceLE, Int.reduceLT, Int.reduceEq, Int.reduceNe, Int.reduceBEq, Int.reduceBNe, Nat.reduceBEq, Nat.reduceBNe, ↓reduceIte, reduceCtorEq, ↓reduceDIte, Option.map_some, Option.map_none, true_and, and_true, false_and, and_false, and_self, W_draw, condK_b, WIk_bt, WIk_bf, Bool.true_eq_false, Bool.false_eq_true, Bool.not_true, Bool.not_false, Bool.not_eq_true', Bool.not_eq_false', Bool.true_and, Bool.and_true, Bool.false_and, Bool.and_false, Bool.true_or, Bool.or_true, Bool.false_or, Bool.or_false, Bool.bne_true, Bool.bne_false, Bool.true_bne, Bool.false_bne, Bool.true_beq, Bool.false_beq, Bool.not_not, decide_true, decide_false, false_implies, true_implies, implies_true, forall_const, List.all_cons, List.all_nil, beq_self_eq_true, bne_self_eq_false, Nat.zero_le, Nat.le_refl, List.getElem?_cons_zero, List.getElem?_cons_succ, List.isEmpty_nil, List.isEmpty_cons, Int.cast_ofNat_Int]
    simp
    omega
  · cases h
theorem ok36 : OkAt Try.prog 36 φnumbers := by
  refine ok_of (l := [(58, φnan)]) (.cons ok58 .nil) fn36 fun args r h => ?_
  unfold φnumbers at h
  split at h
  · injection h with h; subst h
    refine ⟨by simp, by simp [D.cl], fun H T => ?_⟩
    simp (config := { contextual := true, maxSteps := 10000000 }) only [c36, φnan, cmpI, go_sem, List.map_cons, List.map_nil, List.append_assoc, List.cons_append, List.nil_append, List.append_nil, List.length_append, List.length_cons, List.length_nil, List.take_zero, List.take_succ_cons, List.take_nil, List.drop_zero, List.drop_succ_cons, List.drop_nil, Nat.zero_add, Nat.add_zero, Nat.reduceAdd, Nat.reduceSub, Nat.reduceMul, Nat.reduceEqDiff, Nat.reduceLeDiff, Nat.reduceLT, Int.reduceToNat, Int.reduceLE, Int.reduceLT, Int.reduceEq, Int.reduceNe, Int.reduceBEq, Int.reduceBNe, Nat.reduceBEq, Nat.reduceBNe, ↓reduceIte, reduceCtorEq, ↓reduceDIte, Option.map_some, Option.map_none, true_and, and_true, false_and, and_false, and_self, W_draw, condK_b, WIk_bt, WIk_bf, Bool.true_eq_false, Bool.false_eq_true, Bool.not_true, Bool.not_false, Bool.not_eq_true', Bool.not_eq_false', Bool.true_and, Bool.and_true, Bool.false_and, Bool.and_false, Bool.true_or, Bool.or_true, Bool.false_or, Bool.or_false, Bool.bne_true, Bool.bne_false, Bool.true_bne, Bool.false_bne, Bool.true_beq, Bool.false_beq, Bool.not_not, decide_true, decide_false, false_implies, true_implies, implies_true, forall_const, List.all_cons, List.all_nil, beq_self_eq_true, bne_self_eq_false, Nat.zero_le, Nat.le_refl, List.getElem?_cons_zero, List.getElem?_cons_succ, List.isEmpty_nil, List.isEmpty_cons, Int.cast_ofNat_Int]
    simp
    omega
  · cases h

def φone : List D → Option D
  | [.agg [.int .i64 k, .int .i64 i, .str s, l]] => match lenD l with
    | some n => some (.bool (plainB k i s n))
    | none => none
  | _ => none

theorem ok32 : OkAt Try.prog 32 φone := by
  refine ok_of (l := []) Ok.nil fn32 fun args r h => ?_
  unfold φone at h
  split at h
  · split at h
    · rename_i k i s l n hn
      injection h with h; subst h
      refine ⟨by simp, by simp [D.cl, D.clL, num], fun H T => ?_⟩
      have hl := lenD_okc hn
      simp (config := { contextual := true, maxSteps := 10000000 }) only [c32, hn, hl.1, hl.2, go_sem, List.map_cons, List.map_nil, List.append_assoc, List.cons_append, List.nil_append, List.append_nil, List.length_append, List.length_cons, List.length_nil, List.take_zero, List.take_succ_cons, List.take_nil, List.drop_zero, List.drop_succ_cons, List.drop_nil, Nat.zero_add, Nat.add_zero, Nat.reduceAdd, Nat.reduceSub, Nat.reduceMul, Nat.reduceEqDiff, Nat.reduceLeDiff, Nat.reduceLT, Int.reduceToNat, Int.reduceLE, Int.reduceLT, Int.reduceEq, Int.reduceNe, Int.reduceBEq, Int.reduceBNe, Nat.reduceBEq, Nat.reduceBNe, ↓reduceIte, reduceCtorEq, ↓reduceDIte, Option.map_some, Option.map_none, true_and, and_true, false_and, and_false, and_self, W_draw, condK_b, WIk_bt, WIk_bf, Bool.true_eq_false, Bool.false_eq_true, Bool.not_true, Bool.not_false, Bool.not_eq_true', Bool.not_eq_false', Bool.true_and, Bool.and_true, Bool.false_and, Bool.and_false, Bool.true_or, Bool.or_true, Bool.false_or, Bool.or_false, Bool.bne_true, Bool.bne_false, Bool.true_bne, Bool.false_bne, Bool.true_beq, Bool.false_beq, Bool.not_not, decide_true, decide_false, false_implies, true_implies, implies_true, forall_const, List.all_cons, List.all_nil, beq_self_eq_true, bne_self_eq_false, Nat.zero_le, Nat.le_refl, List.getElem?_cons_zero, List.getElem?_cons_succ, List.isEmpty_nil, List.isEmpty_cons, Int.cast_ofNat_Int]
      repeat' (first | apply And.intro | intro _)
      all_goals grind [plainB]
    · cases h
  · cases h

/-- Of two that are no bags. -/
def singleI (k i : Int) (s : List UInt8) (k' i' : Int) (s' : List UInt8) : Int :=
  if k != k' then cmpI k k' else if k == 3 then cmpS s s' else cmpI i i'
def φsingle : List D → Option D
  | [.agg [.int .i64 k, .int .i64 i, .str s, l], .agg [.int .i64 k', .int .i64 i', .str s', l']] => if s.length ≤ 2 ^ 47 ∧ s'.length ≤ 2 ^ 47 ∧ (lenD l).isSome ∧ (lenD l').isSome then some (.int .i64 (singleI k i s k' i' s')) else none
  | _ => none
theorem ok33 : OkAt Try.prog 33 φsingle := by
  refine ok_of (l := [(39, φnumbers), (56, φTexts)]) (.cons ok39 (.cons ok56 .nil)) fn33 fun args r h => ?_
  unfold φsingle at h
  split at h
  · split at h
    · rename_i hl
      injection h with h; subst h
      refine ⟨by simp, by simp [D.cl, D.clL, num], fun H T => ?_⟩
      obtain ⟨h1, h2, h3, h4⟩ := hl
      obtain ⟨n, hn⟩ := Option.isSome_iff_exists.1 h3
      obtain ⟨n', hn'⟩ := Option.isSome_iff_exists.1 h4
      have hl := lenD_okc hn
      have hl' := lenD_okc hn'
      simp (config := { contextual := true, maxSteps := 10000000 }) only [c33, φnumbers, φTexts, singleI, hn, hl.1, hl.2, hn', hl'.1, hl'.2, h1, h2, go_sem, List.map_cons, List.map_nil, List.append_assoc, List.cons_append, List.nil_append, List.append_nil, List.length_append, List.length_cons, List.length_nil, List.take_zero, List.take_succ_cons, List.take_nil, List.drop_zero, List.drop_succ_cons, List.drop_nil, Nat.zero_add, Nat.add_zero, Nat.reduceAdd, Nat.reduceSub, Nat.reduceMul, Nat.reduceEqDiff, Nat.reduceLeDiff, Nat.reduceLT, Int.reduceToNat, Int.reduceLE, Int.reduceLT, Int.reduceEq, Int.reduceNe, Int.reduceBEq, Int.reduceBNe, Nat.reduceBEq, Nat.reduceBNe, ↓reduceIte, reduceCtorEq, ↓reduceDIte, Option.map_some, Option.map_none, true_and, and_true, false_and, and_false, and_self, W_draw, condK_b, WIk_bt, WIk_bf, Bool.true_eq_false, Bool.false_eq_true, Bool.not_true, Bool.not_false, Bool.not_eq_true', Bool.not_eq_false', Bool.true_and, Bool.and_true, Bool.false_and, Bool.and_false, Bool.true_or, Bool.or_true, Bool.false_or, Bool.or_false, Bool.bne_true, Bool.bne_false, Bool.true_bne, Bool.false_bne, Bool.true_beq, Bool.false_beq, Bool.not_not, decide_true, decide_false, false_implies, true_implies, implies_true, forall_const, List.all_cons, List.all_nil, beq_self_eq_true, bne_self_eq_false, Nat.zero_le, Nat.le_refl, List.getElem?_cons_zero, List.getElem?_cons_succ, List.isEmpty_nil, List.isEmpty_cons, Int.cast_ofNat_Int]
    · cases h
  · cases h
end GP
