import Derived.Test.YtoobncfcgknecaaGpF0
set_option linter.unusedSimpArgs false
namespace GP
open Go Go.Proofs

def zeroV : D := .agg [.int .i64 0, .int .i64 0, .str [], .nils]
def num (n : Int) : D := .agg [.int .i64 2, .int .i64 n, .str [], .nils]

def φTruth : List D → Option D
  | [.bool b] => some (.agg [.int .i64 1, .int .i64 (if b then 1 else 0), .str [], .nils])
  | _ => none
def φNumber : List D → Option D
  | [.int .i64 n] => some (num n)
  | _ => none
def φText : List D → Option D
  | [.str s] => some (.agg [.int .i64 3, .int .i64 0, .str (s.take 64), .nils])
  | _ => none

set_option maxRecDepth 10000

theorem ok16 : OkAt Try.prog 16 φTruth := by
  refine ok_of (l := []) Ok.nil fn16 fun args r h => ?_
  unfold φTruth at h
  split at h
  · injection h with h; subst h
    refine ⟨by simp, by simp [D.cl, D.clL], fun H T => ?_⟩
    rename_i b
    cases b <;> simp (config := { contextual := true, maxSteps := 10000000 }) only [c16, go_sem, List.map_cons, List.map_nil, List.append_assoc, List.cons_append, List.nil_append, List.append_nil, List.length_append, List.length_cons, List.length_nil, List.take_zero, List.take_succ_cons, List.take_nil, List.drop_zero, List.drop_succ_cons, List.drop_nil, Nat.zero_add, Nat.add_zero, Nat.reduceAdd, Nat.reduceSub, Nat.reduceMul, Nat.reduceEqDiff, Nat.reduceLeDiff, Nat.reduceLT, Int.reduceToNat, Int.reduceLE, Int.reduceLT, Int.reduceEq, Int.reduceNe, Int.reduceBEq, Int.reduceBNe, Nat.reduceBEq, Nat.reduceBNe, ↓reduceIte, reduceCtorEq, ↓reduceDIte, Option.map_some, Option.map_none, true_and, and_true, false_and, and_false, and_self, W_draw, condK_b, WIk_bt, WIk_bf, Bool.true_eq_false, Bool.false_eq_true, Bool.not_true, Bool.not_false, Bool.not_eq_true', Bool.not_eq_false', Bool.true_and, Bool.and_true, Bool.false_and, Bool.and_false, Bool.true_or, Bool.or_true, Bool.false_or, Bool.or_false, Bool.bne_true, Bool.bne_false, Bool.true_bne, Bool.false_bne, Bool.true_beq, Bool.false_beq, Bool.not_not, decide_true, decide_false, false_implies, true_implies, implies_true, forall_const, List.all_cons, List.all_nil, beq_self_eq_true, bne_self_eq_false, Nat.zero_le, Nat.le_refl, List.getElem?_cons_zero, List.getElem?_cons_succ, List.isEmpty_nil, List.isEmpty_cons, Int.cast_ofNat_Int]
  · cases h

theorem ok17 : OkAt Try.prog 17 φNumber := by
  refine ok_of (l := []) Ok.nil fn17 fun args r h => ?_
  unfold φNumber at h
  split at h
  · injection h with h; subst h
    refine ⟨by simp, by simp [D.cl, D.clL, num], fun H T => ?_⟩
    simp (config := { contextual := true, maxSteps := 10000000 }) only [c17, num, go_sem, List.map_cons, List.map_nil, List.append_assoc, List.cons_append, List.nil_append, List.append_nil, List.length_append, List.length_cons, List.length_nil, List.take_zero, List.take_succ_cons, List.take_nil, List.drop_zero, List.drop_succ_cons, List.drop_nil, Nat.zero_add, Nat.add_zero, Nat.reduceAdd, Nat.reduceSub, Nat.reduceMul, Nat.reduceEqDiff, Nat.reduceLeDiff, Nat.reduceLT, Int.reduceToNat, Int.reduceLE, Int.reduceLT, Int.reduceEq, Int.reduceNe, Int.reduceBEq, Int.reduceBNe, Nat.reduceBEq, Nat.reduceBNe, ↓reduceIte, reduceCtorEq, ↓reduceDIte, Option.map_some, Option.map_none, true_and, and_true, false_and, and_false, and_self, W_draw, condK_b, WIk_bt, WIk_bf, Bool.true_eq_false, Bool.false_eq_true, Bool.not_true, Bool.not_false, Bool.not_eq_true', Bool.not_eq_false', Bool.true_and, Bool.and_true, Bool.false_and, Bool.and_false, Bool.true_or, Bool.or_true, Bool.false_or, Bool.or_false, Bool.bne_true, Bool.bne_false, Bool.true_bne, Bool.false_bne, Bool.true_beq, Bool.false_beq, Bool.not_not, decide_true, decide_false, false_implies, true_implies, implies_true, forall_const, List.all_cons, List.all_nil, beq_self_eq_true, bne_self_eq_false, Nat.zero_le, Nat.le_refl, List.getElem?_cons_zero, List.getElem?_cons_succ, List.isEmpty_nil, List.isEmpty_cons, Int.cast_ofNat_Int]
  · cases h

theorem sub64 (s : List UInt8) : sub (some 0) (some (if (64 : Int) < s.length then 64 else (s.length : Int))) (.str s) = some (.str (s.take 64)) := by
  generalize h : (if (64 : Int) < s.length then 64 else (s.length : Int)) = a
  have h0 : (0 : Int) ≤ 0 ∧ 0 ≤ a ∧ a ≤ s.length := by split at h <;> omega
  rw [sub_s, if_pos h0]
  simp only [subList, Int.toNat_zero, List.drop_zero]
  congr 2
  split at h
  · subst h; rfl
  · subst h
    rw [List.take_of_length_le (i := 64) (by omega)]
    simp

theorem ok18 : OkAt Try.prog 18 φText := by
  refine ok_of (l := []) Ok.nil fn18 fun args r h => ?_
  unfold φText at h
  split at h
  · injection h with h; subst h
    refine ⟨by simp, by simp [D.cl, D.clL, num], fun H T => ?_⟩
    rename_i s
    simp (config := { contextual := true, maxSteps := 10000000 }) only [c18, sub64, go_sem, List.map_cons, List.map_nil, List.append_assoc, List.cons_append, List.nil_append, List.append_nil, List.length_append, List.length_cons, List.length_nil, List.take_zero, List.take_succ_cons, List.take_nil, List.drop_zero, List.drop_succ_cons, List.drop_nil, Nat.zero_add, Nat.add_zero, Nat.reduceAdd, Nat.reduceSub, Nat.reduceMul, Nat.reduceEqDiff, Nat.reduceLeDiff, Nat.reduceLT, Int.reduceToNat, Int.reduceLE, Int.reduceLT, Int.reduceEq, Int.reduceNe, Int.reduceBEq, Int.reduceBNe, Nat.reduceBEq, Nat.reduceBNe, ↓reduceIte, reduceCtorEq, ↓reduceDIte, Option.map_some, Option.map_none, true_and, and_true, false_and, and_false, and_self, W_draw, condK_b, WIk_bt, WIk_bf, Bool.true_eq_false, Bool.false_eq_true, Bool.not_true, Bool.not_false, Bool.not_eq_true', Bool.not_eq_false', Bool.true_and, Bool.and_true, Bool.false_and, Bool.and_false, Bool.true_or, Bool.or_true, Bool.false_or, Bool.or_false, Bool.bne_true, Bool.bne_false, Bool.true_bne, Bool.false_bne, Bool.true_beq, Bool.false_beq, Bool.not_not, decide_true, decide_false, false_implies, true_implies, implies_true, forall_const, List.all_cons, List.all_nil, beq_self_eq_true, bne_self_eq_false, Nat.zero_le, Nat.le_refl, List.getElem?_cons_zero, List.getElem?_cons_succ, List.isEmpty_nil, List.isEmpty_cons, Int.cast_ofNat_Int]
  · cases h

def plainB (k i : Int) (s : List UInt8) (n : Nat) : Bool :=
  if decide ((0 : Int) < n) then false else if (k != 3) && (s != []) then false else
  if k == 0 then i == 0 else if k == 1 then i == 0 || i == 1 else if k == 2 then true else
  if k == 3 then i == 0 && decide ((s.length : Int) ≤ 64) else if k == 4 then decide (0 ≤ i) && decide (i ≤ 1099511627776) else false

def φplain : List D → Option D
  | [.agg [.int .i64 k, .int .i64 i, .str s, l]] => match lenD l with
    | some n => some (.bool (plainB k i s n))
    | none => none
  | _ => none

theorem lenD_okc {l : D} {n : Nat} (h : lenD l = some n) : l.okc = true ∧ l.cells = [l] := by
  cases l <;> simp [lenD] at h <;> exact ⟨rfl, rfl⟩

theorem ok31 : OkAt Try.prog 31 φplain := by
  refine ok_of (l := []) Ok.nil fn31 fun args r h => ?_
  unfold φplain at h
  split at h
  · split at h
    · rename_i k i s l n hn
      injection h with h; subst h
      refine ⟨by simp, by simp [D.cl, D.clL, num], fun H T => ?_⟩
      have hl := lenD_okc hn
      simp (config := { contextual := true, maxSteps := 10000000 }) only [c31, plainB, hn, hl.1, hl.2, go_sem, List.map_cons, List.map_nil, List.append_assoc, List.cons_append, List.nil_append, List.append_nil, List.length_append, List.length_cons, List.length_nil, List.take_zero, List.take_succ_cons, List.take_nil, List.drop_zero, List.drop_succ_cons, List.drop_nil, Nat.zero_add, Nat.add_zero, Nat.reduceAdd, Nat.reduceSub, Nat.reduceMul, Nat.reduceEqDiff, Nat.reduceLeDiff, Nat.reduceLT, Int.reduceToNat, Int.reduceLE, Int.reduceLT, Int.reduceEq, Int.reduceNe, Int.reduceBEq, Int.reduceBNe, Nat.reduceBEq, Nat.reduceBNe, ↓reduceIte, reduceCtorEq, ↓reduceDIte, Option.map_some, Option.map_none, true_and, and_true, false_and, and_false, and_self, W_draw, condK_b, WIk_bt, WIk_bf, Bool.true_eq_false, Bool.false_eq_true, Bool.not_true, Bool.not_false, Bool.not_eq_true', Bool.not_eq_false', Bool.true_and, Bool.and_true, Bool.false_and, Bool.and_false, Bool.true_or, Bool.or_true, Bool.false_or, Bool.or_false, Bool.bne_true, Bool.bne_false, Bool.true_bne, Bool.false_bne, Bool.true_beq, Bool.false_beq, Bool.not_not, decide_true, decide_false, false_implies, true_implies, implies_true, forall_const, List.all_cons, List.all_nil, beq_self_eq_true, bne_self_eq_false, Nat.zero_le, Nat.le_refl, List.getElem?_cons_zero, List.getElem?_cons_succ, List.isEmpty_nil, List.isEmpty_cons, Int.cast_ofNat_Int]
    · cases h
  · cases h

/-- Formed, of what is no bag. -/
def φformed1 : List D → Option D
  | [.agg [.int .i64 k, .int .i64 i, .str s, l]] => if k = 5 then none else match lenD l with
    | some n => some (.bool (plainB k i s n))
    | none => none
  | _ => none

theorem ok11a : OkAt Try.prog 11 φformed1 := by
  refine ok_of (l := [(31, φplain)]) (.cons ok31 .nil) fn11 fun args r h => ?_
  unfold φformed1 at h
  split at h
  · split at h
    · cases h
    · split at h
      · rename_i k i s l hk _ n hn
        injection h with h; subst h
        refine ⟨by simp, by simp [D.cl, D.clL, num], fun H T => ?_⟩
        have hl := lenD_okc hn
        have hk' : (k != 5) = true := by simpa using hk
        have he : lenD l.erase = some n := by cases l <;> simp [lenD, D.erase, eraseL_len] at hn ⊢ <;> exact hn
        simp (config := { contextual := true, maxSteps := 10000000 }) only [c11, φplain, hn, hl.1, hl.2, hk', he, go_sem, List.map_cons, List.map_nil, List.append_assoc, List.cons_append, List.nil_append, List.append_nil, List.length_append, List.length_cons, List.length_nil, List.take_zero, List.take_succ_cons, List.take_nil, List.drop_zero, List.drop_succ_cons, List.drop_nil, Nat.zero_add, Nat.add_zero, Nat.reduceAdd, Nat.reduceSub, Nat.reduceMul, Nat.reduceEqDiff, Nat.reduceLeDiff, Nat.reduceLT, Int.reduceToNat, Int.reduceLE, Int.reduceLT, Int.reduceEq, Int.reduceNe, Int.reduceBEq, Int.reduceBNe, Nat.reduceBEq, Nat.reduceBNe, ↓reduceIte, reduceCtorEq, ↓reduceDIte, Option.map_some, Option.map_none, true_and, and_true, false_and, and_false, and_self, W_draw, condK_b, WIk_bt, WIk_bf, Bool.true_eq_false, Bool.false_eq_true, Bool.not_true, Bool.not_false, Bool.not_eq_true', Bool.not_eq_false', Bool.true_and, Bool.and_true, Bool.false_and, Bool.and_false, Bool.true_or, Bool.or_true, Bool.false_or, Bool.or_false, Bool.bne_true, Bool.bne_false, Bool.true_bne, Bool.false_bne, Bool.true_beq, Bool.false_beq, Bool.not_not, decide_true, decide_false, false_implies, true_implies, implies_true, forall_const, List.all_cons, List.all_nil, beq_self_eq_true, bne_self_eq_false, Nat.zero_le, Nat.le_refl, List.getElem?_cons_zero, List.getElem?_cons_succ, List.isEmpty_nil, List.isEmpty_cons, Int.cast_ofNat_Int]
      · cases h
  · cases h

def φkinds : List D → Option D
  | [.agg [.int .i64 k, _, _, _], .agg [.int .i64 k', _, _, _]] => some (.agg [.int .i64 k, .int .i64 k'])
  | _ => none

theorem ok43 : OkAt Try.prog 43 φkinds := by
  refine ok_of (l := []) Ok.nil fn43 fun args r h => ?_
  unfold φkinds at h
  split at h
  · injection h with h; subst h
    refine ⟨by simp, by simp [D.cl, D.clL, num], fun H T => ?_⟩
    simp (config := { contextual := true, maxSteps := 10000000 }) only [c43, go_sem, List.map_cons, List.map_nil, List.append_assoc, List.cons_append, List.nil_append, List.append_nil, List.length_append, List.length_cons, List.length_nil, List.take_zero, List.take_succ_cons, List.take_nil, List.drop_zero, List.drop_succ_cons, List.drop_nil, Nat.zero_add, Nat.add_zero, Nat.reduceAdd, Nat.reduceSub, Nat.reduceMul, Nat.reduceEqDiff, Nat.reduceLeDiff, Nat.reduceLT, Int.reduceToNat, Int.reduceLE, Int.reduceLT, Int.reduceEq, Int.reduceNe, Int.reduceBEq, Int.reduceBNe, Nat.reduceBEq, Nat.reduceBNe, ↓reduceIte, reduceCtorEq, ↓reduceDIte, Option.map_some, Option.map_none, true_and, and_true, false_and, and_false, and_self, W_draw, condK_b, WIk_bt, WIk_bf, Bool.true_eq_false, Bool.false_eq_true, Bool.not_true, Bool.not_false, Bool.not_eq_true', Bool.not_eq_false', Bool.true_and, Bool.and_true, Bool.false_and, Bool.and_false, Bool.true_or, Bool.or_true, Bool.false_or, Bool.or_false, Bool.bne_true, Bool.bne_false, Bool.true_bne, Bool.false_bne, Bool.true_beq, Bool.false_beq, Bool.not_not, decide_true, decide_false, false_implies, true_implies, implies_true, forall_const, List.all_cons, List.all_nil, beq_self_eq_true, bne_self_eq_false, Nat.zero_le, Nat.le_refl, List.getElem?_cons_zero, List.getElem?_cons_succ, List.isEmpty_nil, List.isEmpty_cons, Int.cast_ofNat_Int]
  · cases h

def φnumber : List D → Option D
  | [.int .i64 n, .bool ok] => some (.tup [if ok then num n else zeroV, .int .i64 (if ok then 0 else 7)])
  | _ => none

theorem ok44 : OkAt Try.prog 44 φnumber := by
  refine ok_of (l := [(17, φNumber)]) (.cons ok17 .nil) fn44 fun args r h => ?_
  unfold φnumber at h
  split at h
  · injection h with h; subst h
    rename_i n ok
    refine ⟨by simp, by cases ok <;> simp [D.cl, D.clL, num, zeroV], fun H T => ?_⟩
    cases ok <;> simp (config := { contextual := true, maxSteps := 10000000 }) only [c44, φNumber, num, zeroV, go_sem, List.map_cons, List.map_nil, List.append_assoc, List.cons_append, List.nil_append, List.append_nil, List.length_append, List.length_cons, List.length_nil, List.take_zero, List.take_succ_cons, List.take_nil, List.drop_zero, List.drop_succ_cons, List.drop_nil, Nat.zero_add, Nat.add_zero, Nat.reduceAdd, Nat.reduceSub, Nat.reduceMul, Nat.reduceEqDiff, Nat.reduceLeDiff, Nat.reduceLT, Int.reduceToNat, Int.reduceLE, Int.reduceLT, Int.reduceEq, Int.reduceNe, Int.reduceBEq, Int.reduceBNe, Nat.reduceBEq, Nat.reduceBNe, ↓reduceIte, reduceCtorEq, ↓reduceDIte, Option.map_some, Option.map_none, true_and, and_true, false_and, and_false, and_self, W_draw, condK_b, WIk_bt, WIk_bf, Bool.true_eq_false, Bool.false_eq_true, Bool.not_true, Bool.not_false, Bool.not_eq_true', Bool.not_eq_false', Bool.true_and, Bool.and_true, Bool.false_and, Bool.and_false, Bool.true_or, Bool.or_true, Bool.false_or, Bool.or_false, Bool.bne_true, Bool.bne_false, Bool.true_bne, Bool.false_bne, Bool.true_beq, Bool.false_beq, Bool.not_not, decide_true, decide_false, false_implies, true_implies, implies_true, forall_const, List.all_cons, List.all_nil, beq_self_eq_true, bne_self_eq_false, Nat.zero_le, Nat.le_refl, List.getElem?_cons_zero, List.getElem?_cons_succ, List.isEmpty_nil, List.isEmpty_cons, Int.cast_ofNat_Int]
  · cases h

/-- Sum, and whether it can be. -/
def sumB (a b : Int) : Bool := !(decide (a < 0) == decide (b < 0)) || (decide (IntKind.i64.wrap (a + b) < 0) == decide (a < 0))
def φsum : List D → Option D
  | [.int .i64 a, .int .i64 b] => some (.tup [.int .i64 (IntKind.i64.wrap (a + b)), .bool (sumB a b)])
  | _ => none

theorem ok45 : OkAt Try.prog 45 φsum := by
  refine ok_of (l := []) Ok.nil fn45 fun args r h => ?_
  unfold φsum at h
  split at h
  · injection h with h; subst h
    refine ⟨by simp, by simp [D.cl, D.clL, num], fun H T => ?_⟩
    simp (config := { contextual := true, maxSteps := 10000000 }) only [c45, sumB, go_sem, List.map_cons, List.map_nil, List.append_assoc, List.cons_append, List.nil_append, List.append_nil, List.length_append, List.length_cons, List.length_nil, List.take_zero, List.take_succ_cons, List.take_nil, List.drop_zero, List.drop_succ_cons, List.drop_nil, Nat.zero_add, Nat.add_zero, Nat.reduceAdd, Nat.reduceSub, Nat.reduceMul, Nat.reduceEqDiff, Nat.reduceLeDiff, Nat.reduceLT, Int.reduceToNat, Int.reduceLE, Int.reduceLT, Int.reduceEq, Int.reduceNe, Int.reduceBEq, Int.reduceBNe, Nat.reduceBEq, Nat.reduceBNe, ↓reduceIte, reduceCtorEq, ↓reduceDIte, Option.map_some, Option.map_none, true_and, and_true, false_and, and_false, and_self, W_draw, condK_b, WIk_bt, WIk_bf, Bool.true_eq_false, Bool.false_eq_true, Bool.not_true, Bool.not_false, Bool.not_eq_true', Bool.not_eq_false', Bool.true_and, Bool.and_true, Bool.false_and, Bool.and_false, Bool.true_or, Bool.or_true, Bool.false_or, Bool.or_false, Bool.bne_true, Bool.bne_false, Bool.true_bne, Bool.false_bne, Bool.true_beq, Bool.false_beq, Bool.not_not, decide_true, decide_false, false_implies, true_implies, implies_true, forall_const, List.all_cons, List.all_nil, beq_self_eq_true, bne_self_eq_false, Nat.zero_le, Nat.le_refl, List.getElem?_cons_zero, List.getElem?_cons_succ, List.isEmpty_nil, List.isEmpty_cons, Int.cast_ofNat_Int]
  · cases h

/-- Add, of two and three. -/
def φAdd23 : List D → Option D
  | [.agg [.int .i64 2, .int .i64 a, .str [], .nils], .agg [.int .i64 2, .int .i64 b, .str [], .nils]] => some (.tup [if sumB a b then num (IntKind.i64.wrap (a + b)) else zeroV, .int .i64 (if sumB a b then 0 else 7)])
  | _ => none

theorem ok22a : OkAt Try.prog 22 φAdd23 := by
  refine ok_of (l := [(11, φformed1), (43, φkinds), (45, φsum), (44, φnumber)]) (.cons ok11a (.cons ok43 (.cons ok45 (.cons ok44 .nil)))) fn22 fun args r h => ?_
  unfold φAdd23 at h
  split at h
  · injection h with h; subst h
    rename_i a b
    refine ⟨by simp, by cases sumB a b <;> simp [D.cl, D.clL, num, zeroV], fun H T => ?_⟩
    cases hq : sumB a b <;> simp (config := { contextual := true, maxSteps := 10000000 }) only [c22, φformed1, φkinds, φsum, φnumber, plainB, num, zeroV, hq, go_sem, List.map_cons, List.map_nil, List.append_assoc, List.cons_append, List.nil_append, List.append_nil, List.length_append, List.length_cons, List.length_nil, List.take_zero, List.take_succ_cons, List.take_nil, List.drop_zero, List.drop_succ_cons, List.drop_nil, Nat.zero_add, Nat.add_zero, Nat.reduceAdd, Nat.reduceSub, Nat.reduceMul, Nat.reduceEqDiff, Nat.reduceLeDiff, Nat.reduceLT, Int.reduceToNat, Int.reduceLE, Int.reduceLT, Int.reduceEq, Int.reduceNe, Int.reduceBEq, Int.reduceBNe, Nat.reduceBEq, Nat.reduceBNe, ↓reduceIte, reduceCtorEq, ↓reduceDIte, Option.map_some, Option.map_none, true_and, and_true, false_and, and_false, and_self, W_draw, condK_b, WIk_bt, WIk_bf, Bool.true_eq_false, Bool.false_eq_true, Bool.not_true, Bool.not_false, Bool.not_eq_true', Bool.not_eq_false', Bool.true_and, Bool.and_true, Bool.false_and, Bool.and_false, Bool.true_or, Bool.or_true, Bool.false_or, Bool.or_false, Bool.bne_true, Bool.bne_false, Bool.true_bne, Bool.false_bne, Bool.true_beq, Bool.false_beq, Bool.not_not, decide_true, decide_false, false_implies, true_implies, implies_true, forall_const, List.all_cons, List.all_nil, beq_self_eq_true, bne_self_eq_false, Nat.zero_le, Nat.le_refl, List.getElem?_cons_zero, List.getElem?_cons_succ, List.isEmpty_nil, List.isEmpty_cons, Int.cast_ofNat_Int]
  · cases h

def φawake : List D → Option D
  | [] => some (.bool true)
  | _ => none

theorem ok9 : OkAt Try.prog 9 φawake := by
  refine ok_of (l := [(11, φformed1), (17, φNumber), (22, φAdd23)]) (.cons ok11a (.cons ok17 (.cons ok22a .nil))) fn9 fun args r h => ?_
  unfold φawake at h
  split at h
  · injection h with h; subst h
    refine ⟨by simp, by simp [D.cl, D.clL, num], fun H T => ?_⟩
    have hq : sumB 2 3 = true := by decide
    have hw : IntKind.i64.wrap (2 + 3) = 5 := by decide
    have hw' : IntKind.i64.wrap 5 = 5 := by decide
    simp (config := { contextual := true, maxSteps := 10000000 }) only [c9, φformed1, φNumber, φAdd23, plainB, num, zeroV, hq, hw, hw', Int.reduceAdd, go_sem, List.map_cons, List.map_nil, List.append_assoc, List.cons_append, List.nil_append, List.append_nil, List.length_append, List.length_cons, List.length_nil, List.take_zero, List.take_succ_cons, List.take_nil, List.drop_zero, List.drop_succ_cons, List.drop_nil, Nat.zero_add, Nat.add_zero, Nat.reduceAdd, Nat.reduceSub, Nat.reduceMul, Nat.reduceEqDiff, Nat.reduceLeDiff, Nat.reduceLT, Int.reduceToNat, Int.reduceLE, Int.reduceLT, Int.reduceEq, Int.reduceNe, Int.reduceBEq, Int.reduceBNe, Nat.reduceBEq, Nat.reduceBNe, ↓reduceIte, reduceCtorEq, ↓reduceDIte, Option.map_some, Option.map_none, true_and, and_true, false_and, and_false, and_self, W_draw, condK_b, WIk_bt, WIk_bf, Bool.true_eq_false, Bool.false_eq_true, Bool.not_true, Bool.not_false, Bool.not_eq_true', Bool.not_eq_false', Bool.true_and, Bool.and_true, Bool.false_and, Bool.and_false, Bool.true_or, Bool.or_true, Bool.false_or, Bool.or_false, Bool.bne_true, Bool.bne_false, Bool.true_bne, Bool.false_bne, Bool.true_beq, Bool.false_beq, Bool.not_not, decide_true, decide_false, false_implies, true_implies, implies_true, forall_const, List.all_cons, List.all_nil, beq_self_eq_true, bne_self_eq_false, Nat.zero_le, Nat.le_refl, List.getElem?_cons_zero, List.getElem?_cons_succ, List.isEmpty_nil, List.isEmpty_cons, Int.cast_ofNat_Int]
  · cases h
end GP
