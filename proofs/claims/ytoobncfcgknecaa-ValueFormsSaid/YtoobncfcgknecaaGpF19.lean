import Derived.Test.YtoobncfcgknecaaGpF18
set_option linter.unusedSimpArgs false
namespace GP
open Go Go.Proofs
set_option maxRecDepth 10000

/-- A number of 128 bits, going round. -/
def wd (x : Int) : D := .agg [.int .i64 (IntKind.i64.wrap (x / 2 ^ 64)), .int .u64 (IntKind.u64.wrap x)]
theorem u64_eq (a : Int) : IntKind.u64.wrap a = a % 2 ^ 64 := by simp [IntKind.wrap, IntKind.bits, IntKind.signed]
theorem i64_eq (a : Int) : IntKind.i64.wrap a = if a % 2 ^ 64 ≥ 2 ^ 63 then a % 2 ^ 64 - 2 ^ 64 else a % 2 ^ 64 := by simp [IntKind.wrap, IntKind.bits, IntKind.signed]

theorem i64_congr {x y : Int} (h : x % 2 ^ 64 = y % 2 ^ 64) : IntKind.i64.wrap x = IntKind.i64.wrap y := by rw [i64_eq, i64_eq, h]
theorem i64_mod (x : Int) : IntKind.i64.wrap x % 2 ^ 64 = x % 2 ^ 64 := by rw [i64_eq]; split <;> omega
def φOf : List D → Option D
  | [.int .i64 n] => if -(2 ^ 63) ≤ n ∧ n < 2 ^ 63 then some (wd n) else none
  | _ => none

theorem ok49 : OkAt Try.prog 49 φOf := by
  refine ok_of (l := []) .nil fn49 fun args r h => ?_
  unfold φOf at h
  split at h
  · split at h
    · rename_i n hn
      injection h with h; subst h
      refine ⟨by simp, by simp [D.cl, D.clL, wd], fun H T => ?_⟩
      simp (config := { contextual := true, maxSteps := 10000000 }) only [c49, wd, go_sem, List.map_cons, List.map_nil, List.append_assoc, List.cons_append, List.nil_append, List.append_nil, List.length_append, List.length_cons, List.length_nil, List.take_zero, List.take_succ_cons, List.take_nil, List.drop_zero, List.drop_succ_cons, List.drop_nil, Nat.zero_add, Nat.add_zero, Nat.reduceAdd, Nat.reduceSub, Nat.reduceMul, Nat.reduceEqDiff, Nat.reduceLeDiff, Nat.reduceLT, Int.reduceToNat, Int.reduceLE, Int.reduceLT, Int.reduceEq, Int.reduceNe, Int.reduceBEq, Int.reduceBNe, Nat.reduceBEq, Nat.reduceBNe, ↓reduceIte, reduceCtorEq, ↓reduceDIte, Option.map_some, Option.map_none, true_and, and_true, false_and, and_false, and_self, W_draw, condK_b, WIk_bt, WIk_bf, Bool.true_eq_false, Bool.false_eq_true, Bool.not_true, Bool.not_false, Bool.not_eq_true', Bool.not_eq_false', Bool.true_and, Bool.and_true, Bool.false_and, Bool.and_false, Bool.true_or, Bool.or_true, Bool.false_or, Bool.or_false, Bool.bne_true, Bool.bne_false, Bool.true_bne, Bool.false_bne, Bool.true_beq, Bool.false_beq, Bool.not_not, decide_true, decide_false, false_implies, true_implies, implies_true, forall_const, List.all_cons, List.all_nil, beq_self_eq_true, bne_self_eq_false, Nat.zero_le, Nat.le_refl, List.getElem?_cons_zero, List.getElem?_cons_succ, List.isEmpty_nil, List.isEmpty_cons, Int.cast_ofNat_Int, Int.toNat_zero]
      refine ⟨fun q => ?_, fun q => ?_⟩ <;> simp only [decide_eq_true_eq, decide_eq_false_iff_not] at q
      · have : IntKind.i64.wrap (n / 2 ^ 64) = -1 := by rw [i64_eq]; split <;> omega
        rw [this]
      · have : IntKind.i64.wrap (n / 2 ^ 64) = 0 := by rw [i64_eq]; split <;> omega
        rw [this]
    · cases h
  · cases h

def φPlus : List D → Option D
  | [.agg [.int .i64 a, .int .u64 b], .agg [.int .i64 c, .int .u64 d]] => if 0 ≤ b ∧ b < 2 ^ 64 ∧ 0 ≤ d ∧ d < 2 ^ 64 then some (wd (a * 2 ^ 64 + b + (c * 2 ^ 64 + d))) else none
  | _ => none

theorem ok51 : OkAt Try.prog 51 φPlus := by
  refine ok_of (l := []) .nil fn51 fun args r h => ?_
  unfold φPlus at h
  split at h
  · split at h
    · rename_i a b c d hb
      injection h with h; subst h
      refine ⟨by simp, by simp [D.cl, D.clL, wd], fun H T => ?_⟩
      have e1 : IntKind.u64.wrap (b + d) = IntKind.u64.wrap (a * 2 ^ 64 + b + (c * 2 ^ 64 + d)) := by rw [u64_eq, u64_eq]; omega
      simp (config := { contextual := true, maxSteps := 10000000 }) only [c51, wd, go_sem, List.map_cons, List.map_nil, List.append_assoc, List.cons_append, List.nil_append, List.append_nil, List.length_append, List.length_cons, List.length_nil, List.take_zero, List.take_succ_cons, List.take_nil, List.drop_zero, List.drop_succ_cons, List.drop_nil, Nat.zero_add, Nat.add_zero, Nat.reduceAdd, Nat.reduceSub, Nat.reduceMul, Nat.reduceEqDiff, Nat.reduceLeDiff, Nat.reduceLT, Int.reduceToNat, Int.reduceLE, Int.reduceLT, Int.reduceEq, Int.reduceNe, Int.reduceBEq, Int.reduceBNe, Nat.reduceBEq, Nat.reduceBNe, ↓reduceIte, reduceCtorEq, ↓reduceDIte, Option.map_some, Option.map_none, true_and, and_true, false_and, and_false, and_self, W_draw, condK_b, WIk_bt, WIk_bf, Bool.true_eq_false, Bool.false_eq_true, Bool.not_true, Bool.not_false, Bool.not_eq_true', Bool.not_eq_false', Bool.true_and, Bool.and_true, Bool.false_and, Bool.and_false, Bool.true_or, Bool.or_true, Bool.false_or, Bool.or_false, Bool.bne_true, Bool.bne_false, Bool.true_bne, Bool.false_bne, Bool.true_beq, Bool.false_beq, Bool.not_not, decide_true, decide_false, false_implies, true_implies, implies_true, forall_const, List.all_cons, List.all_nil, beq_self_eq_true, bne_self_eq_false, Nat.zero_le, Nat.le_refl, List.getElem?_cons_zero, List.getElem?_cons_succ, List.isEmpty_nil, List.isEmpty_cons, Int.cast_ofNat_Int, Int.toNat_zero]
      refine ⟨fun q => ?_, fun q => ?_⟩ <;> simp only [decide_eq_true_eq, decide_eq_false_iff_not] at q
      · rw [e1]
        congr 3
        refine i64_congr ?_
        have k := i64_mod (IntKind.u64.wrap (IntKind.u64.wrap a + IntKind.u64.wrap c))
        generalize IntKind.i64.wrap (IntKind.u64.wrap (IntKind.u64.wrap a + IntKind.u64.wrap c)) = z at *
        simp only [u64_eq] at *
        omega
      · rw [e1]
        congr 3
        refine i64_congr ?_
        simp only [u64_eq] at *
        omega
    · cases h
  · cases h

theorem lt_of_i64 (x : Int) : -(2 ^ 63) ≤ IntKind.i64.wrap x ∧ IntKind.i64.wrap x < 2 ^ 63 := by rw [i64_eq]; split <;> omega
theorem plus_wd (x y : Int) : φPlus [wd x, wd y] = some (wd (x + y)) := by
  have hx : 0 ≤ IntKind.u64.wrap x ∧ IntKind.u64.wrap x < 2 ^ 64 := by rw [u64_eq]; omega
  have hy : 0 ≤ IntKind.u64.wrap y ∧ IntKind.u64.wrap y < 2 ^ 64 := by rw [u64_eq]; omega
  have kx := i64_mod (x / 2 ^ 64)
  have ky := i64_mod (y / 2 ^ 64)
  simp only [wd, φPlus]
  rw [if_pos ⟨hx.1, hx.2, hy.1, hy.2⟩]
  simp only [wd, Option.some.injEq, D.agg.injEq, List.cons.injEq, D.int.injEq, true_and, and_true]
  generalize IntKind.i64.wrap (x / 2 ^ 64) = a at *
  generalize IntKind.i64.wrap (y / 2 ^ 64) = b at *
  simp only [u64_eq] at *
  refine ⟨i64_congr ?_, ?_⟩
  · omega
  · omega

def φMinus : List D → Option D
  | [.agg [.int .i64 a, .int .u64 b]] => if 0 ≤ b ∧ b < 2 ^ 64 then some (wd (-(a * 2 ^ 64 + b))) else none
  | _ => none

/-- The flipped bits. -/
theorem xor_ones (n : Int) (h0 : 0 ≤ n) (h1 : n < 2 ^ 64) : un1 .xor (.int .u64 n) = some (.int .u64 (2 ^ 64 - 1 - n)) := by
  have e1 : BitVec.ofInt 64 (2 ^ 64 - 1) = BitVec.allOnes 64 := by decide
  have e2 : (BitVec.ofInt 64 n).toNat = n.toNat := by
    rw [BitVec.toNat_ofInt]; omega
  have e3 : ((BitVec.ofInt 64 (2 ^ 64 - 1) ^^^ BitVec.ofInt 64 n).toNat : Int) = 2 ^ 64 - 1 - n := by
    rw [e1, BitVec.allOnes_xor, BitVec.toNat_not, e2]; omega
  have e4 : IntKind.u64.wrap ((BitVec.ofInt 64 (2 ^ 64 - 1) ^^^ BitVec.ofInt 64 n).toNat : Int) = 2 ^ 64 - 1 - n := by
    rw [e3]; simp only [IntKind.wrap, IntKind.bits, IntKind.signed, Bool.false_and, Bool.false_eq_true, if_false]; omega
  simp only [un1, intOp, IntKind.signed, IntKind.max, IntKind.bits, Bool.false_eq_true, if_false]
  first | (rw [← e4]; rfl) | (simp only [Option.some.injEq, D.int.injEq, true_and]; exact e4)

theorem wd_congr {x y : Int} (h : x % 2 ^ 128 = y % 2 ^ 128) : wd x = wd y := by
  simp only [wd, D.agg.injEq, List.cons.injEq, D.int.injEq, true_and, and_true]
  refine ⟨i64_congr ?_, ?_⟩
  · omega
  · simp only [u64_eq]; omega

theorem ok50 : OkAt Try.prog 50 φMinus := by
  refine ok_of (l := [(51, φPlus)]) (.cons ok51 .nil) fn50 fun args r h => ?_
  unfold φMinus at h
  split at h
  · split at h
    · rename_i a b hb
      injection h with h; subst h
      refine ⟨by simp, by simp [D.cl, D.clL, wd], fun H T => ?_⟩
      have ha : 0 ≤ IntKind.u64.wrap a ∧ IntKind.u64.wrap a < 2 ^ 64 := by rw [u64_eq]; omega
      have xa := xor_ones _ ha.1 ha.2
      have xb := xor_ones b hb.1 hb.2
      have p : φPlus [.agg [.int .i64 (IntKind.i64.wrap (2 ^ 64 - 1 - IntKind.u64.wrap a)), .int .u64 (2 ^ 64 - 1 - b)], .agg [.int .i64 0, .int .u64 1]] = some (wd (-(a * 2 ^ 64 + b))) := by
        simp only [φPlus]
        rw [if_pos (by omega)]
        congr 1
        refine wd_congr ?_
        have k := i64_mod (2 ^ 64 - 1 - IntKind.u64.wrap a)
        generalize IntKind.i64.wrap (2 ^ 64 - 1 - IntKind.u64.wrap a) = z at *
        simp only [u64_eq] at *
        omega
      have E : ∀ x, (wd x).erase = wd x := fun x => by simp [wd, D.erase, D.eraseL]
      have E2 : ∀ x, wd x = .agg [.int .i64 (IntKind.i64.wrap (x / 2 ^ 64)), .int .u64 (IntKind.u64.wrap x)] := fun _ => rfl
      generalize hz : 2 ^ 64 - 1 - IntKind.u64.wrap a = z1 at *
      generalize hz2 : 2 ^ 64 - 1 - b = z2 at *
      simp (config := { contextual := true, maxSteps := 10000000 }) only [c50, xa, xb, p, go_sem, List.map_cons, List.map_nil, List.append_assoc, List.cons_append, List.nil_append, List.append_nil, List.length_append, List.length_cons, List.length_nil, List.take_zero, List.take_succ_cons, List.take_nil, List.drop_zero, List.drop_succ_cons, List.drop_nil, Nat.zero_add, Nat.add_zero, Nat.reduceAdd, Nat.reduceSub, Nat.reduceMul, Nat.reduceEqDiff, Nat.reduceLeDiff, Nat.reduceLT, Int.reduceToNat, Int.reduceLE, Int.reduceLT, Int.reduceEq, Int.reduceNe, Int.reduceBEq, Int.reduceBNe, Nat.reduceBEq, Nat.reduceBNe, ↓reduceIte, reduceCtorEq, ↓reduceDIte, Option.map_some, Option.map_none, true_and, and_true, false_and, and_false, and_self, W_draw, condK_b, WIk_bt, WIk_bf, Bool.true_eq_false, Bool.false_eq_true, Bool.not_true, Bool.not_false, Bool.not_eq_true', Bool.not_eq_false', Bool.true_and, Bool.and_true, Bool.false_and, Bool.and_false, Bool.true_or, Bool.or_true, Bool.false_or, Bool.or_false, Bool.bne_true, Bool.bne_false, Bool.true_bne, Bool.false_bne, Bool.true_beq, Bool.false_beq, Bool.not_not, decide_true, decide_false, false_implies, true_implies, implies_true, forall_const, List.all_cons, List.all_nil, beq_self_eq_true, bne_self_eq_false, Nat.zero_le, Nat.le_refl, List.getElem?_cons_zero, List.getElem?_cons_succ, List.isEmpty_nil, List.isEmpty_cons, Int.cast_ofNat_Int, Int.toNat_zero]
      simp (config := { contextual := true, maxSteps := 10000000 }) only [E2, go_sem, List.map_cons, List.map_nil, List.append_assoc, List.cons_append, List.nil_append, List.append_nil, List.length_append, List.length_cons, List.length_nil, List.take_zero, List.take_succ_cons, List.take_nil, List.drop_zero, List.drop_succ_cons, List.drop_nil, Nat.zero_add, Nat.add_zero, Nat.reduceAdd, Nat.reduceSub, Nat.reduceMul, Nat.reduceEqDiff, Nat.reduceLeDiff, Nat.reduceLT, Int.reduceToNat, Int.reduceLE, Int.reduceLT, Int.reduceEq, Int.reduceNe, Int.reduceBEq, Int.reduceBNe, Nat.reduceBEq, Nat.reduceBNe, ↓reduceIte, reduceCtorEq, ↓reduceDIte, Option.map_some, Option.map_none, true_and, and_true, false_and, and_false, and_self, W_draw, condK_b, WIk_bt, WIk_bf, Bool.true_eq_false, Bool.false_eq_true, Bool.not_true, Bool.not_false, Bool.not_eq_true', Bool.not_eq_false', Bool.true_and, Bool.and_true, Bool.false_and, Bool.and_false, Bool.true_or, Bool.or_true, Bool.false_or, Bool.or_false, Bool.bne_true, Bool.bne_false, Bool.true_bne, Bool.false_bne, Bool.true_beq, Bool.false_beq, Bool.not_not, decide_true, decide_false, false_implies, true_implies, implies_true, forall_const, List.all_cons, List.all_nil, beq_self_eq_true, bne_self_eq_false, Nat.zero_le, Nat.le_refl, List.getElem?_cons_zero, List.getElem?_cons_succ, List.isEmpty_nil, List.isEmpty_cons, Int.cast_ofNat_Int, Int.toNat_zero]
    · cases h
  · cases h
theorem minus_wd (x : Int) : φMinus [wd x] = some (wd (-x)) := by
  have hx : 0 ≤ IntKind.u64.wrap x ∧ IntKind.u64.wrap x < 2 ^ 64 := by rw [u64_eq]; omega
  have kx := i64_mod (x / 2 ^ 64)
  simp only [wd, φMinus]
  rw [if_pos hx]
  congr 1
  refine wd_congr ?_
  generalize IntKind.i64.wrap (x / 2 ^ 64) = a at *
  simp only [u64_eq] at *
  omega

def φFits : List D → Option D
  | [.agg [.int .i64 a, .int .u64 b]] => some (.tup [.int .i64 (IntKind.i64.wrap b), .bool ((IntKind.i64.wrap (IntKind.i64.wrap b / 2 ^ 64) == a) && (IntKind.u64.wrap (IntKind.i64.wrap b) == b))])
  | _ => none
theorem ok27 : OkAt Try.prog 27 φFits := by
  refine ok_of (l := [(49, φOf)]) (.cons ok49 .nil) fn27 fun args r h => ?_
  unfold φFits at h
  split at h
  · rename_i a b
    injection h with h; subst h
    refine ⟨by simp, by simp [D.cl, D.clL, wd], fun H T => ?_⟩
    have p : φOf [.int .i64 (IntKind.i64.wrap b)] = some (wd (IntKind.i64.wrap b)) := by
      simp only [φOf]; rw [if_pos (lt_of_i64 b)]
    simp only [wd] at p
    simp (config := { contextual := true, maxSteps := 10000000 }) only [c27, p, go_sem, List.map_cons, List.map_nil, List.append_assoc, List.cons_append, List.nil_append, List.append_nil, List.length_append, List.length_cons, List.length_nil, List.take_zero, List.take_succ_cons, List.take_nil, List.drop_zero, List.drop_succ_cons, List.drop_nil, Nat.zero_add, Nat.add_zero, Nat.reduceAdd, Nat.reduceSub, Nat.reduceMul, Nat.reduceEqDiff, Nat.reduceLeDiff, Nat.reduceLT, Int.reduceToNat, Int.reduceLE, Int.reduceLT, Int.reduceEq, Int.reduceNe, Int.reduceBEq, Int.reduceBNe, Nat.reduceBEq, Nat.reduceBNe, ↓reduceIte, reduceCtorEq, ↓reduceDIte, Option.map_some, Option.map_none, true_and, and_true, false_and, and_false, and_self, W_draw, condK_b, WIk_bt, WIk_bf, Bool.true_eq_false, Bool.false_eq_true, Bool.not_true, Bool.not_false, Bool.not_eq_true', Bool.not_eq_false', Bool.true_and, Bool.and_true, Bool.false_and, Bool.and_false, Bool.true_or, Bool.or_true, Bool.false_or, Bool.or_false, Bool.bne_true, Bool.bne_false, Bool.true_bne, Bool.false_bne, Bool.true_beq, Bool.false_beq, Bool.not_not, decide_true, decide_false, false_implies, true_implies, implies_true, forall_const, List.all_cons, List.all_nil, beq_self_eq_true, bne_self_eq_false, Nat.zero_le, Nat.le_refl, List.getElem?_cons_zero, List.getElem?_cons_succ, List.isEmpty_nil, List.isEmpty_cons, Int.cast_ofNat_Int, Int.toNat_zero]
  · cases h
theorem fits_wd (x : Int) (h : -(2 ^ 127) ≤ x) (h' : x < 2 ^ 127) : φFits [wd x] = some (.tup [.int .i64 (IntKind.i64.wrap x), .bool (decide (-(2 ^ 63) ≤ x ∧ x < 2 ^ 63))]) := by
  have e : IntKind.i64.wrap (IntKind.u64.wrap x) = IntKind.i64.wrap x := i64_congr (by rw [u64_eq]; omega)
  simp only [wd, φFits, e, Option.some.injEq, D.tup.injEq, List.cons.injEq, D.bool.injEq, true_and, and_true]
  have hx := lt_of_i64 x
  have hxm := i64_mod x
  have k1 : IntKind.i64.wrap (x / 2 ^ 64) = x / 2 ^ 64 := wrap_of _ (by omega) (by omega)
  rw [k1]
  generalize IntKind.i64.wrap x = n at *
  have k2 : IntKind.i64.wrap (n / 2 ^ 64) = n / 2 ^ 64 := wrap_of _ (by omega) (by omega)
  rw [k2]
  simp only [u64_eq] at *
  rw [Bool.eq_iff_iff]
  simp only [Bool.and_eq_true, beq_iff_eq, decide_eq_true_eq]
  constructor
  · intro hh; omega
  · intro hh; omega

def lessB (a b : Int) : Bool := (decide (a < 0) == decide (b < 0)) || (decide (IntKind.i64.wrap (a - b) < 0) == decide (a < 0))
def φless : List D → Option D
  | [.int .i64 a, .int .i64 b] => some (.tup [.int .i64 (IntKind.i64.wrap (a - b)), .bool (lessB a b)])
  | _ => none
theorem ok47 : OkAt Try.prog 47 φless := by
  refine ok_of (l := []) .nil fn47 fun args r h => ?_
  unfold φless at h
  split at h
  · injection h with h; subst h
    refine ⟨by simp, by simp [D.cl, D.clL, num], fun H T => ?_⟩
    simp (config := { contextual := true, maxSteps := 10000000 }) only [c47, lessB, go_sem, List.map_cons, List.map_nil, List.append_assoc, List.cons_append, List.nil_append, List.append_nil, List.length_append, List.length_cons, List.length_nil, List.take_zero, List.take_succ_cons, List.take_nil, List.drop_zero, List.drop_succ_cons, List.drop_nil, Nat.zero_add, Nat.add_zero, Nat.reduceAdd, Nat.reduceSub, Nat.reduceMul, Nat.reduceEqDiff, Nat.reduceLeDiff, Nat.reduceLT, Int.reduceToNat, Int.reduceLE, Int.reduceLT, Int.reduceEq, Int.reduceNe, Int.reduceBEq, Int.reduceBNe, Nat.reduceBEq, Nat.reduceBNe, ↓reduceIte, reduceCtorEq, ↓reduceDIte, Option.map_some, Option.map_none, true_and, and_true, false_and, and_false, and_self, W_draw, condK_b, WIk_bt, WIk_bf, Bool.true_eq_false, Bool.false_eq_true, Bool.not_true, Bool.not_false, Bool.not_eq_true', Bool.not_eq_false', Bool.true_and, Bool.and_true, Bool.false_and, Bool.and_false, Bool.true_or, Bool.or_true, Bool.false_or, Bool.or_false, Bool.bne_true, Bool.bne_false, Bool.true_bne, Bool.false_bne, Bool.true_beq, Bool.false_beq, Bool.not_not, decide_true, decide_false, false_implies, true_implies, implies_true, forall_const, List.all_cons, List.all_nil, beq_self_eq_true, bne_self_eq_false, Nat.zero_le, Nat.le_refl, List.getElem?_cons_zero, List.getElem?_cons_succ, List.isEmpty_nil, List.isEmpty_cons, Int.cast_ofNat_Int, Int.toNat_zero]
  · cases h
def inI (a : Int) : Prop := -(2 ^ 63) ≤ a ∧ a < 2 ^ 63
theorem sum_ok {a b : Int} (ha : inI a) (hb : inI b) : sumB a b = decide (-(2 ^ 63) ≤ a + b ∧ a + b < 2 ^ 63) := by
  unfold inI at ha hb
  unfold sumB
  have : IntKind.i64.wrap (a + b) = if (a + b) % 2 ^ 64 ≥ 2 ^ 63 then (a + b) % 2 ^ 64 - 2 ^ 64 else (a + b) % 2 ^ 64 := i64_eq _
  rw [this]
  rw [Bool.eq_iff_iff]
  simp only [Bool.or_eq_true, Bool.not_eq_true', beq_eq_false_iff_ne, ne_eq, beq_iff_eq, decide_eq_true_eq, decide_eq_decide]
  split <;> omega
theorem less_ok {a b : Int} (ha : inI a) (hb : inI b) : lessB a b = decide (-(2 ^ 63) ≤ a - b ∧ a - b < 2 ^ 63) := by
  unfold inI at ha hb
  unfold lessB
  have : IntKind.i64.wrap (a - b) = if (a - b) % 2 ^ 64 ≥ 2 ^ 63 then (a - b) % 2 ^ 64 - 2 ^ 64 else (a - b) % 2 ^ 64 := i64_eq _
  rw [this]
  rw [Bool.eq_iff_iff]
  simp only [Bool.or_eq_true, beq_iff_eq, decide_eq_true_eq, decide_eq_decide]
  split <;> omega
end GP
