import Derived.Test.YtoobncfcgknecaaGpF24
import Derived.Lib.Mul64
set_option linter.unusedSimpArgs false
namespace GP
open Go Go.Proofs
set_option maxRecDepth 100000

theorem and32 (x : Int) (h0 : 0 ≤ x) (h1 : x < 2 ^ 64) : bin2 .and (.int .u64 x) (.int .u64 4294967295) = some (.int .u64 (x % 4294967296)) := by
  have e1 : BitVec.ofInt 64 4294967295 = 4294967295#64 := by decide
  have e2 : (BitVec.ofInt 64 x).toNat = x.toNat := by rw [BitVec.toNat_ofInt]; omega
  have e3 : (BitVec.ofInt 64 x &&& BitVec.ofInt 64 4294967295).toNat = x.toNat % 4294967296 := by
    rw [BitVec.toNat_and, e2, e1]
    exact Nat.and_two_pow_sub_one_eq_mod x.toNat 32
  have e4 : IntKind.u64.wrap ((BitVec.ofInt 64 x &&& BitVec.ofInt 64 4294967295).toNat : Int) = x % 4294967296 := by rw [e3, u64_eq]; omega
  exact congrArg (fun z => some (D.int .u64 z)) e4
theorem shr32 (x : Int) : bin2 .shr (.int .u64 x) (.int .u64 32) = some (.int .u64 (x / 4294967296)) := by
  simp only [bin2, isShift, if_true, shOp, IntKind.bits]
  rw [if_neg (by omega)]
  simp only [Option.some.injEq, D.int.injEq, true_and]
  rw [show (2 : Int) ^ min (Int.toNat 32) 64 = 4294967296 by decide]
  rw [Int.fdiv_eq_ediv_of_nonneg _ (by omega)]
theorem and32w (x : Int) : bin2 .and (.int .u64 (IntKind.u64.wrap x)) (.int .u64 4294967295) = some (.int .u64 (IntKind.u64.wrap x % 4294967296)) := by
  have := u64_eq x
  exact and32 _ (by omega) (by omega)

def φMul64 : List D → Option D
  | [.int .u64 x, .int .u64 y] => if (0 ≤ x ∧ x < 2 ^ 64) ∧ (0 ≤ y ∧ y < 2 ^ 64) then some (.tup [.int .u64 (x * y / 2 ^ 64), .int .u64 (x * y % 2 ^ 64)]) else none
  | _ => none
theorem wrapN (a : Nat) (ha : a < 18446744073709551616) : IntKind.u64.wrap (a : Int) = (a : Int) := by rw [u64_eq]; omega

theorem ok62 : OkAt Try.prog 62 φMul64 := by
  refine ok_of (l := []) .nil fn62 fun args r h => ?_
  unfold φMul64 at h
  split at h
  · split at h
    · rename_i x y hxy
      injection h with h; subst h
      refine ⟨by simp, by simp [D.cl, D.clL], fun H T => ?_⟩
      obtain ⟨⟨x0, x1⟩, ⟨y0, y1⟩⟩ := hxy
      obtain ⟨m, rfl⟩ := Int.eq_ofNat_of_zero_le x0
      obtain ⟨n, rfl⟩ := Int.eq_ofNat_of_zero_le y0
      have hm : m < 18446744073709551616 := by omega
      have hn : n < 18446744073709551616 := by omega
      obtain ⟨bd, bt, bw, hhi⟩ := Lib.mul64_hi m n hm hn
      have a1 := and32 m x0 x1
      have a2 := and32 n y0 y1
      have M1 : (m : Int) % 4294967296 = ((m % 4294967296 : Nat) : Int) := by omega
      have M2 : (m : Int) / 4294967296 = ((m / 4294967296 : Nat) : Int) := by omega
      have N1 : (n : Int) % 4294967296 = ((n % 4294967296 : Nat) : Int) := by omega
      have N2 : (n : Int) / 4294967296 = ((n / 4294967296 : Nat) : Int) := by omega
      have hmn : (m : Int) * n = ((m * n : Nat) : Int) := by simp
      have hP : (m : Int) * n / 2 ^ 64 = ((m * n / 18446744073709551616 : Nat) : Int) := by rw [hmn]; omega
      have hQ : (m : Int) * n % 2 ^ 64 = ((m * n % 18446744073709551616 : Nat) : Int) := by rw [hmn]; omega
      rw [hP, hQ, ← hhi]
      have hL : IntKind.u64.wrap ((m : Int) * n) = ((m * n % 18446744073709551616 : Nat) : Int) := by rw [u64_eq, hmn]; omega
      generalize m * n % 18446744073709551616 = lo at *
      have ba := Lib.half_mul_le (a := m / 4294967296) (b := n / 4294967296) (by omega) (by omega)
      have bb := Lib.half_mul_le (a := m / 4294967296) (b := n % 4294967296) (by omega) (by omega)
      have bc := Lib.half_mul_le (a := m % 4294967296) (b := n / 4294967296) (by omega) (by omega)
      simp (config := { contextual := true, maxSteps := 10000000 }) only [c62, a1, a2, shr32, and32w, M1, M2, N1, N2, hL, go_sem, List.map_cons, List.map_nil, List.append_assoc, List.cons_append, List.nil_append, List.append_nil, List.length_append, List.length_cons, List.length_nil, List.take_zero, List.take_succ_cons, List.take_nil, List.drop_zero, List.drop_succ_cons, List.drop_nil, Nat.zero_add, Nat.add_zero, Nat.reduceAdd, Nat.reduceSub, Nat.reduceMul, Nat.reduceEqDiff, Nat.reduceLeDiff, Nat.reduceLT, Int.reduceToNat, Int.reduceLE, Int.reduceLT, Int.reduceEq, Int.reduceNe, Int.reduceBEq, Int.reduceBNe, Nat.reduceBEq, Nat.reduceBNe, ↓reduceIte, reduceCtorEq, ↓reduceDIte, Option.map_some, Option.map_none, true_and, and_true, false_and, and_false, and_self, W_draw, condK_b, WIk_bt, WIk_bf, Bool.true_eq_false, Bool.false_eq_true, Bool.not_true, Bool.not_false, Bool.not_eq_true', Bool.not_eq_false', Bool.true_and, Bool.and_true, Bool.false_and, Bool.and_false, Bool.true_or, Bool.or_true, Bool.false_or, Bool.or_false, Bool.bne_true, Bool.bne_false, Bool.true_bne, Bool.false_bne, Bool.true_beq, Bool.false_beq, Bool.not_not, decide_true, decide_false, false_implies, true_implies, implies_true, forall_const, List.all_cons, List.all_nil, beq_self_eq_true, bne_self_eq_false, Nat.zero_le, Nat.le_refl, List.getElem?_cons_zero, List.getElem?_cons_succ, List.isEmpty_nil, List.isEmpty_cons, Int.cast_ofNat_Int, Int.toNat_zero]
      simp only [D.tup.injEq, List.cons.injEq, D.int.injEq, true_and, and_true]
      simp only [← Int.natCast_mul]
      generalize m % 4294967296 * (n % 4294967296) = A at *
      generalize m / 4294967296 * (n % 4294967296) = B at *
      generalize m % 4294967296 * (n / 4294967296) = C at *
      generalize m / 4294967296 * (n / 4294967296) = E at *
      simp only [u64_eq]
      omega
    · cases h
  · cases h

def φproduct : List D → Option D
  | [.int .i64 a, .int .i64 b] => if (-(2 ^ 63) ≤ a ∧ a < 2 ^ 63) ∧ (-(2 ^ 63) ≤ b ∧ b < 2 ^ 63) then some (.tup [.int .i64 (IntKind.i64.wrap (a * b)), .bool (decide (-(2 ^ 63) ≤ a * b) && decide (a * b < 2 ^ 63))]) else none
  | _ => none

theorem absI_mul (a b : Int) : absI a * absI b = absI (a * b) := by
  unfold absI
  split <;> split <;> split
  all_goals rename_i h1 h2 h3
  all_goals first
    | (rw [Int.neg_mul_neg]; done)
    | skip
  · exact absurd h3 (by have := Int.mul_pos_of_neg_of_neg h1 h2; omega)
  · rw [Int.neg_mul]
  · have := Int.mul_nonpos_of_nonpos_of_nonneg (by omega : a ≤ 0) (by omega : 0 ≤ b)
    have : a * b = 0 := by omega
    rw [Int.neg_mul, this]; rfl
  · rw [Int.mul_neg]
  · have := Int.mul_nonpos_of_nonneg_of_nonpos (by omega : 0 ≤ a) (by omega : b ≤ 0)
    have : a * b = 0 := by omega
    rw [Int.mul_neg, this]; rfl
  · exact absurd h3 (by have := Int.mul_nonneg (by omega : 0 ≤ a) (by omega : 0 ≤ b); omega)
  · rfl

theorem ok48 : OkAt Try.prog 48 φproduct := by
  refine ok_of (l := [(63, φsize), (62, φMul64)]) (.cons ok63 (.cons ok62 .nil)) fn48 fun args r h => ?_
  unfold φproduct at h
  split at h
  · split at h
    · rename_i a b hab
      injection h with h; subst h
      refine ⟨by simp, by simp [D.cl, D.clL], fun H T => ?_⟩
      obtain ⟨ha, hb⟩ := hab
      have pa : φsize [.int .i64 a] = some (.int .u64 (absI a)) := by simp only [φsize]; rw [if_pos ha]
      have pb : φsize [.int .i64 b] = some (.int .u64 (absI b)) := by simp only [φsize]; rw [if_pos hb]
      have A0 : 0 ≤ absI a ∧ absI a ≤ 2 ^ 63 := by unfold absI; split <;> omega
      have B0 : 0 ≤ absI b ∧ absI b ≤ 2 ^ 63 := by unfold absI; split <;> omega
      have pm : φMul64 [.int .u64 (absI a), .int .u64 (absI b)] = some (.tup [.int .u64 (absI (a * b) / 2 ^ 64), .int .u64 (absI (a * b) % 2 ^ 64)]) := by
        simp only [φMul64]; rw [if_pos (by omega), absI_mul]
      have sg : (decide (a < 0) == decide (b < 0)) = false → a * b ≤ 0 := by
        intro h
        by_cases h1 : a < 0
        · have h2 : ¬ b < 0 := by intro h2; simp [h1, h2] at h
          exact Int.mul_nonpos_of_nonpos_of_nonneg (by omega) (by omega)
        · have h2 : b < 0 := by
            rcases Int.lt_or_le b 0 with h2 | h2
            · exact h2
            · have : ¬ b < 0 := by omega
              simp [h1, this] at h
          exact Int.mul_nonpos_of_nonneg_of_nonpos (by omega) (by omega)
      have sg' : (decide (a < 0) == decide (b < 0)) = true → 0 ≤ a * b := by
        intro h
        by_cases h1 : a < 0
        · have h2 : b < 0 := by
            rcases Int.lt_or_le b 0 with h2 | h2
            · exact h2
            · have : ¬ b < 0 := by omega
              simp [h1, this] at h
          exact Int.le_of_lt (Int.mul_pos_of_neg_of_neg h1 h2)
        · have h2 : ¬ b < 0 := by intro h2; simp [h1, h2] at h
          exact Int.mul_nonneg (by omega) (by omega)
      generalize a * b = p at *
      have ab1 : p ≤ 0 → absI p = -p := fun h => by unfold absI; split <;> omega
      have ab2 : 0 ≤ p → absI p = p := fun h => by unfold absI; split <;> omega
      simp (config := { contextual := true, maxSteps := 10000000 }) only [c48, pa, pb, pm, go_sem, List.map_cons, List.map_nil, List.append_assoc, List.cons_append, List.nil_append, List.append_nil, List.length_append, List.length_cons, List.length_nil, List.take_zero, List.take_succ_cons, List.take_nil, List.drop_zero, List.drop_succ_cons, List.drop_nil, Nat.zero_add, Nat.add_zero, Nat.reduceAdd, Nat.reduceSub, Nat.reduceMul, Nat.reduceEqDiff, Nat.reduceLeDiff, Nat.reduceLT, Int.reduceToNat, Int.reduceLE, Int.reduceLT, Int.reduceEq, Int.reduceNe, Int.reduceBEq, Int.reduceBNe, Nat.reduceBEq, Nat.reduceBNe, ↓reduceIte, reduceCtorEq, ↓reduceDIte, Option.map_some, Option.map_none, true_and, and_true, false_and, and_false, and_self, W_draw, condK_b, WIk_bt, WIk_bf, Bool.true_eq_false, Bool.false_eq_true, Bool.not_true, Bool.not_false, Bool.not_eq_true', Bool.not_eq_false', Bool.true_and, Bool.and_true, Bool.false_and, Bool.and_false, Bool.true_or, Bool.or_true, Bool.false_or, Bool.or_false, Bool.bne_true, Bool.bne_false, Bool.true_bne, Bool.false_bne, Bool.true_beq, Bool.false_beq, Bool.not_not, decide_true, decide_false, false_implies, true_implies, implies_true, forall_const, List.all_cons, List.all_nil, beq_self_eq_true, bne_self_eq_false, Nat.zero_le, Nat.le_refl, List.getElem?_cons_zero, List.getElem?_cons_succ, List.isEmpty_nil, List.isEmpty_cons, Int.cast_ofNat_Int, Int.toNat_zero]
      generalize (decide (a < 0) == decide (b < 0)) = sgn at *
      clear pa pb pm A0 B0 ha hb
      generalize absI p = ap at *
      refine ⟨fun q => ⟨fun q2 => ?_, fun q2 => ?_⟩, fun q => ⟨fun q2 => ?_, fun q2 => ?_⟩⟩
      all_goals
        simp only [D.tup.injEq, List.cons.injEq, D.int.injEq, D.bool.injEq, true_and, and_true]
        subst q
        first | (have sg := sg rfl; have ab := ab1 sg) | (have sg := sg' rfl; have ab := ab2 sg)
        first | simp only [beq_iff_eq] at q2 | simp only [beq_eq_false_iff_ne, ne_eq] at q2
        clear ab1 ab2
        refine ⟨i64_congr ?_, ?_⟩
        · have := i64_mod (ap % 2 ^ 64)
          generalize IntKind.i64.wrap (ap % 2 ^ 64) = z at *
          omega
        · rw [Bool.eq_iff_iff]
          simp only [decide_eq_true_eq, Bool.and_eq_true, Bool.false_eq_true, false_iff]
          omega
    · cases h
  · cases h
end GP
