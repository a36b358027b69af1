import Derived.Test.YtnipbngimicldaaGpbV5
import Derived.Lib.Mul64
set_option linter.unusedSimpArgs false
namespace GP
open Go Go.Proofs
set_option maxRecDepth 100000

/-- Two elements that are the same, with nothing in them. -/
def sameEl (x y : D) : Bool := (vk x == vk y) && (vi x == vi y) && (vs x == vs y) && !decide ((0 : Int) < (vl x).length) && !decide ((0 : Int) < (vl y).length)

def okSame (xs ys : List D) (i : Nat) : Bool := match xs[i]?, ys[i]? with
  | some x, some y => sameEl x y
  | _, _ => true

/-- Two values, whatever they are. -/
def sameB (a b : D) : Bool := if (vk a != vk b) || (vi a != vi b) || (vs a != vs b) || !((vl a).length == (vl b).length) then false else (List.range (vl a).length).all (okSame (vl a) (vl b))

def φSame : List D → Option D
  | [a, b] => if a.isV = true ∧ b.isV = true then some (.bool (sameB a b)) else none
  | _ => none

theorem bne_len (a b : Nat) : ((a : Int) != (b : Int)) = !(a == b) := by
  rw [Bool.eq_iff_iff]; simp; omega

set_option maxHeartbeats 2000000 in
theorem ok21 : OkAt Try.prog 21 φSame := by
  refine ok_of (l := []) .nil fn21 fun args r h => ?_
  unfold φSame at h
  split at h
  · split at h
    · rename_i a b hab
      injection h with h; subst h
      refine ⟨by simp, by simp [D.cl], fun H T => ?_⟩
      obtain ⟨ha, hb⟩ := hab
      obtain ⟨k1, i1, s1, n1, xs, rfl, z1, y1, hV1⟩ := isV_elim ha
      obtain ⟨k2, i2, s2, n2, ys, rfl, z2, y2, hV2⟩ := isV_elim hb
      have hS : sameB (mkV k1 i1 s1 n1 xs) (mkV k2 i2 s2 n2 ys) = if (k1 != k2) || (i1 != i2) || (s1 != s2) || !(xs.length == ys.length) then false else (List.range xs.length).all (okSame xs ys) := by simp only [sameB, vk_mk, vi_mk, vs_mk, vl_mk]
      rw [hS]
      have bl := bne_len xs.length ys.length
      simp (config := { contextual := true, maxSteps := 10000000 }) only [c21, mkV, bl, go_sem, Nat.reduceAdd, Nat.reduceSub, Nat.reduceMul, Nat.reduceEqDiff, Nat.reduceLeDiff, Nat.reduceLT, Int.reduceToNat, Int.reduceLE, Int.reduceLT, Int.reduceEq, Int.reduceNe, Int.reduceBEq, Int.reduceBNe, Nat.reduceBEq, Nat.reduceBNe, ↓reduceIte, reduceCtorEq, ↓reduceDIte, W_draw]
      intro q1 q2 q3 q4
      have hl : xs.length = ys.length := by simpa using q4
      refine W_for (fun j s' => s'.t 2 = .ptr H.length 0 ∧ s'.t 3 = .ptr (H.length + 1) 0 ∧ s'.t 5 = .int .i64 j ∧ Ext (H ++ [.row [.int .i64 k1, .int .i64 i1, .str s1, sliceD n1 xs], .row [.int .i64 k2, .int .i64 i2, .str s2, sliceD n2 ys]]) s'.H ∧ s'.T = T ∧ j ≤ xs.length ∧ (List.range j).all (okSame xs ys) = true) xs.length ⟨0, by simp [upd, argT, ext_self]⟩ (fun i s h => h.2.2.2.2.2.1) ?_ (XL_mono _)
      rintro j ⟨t, B, T'⟩ ⟨h2, h3, h5, hE, rfl, hj, hc⟩
      simp only at h2 h3 h5 hE
      have b1 := hE.get (o := H.length) (by simp; rfl)
      have b2 := hE.get (o := H.length + 1) (by simp; rfl)
      by_cases ha : j < xs.length
      · have d1 : decide ((j : Int) < xs.length) = true := by simpa using ha
        obtain ⟨k3, i3, s3, n3, l3, e3, hs3, hx3, hV3, eL3⟩ := get_isV hV1 ha
        obtain ⟨k4, i4, s4, n4, l4, e4, hs4, hx4, hV4, eL4⟩ := get_isV hV2 (show j < ys.length by omega)
        have G : okSame xs ys j = ((k3 == k4) && (i3 == i4) && (s3 == s4) && !decide ((0 : Int) < l3.length) && !decide ((0 : Int) < l4.length)) := by
          simp only [okSame, e3, e4, sameEl, vk_mk, vi_mk, vs_mk, vl_mk]
        have bad : okSame xs ys j = false → (List.range xs.length).all (okSame xs ys) = false := fun h => range_false_of h ha
        simp (config := { contextual := true, maxSteps := 10000000 }) only [h2, h3, h5, d1, e3, e4, mkV, wrap_succ j (by omega), rdAt_E b1, rdAt_E b2, rdAt_Ea b1, rdAt_Ea b2, hE.ta, leaves_Ea hE.pre (ExtT.refl _), go_sem, Nat.reduceAdd, Nat.reduceSub, Nat.reduceMul, Nat.reduceEqDiff, Nat.reduceLeDiff, Nat.reduceLT, Int.reduceToNat, Int.reduceLE, Int.reduceLT, Int.reduceEq, Int.reduceNe, Int.reduceBEq, Int.reduceBNe, Nat.reduceBEq, Nat.reduceBNe, ↓reduceIte, reduceCtorEq, ↓reduceDIte, W_draw]
        simp only [List.all_append, hc, List.all_cons, List.all_nil, Bool.true_and, Bool.and_true, D.bool.injEq]
        rw [G] at bad ⊢
        clear G
        repeat' (first | apply And.intro | intro _)
        all_goals first | omega | grind
      · have d1 : decide ((j : Int) < xs.length) = false := by simpa using ha
        have hA : (List.range xs.length).all (okSame xs ys) = true := by
          have : j = xs.length := by omega
          subst this; exact hc
        simp (config := { contextual := true, maxSteps := 10000000 }) only [h2, h3, h5, d1, mkV, hA, rdAt_E b1, rdAt_E b2, leaves_E hE.pre (ExtT.refl _), go_sem, Nat.reduceAdd, Nat.reduceSub, Nat.reduceMul, Nat.reduceEqDiff, Nat.reduceLeDiff, Nat.reduceLT, Int.reduceToNat, Int.reduceLE, Int.reduceLT, Int.reduceEq, Int.reduceNe, Int.reduceBEq, Int.reduceBNe, Nat.reduceBEq, Nat.reduceBNe, ↓reduceIte, reduceCtorEq, ↓reduceDIte, W_draw]
    · cases h
  · cases h

theorem and32 (x : Int) (h0 : 0 ≤ x) (h1 : x < 2 ^ 64) : bin2 .and (.int .u64 x) (.int .u64 4294967295) = some (.int .u64 (x % 4294967296)) := by
  have e1 : BitVec.ofInt 64 4294967295 = 4294967295#64 := by decide
  have e2 : (BitVec.ofInt 64 x).toNat = x.toNat := by rw [BitVec.toNat_ofInt]; omega
  have e3 : (BitVec.ofInt 64 x &&& BitVec.ofInt 64 4294967295).toNat = x.toNat % 4294967296 := by
    rw [BitVec.toNat_and, e2, e1]
    exact Nat.and_two_pow_sub_one_eq_mod x.toNat 32
  have e4 : IntKind.u64.wrap ((BitVec.ofInt 64 x &&& BitVec.ofInt 64 4294967295).toNat : Int) = x % 4294967296 := by rw [e3, u64_eq]; omega
  exact congrArg (fun z => some (D.int .u64 z)) e4

theorem shr32 (x : Int) : bin2 .shr (.int .u64 x) (.int .u64 32) = some (.int .u64 (x / 4294967296)) := by
  simp only [bin2, isShift, if_true, shOp, IntKind.bits]
  rw [if_neg (by omega)]
  simp only [Option.some.injEq, D.int.injEq, true_and]
  rw [show (2 : Int) ^ min (Int.toNat 32) 64 = 4294967296 by decide]
  rw [Int.fdiv_eq_ediv_of_nonneg _ (by omega)]

theorem and32w (x : Int) : bin2 .and (.int .u64 (IntKind.u64.wrap x)) (.int .u64 4294967295) = some (.int .u64 (IntKind.u64.wrap x % 4294967296)) := by
  have := u64_eq x
  exact and32 _ (by omega) (by omega)

def φMul64 : List D → Option D
  | [.int .u64 x, .int .u64 y] => if (0 ≤ x ∧ x < 2 ^ 64) ∧ (0 ≤ y ∧ y < 2 ^ 64) then some (.tup [.int .u64 (x * y / 2 ^ 64), .int .u64 (x * y % 2 ^ 64)]) else none
  | _ => none

theorem wrapN (a : Nat) (ha : a < 18446744073709551616) : IntKind.u64.wrap (a : Int) = (a : Int) := by rw [u64_eq]; omega

theorem ok102 : OkAt Try.prog 102 φMul64 := by
  refine ok_of (l := []) .nil fn102 fun args r h => ?_
  unfold φMul64 at h
  split at h
  · split at h
    · rename_i x y hxy
      injection h with h; subst h
      refine ⟨by simp, by simp [D.cl, D.clL], fun H T => ?_⟩
      obtain ⟨⟨x0, x1⟩, ⟨y0, y1⟩⟩ := hxy
      obtain ⟨m, rfl⟩ := Int.eq_ofNat_of_zero_le x0
      obtain ⟨n, rfl⟩ := Int.eq_ofNat_of_zero_le y0
      have hm : m < 18446744073709551616 := by omega
      have hn : n < 18446744073709551616 := by omega
      obtain ⟨bd, bt, bw, hhi⟩ := Lib.mul64_hi m n hm hn
      have a1 := and32 m x0 x1
      have a2 := and32 n y0 y1
      have M1 : (m : Int) % 4294967296 = ((m % 4294967296 : Nat) : Int) := by omega
      have M2 : (m : Int) / 4294967296 = ((m / 4294967296 : Nat) : Int) := by omega
      have N1 : (n : Int) % 4294967296 = ((n % 4294967296 : Nat) : Int) := by omega
      have N2 : (n : Int) / 4294967296 = ((n / 4294967296 : Nat) : Int) := by omega
      have hmn : (m : Int) * n = ((m * n : Nat) : Int) := by simp
      have hP : (m : Int) * n / 2 ^ 64 = ((m * n / 18446744073709551616 : Nat) : Int) := by rw [hmn]; omega
      have hQ : (m : Int) * n % 2 ^ 64 = ((m * n % 18446744073709551616 : Nat) : Int) := by rw [hmn]; omega
      rw [hP, hQ, ← hhi]
      have hL : IntKind.u64.wrap ((m : Int) * n) = ((m * n % 18446744073709551616 : Nat) : Int) := by rw [u64_eq, hmn]; omega
      generalize m * n % 18446744073709551616 = lo at *
      have ba := Lib.half_mul_le (a := m / 4294967296) (b := n / 4294967296) (by omega) (by omega)
      have bb := Lib.half_mul_le (a := m / 4294967296) (b := n % 4294967296) (by omega) (by omega)
      have bc := Lib.half_mul_le (a := m % 4294967296) (b := n / 4294967296) (by omega) (by omega)
      simp (config := { contextual := true, maxSteps := 10000000 }) only [c102, a1, a2, shr32, and32w, M1, M2, N1, N2, hL, go_sem, Nat.reduceAdd, Nat.reduceSub, Nat.reduceMul, Nat.reduceEqDiff, Nat.reduceLeDiff, Nat.reduceLT, Int.reduceToNat, Int.reduceLE, Int.reduceLT, Int.reduceEq, Int.reduceNe, Int.reduceBEq, Int.reduceBNe, Nat.reduceBEq, Nat.reduceBNe, ↓reduceIte, reduceCtorEq, ↓reduceDIte, W_draw]
      simp only [D.tup.injEq, List.cons.injEq, D.int.injEq, true_and, and_true]
      simp only [← Int.natCast_mul]
      generalize m % 4294967296 * (n % 4294967296) = A at *
      generalize m / 4294967296 * (n % 4294967296) = B at *
      generalize m % 4294967296 * (n / 4294967296) = C at *
      generalize m / 4294967296 * (n / 4294967296) = E at *
      simp only [u64_eq]
      omega
    · cases h
  · cases h

def φproduct : List D → Option D
  | [.int .i64 a, .int .i64 b] => if (-(2 ^ 63) ≤ a ∧ a < 2 ^ 63) ∧ (-(2 ^ 63) ≤ b ∧ b < 2 ^ 63) then some (.tup [.int .i64 (IntKind.i64.wrap (a * b)), .bool (decide (-(2 ^ 63) ≤ a * b) && decide (a * b < 2 ^ 63))]) else none
  | _ => none

theorem absI_mul (a b : Int) : absI a * absI b = absI (a * b) := by
  unfold absI
  split <;> split <;> split
  all_goals rename_i h1 h2 h3
  all_goals first
    | (rw [Int.neg_mul_neg]; done)
    | skip
  · exact absurd h3 (by have := Int.mul_pos_of_neg_of_neg h1 h2; omega)
  · rw [Int.neg_mul]
  · have := Int.mul_nonpos_of_nonpos_of_nonneg (by omega : a ≤ 0) (by omega : 0 ≤ b)
    have : a * b = 0 := by omega
    rw [Int.neg_mul, this]; rfl
  · rw [Int.mul_neg]
  · have := Int.mul_nonpos_of_nonneg_of_nonpos (by omega : 0 ≤ a) (by omega : b ≤ 0)
    have : a * b = 0 := by omega
    rw [Int.mul_neg, this]; rfl
  · exact absurd h3 (by have := Int.mul_nonneg (by omega : 0 ≤ a) (by omega : 0 ≤ b); omega)
  · rfl

theorem ok96 : OkAt Try.prog 96 φproduct := by
  refine ok_of (l := [(103, φsize), (102, φMul64)]) (.cons ok103 (.cons ok102 .nil)) fn96 fun args r h => ?_
  unfold φproduct at h
  split at h
  · split at h
    · rename_i a b hab
      injection h with h; subst h
      refine ⟨by simp, by simp [D.cl, D.clL], fun H T => ?_⟩
      obtain ⟨ha, hb⟩ := hab
      have pa : φsize [.int .i64 a] = some (.int .u64 (absI a)) := by simp only [φsize]; rw [if_pos ha]
      have pb : φsize [.int .i64 b] = some (.int .u64 (absI b)) := by simp only [φsize]; rw [if_pos hb]
      have A0 : 0 ≤ absI a ∧ absI a ≤ 2 ^ 63 := by unfold absI; split <;> omega
      have B0 : 0 ≤ absI b ∧ absI b ≤ 2 ^ 63 := by unfold absI; split <;> omega
      have pm : φMul64 [.int .u64 (absI a), .int .u64 (absI b)] = some (.tup [.int .u64 (absI (a * b) / 2 ^ 64), .int .u64 (absI (a * b) % 2 ^ 64)]) := by
        simp only [φMul64]; rw [if_pos (by omega), absI_mul]
      have sg : (decide (a < 0) == decide (b < 0)) = false → a * b ≤ 0 := by
        intro h
        by_cases h1 : a < 0
        · have h2 : ¬ b < 0 := by intro h2; simp [h1, h2] at h
          exact Int.mul_nonpos_of_nonpos_of_nonneg (by omega) (by omega)
        · have h2 : b < 0 := by
            rcases Int.lt_or_le b 0 with h2 | h2
            · exact h2
            · have : ¬ b < 0 := by omega
              simp [h1, this] at h
          exact Int.mul_nonpos_of_nonneg_of_nonpos (by omega) (by omega)
      have sg' : (decide (a < 0) == decide (b < 0)) = true → 0 ≤ a * b := by
        intro h
        by_cases h1 : a < 0
        · have h2 : b < 0 := by
            rcases Int.lt_or_le b 0 with h2 | h2
            · exact h2
            · have : ¬ b < 0 := by omega
              simp [h1, this] at h
          exact Int.le_of_lt (Int.mul_pos_of_neg_of_neg h1 h2)
        · have h2 : ¬ b < 0 := by intro h2; simp [h1, h2] at h
          exact Int.mul_nonneg (by omega) (by omega)
      generalize a * b = p at *
      have ab1 : p ≤ 0 → absI p = -p := fun h => by unfold absI; split <;> omega
      have ab2 : 0 ≤ p → absI p = p := fun h => by unfold absI; split <;> omega
      simp (config := { contextual := true, maxSteps := 10000000 }) only [c96, pa, pb, pm, go_sem, Nat.reduceAdd, Nat.reduceSub, Nat.reduceMul, Nat.reduceEqDiff, Nat.reduceLeDiff, Nat.reduceLT, Int.reduceToNat, Int.reduceLE, Int.reduceLT, Int.reduceEq, Int.reduceNe, Int.reduceBEq, Int.reduceBNe, Nat.reduceBEq, Nat.reduceBNe, ↓reduceIte, reduceCtorEq, ↓reduceDIte, W_draw]
      generalize (decide (a < 0) == decide (b < 0)) = sgn at *
      clear pa pb pm A0 B0 ha hb
      generalize absI p = ap at *
      refine ⟨fun q => ⟨fun q2 => ?_, fun q2 => ?_⟩, fun q => ⟨fun q2 => ?_, fun q2 => ?_⟩⟩
      all_goals
        simp only [D.tup.injEq, List.cons.injEq, D.int.injEq, D.bool.injEq, true_and, and_true]
        subst q
        first | (have sg := sg rfl; have ab := ab1 sg) | (have sg := sg' rfl; have ab := ab2 sg)
        first | simp only [beq_iff_eq] at q2 | simp only [beq_eq_false_iff_ne, ne_eq] at q2
        clear ab1 ab2
        refine ⟨i64_congr ?_, ?_⟩
        · have := i64_mod (ap % 2 ^ 64)
          generalize IntKind.i64.wrap (ap % 2 ^ 64) = z at *
          omega
        · rw [Bool.eq_iff_iff]
          simp only [decide_eq_true_eq, Bool.and_eq_true, Bool.false_eq_true, false_iff]
          omega
    · cases h
  · cases h

def inR (n : Int) : Bool := decide (-(2 ^ 63) ≤ n) && decide (n < 2 ^ 63)

def mulV (fa fb : Bool) (k1 i1 k2 i2 : Int) : D :=
  if !fa || !fb then .tup [zeroV, .int .i64 1] else
  if (k1 != 2) || (k2 != 2) then .tup [zeroV, .int .i64 6] else outN (IntKind.i64.wrap (i1 * i2)) (inR (i1 * i2))

def i64R (a : D) : Prop := -(2 ^ 63) ≤ vi a ∧ vi a < 2 ^ 63

def φMul : List D → Option D
  | [a, b] => if a.isV = true ∧ b.isV = true ∧ (-(2 ^ 63) ≤ vi a ∧ vi a < 2 ^ 63) ∧ (-(2 ^ 63) ≤ vi b ∧ vi b < 2 ^ 63) then some (mulV (formedB a) (formedB b) (vk a) (vi a) (vk b) (vi b)) else none
  | _ => none

set_option maxHeartbeats 4000000 in
theorem ok78 : OkAt Try.prog 78 φMul := by
  refine ok_of (l := [(40, φFormed), (96, φproduct), (92, φnumber)]) (.cons ok40 (.cons ok96 (.cons ok92 .nil))) fn78 fun args r h => ?_
  unfold φMul at h
  split at h
  · split at h
    · rename_i a b hab
      injection h with h; subst h
      refine ⟨by simp, by unfold mulV outN; (repeat' split) <;> simp [D.cl, D.clL, zeroV, valV, num], fun H T => ?_⟩
      obtain ⟨ha, hb, ra, rb⟩ := hab
      have pa : φFormed [a] = some (.bool (formedB a)) := by simp [φFormed, ha, formed_same]
      have pb : φFormed [b] = some (.bool (formedB b)) := by simp [φFormed, hb, formed_same]
      generalize formedB a = fa at *
      generalize formedB b = fb at *
      obtain ⟨k1, i1, s1, n1, xs, rfl, z1, y1, hV1⟩ := isV_elim ha
      obtain ⟨k2, i2, s2, n2, ys, rfl, z2, y2, hV2⟩ := isV_elim hb
      have r1 := erase_of_isV hV1
      have r2 := erase_of_isV hV2
      simp only [vi_mk] at ra rb
      simp only [vk_mk, vi_mk]
      have pp : φproduct [.int .i64 i1, .int .i64 i2] = some (.tup [.int .i64 (IntKind.i64.wrap (i1 * i2)), .bool (inR (i1 * i2))]) := by
        simp only [φproduct]; rw [if_pos ⟨ra, rb⟩]; rfl
      have pn : ∀ n ok, φnumber [.int .i64 n, .bool ok] = some (outN n ok) := fun n ok => rfl
      simp only [outN] at pn
      simp only [mkV] at pa pb
      simp only [mulV, outN]
      generalize IntKind.i64.wrap (i1 * i2) = p at *
      generalize inR (i1 * i2) = ok at *
      cases ok
      all_goals
        simp only [if_true, if_false, Bool.false_eq_true, num, zeroV] at pn
        simp (config := { contextual := true, maxSteps := 10000000 }) only [c78, mkV, pa, pb, pp, pn, r1, r2, num, zeroV, go_sem, Nat.reduceAdd, Nat.reduceSub, Nat.reduceMul, Nat.reduceEqDiff, Nat.reduceLeDiff, Nat.reduceLT, Int.reduceToNat, Int.reduceLE, Int.reduceLT, Int.reduceEq, Int.reduceNe, Int.reduceBEq, Int.reduceBNe, Nat.reduceBEq, Nat.reduceBNe, ↓reduceIte, reduceCtorEq, ↓reduceDIte, W_draw]
        repeat' (first | apply And.intro | intro _)
        all_goals grind
    · cases h
  · cases h

def φTimes : List D → Option D
  | [.int .i64 a, .int .i64 b] => if (-(2 ^ 63) ≤ a ∧ a < 2 ^ 63) ∧ (-(2 ^ 63) ≤ b ∧ b < 2 ^ 63) then some (wd (a * b)) else none
  | _ => none

def wdc (x : Int) : List D := [.int .i64 (IntKind.i64.wrap (x / 2 ^ 64)), .int .u64 (IntKind.u64.wrap x)]

theorem wdc_len (x : Int) : (wdc x).length = 2 := rfl

theorem wdc_take (x : Int) : (wdc x).take 2 = wdc x := rfl

theorem wdc_drop (x : Int) : (wdc x).drop 2 = [] := rfl

theorem wdc_erase (x : Int) : D.eraseL (wdc x) = wdc x := by simp [wdc, D.eraseL, D.erase]

theorem wd_eq (x : Int) : wd x = .agg (wdc x) := rfl

theorem half_pow (N i : Nat) : N / 2 ^ i / 2 = N / 2 ^ (i + 1) := by rw [Nat.div_div_eq_div_mul, Nat.pow_succ]

set_option maxHeartbeats 4000000 in
theorem ok64 : OkAt Try.prog 64 φTimes := by
  refine ok_of (l := [(60, φOf), (62, φPlus), (61, φMinus)]) (.cons ok60 (.cons ok62 (.cons ok61 .nil))) fn64 fun args r h => ?_
  unfold φTimes at h
  split at h
  · split at h
    · rename_i a b hab
      injection h with h; subst h
      refine ⟨by simp, by simp [D.cl, D.clL, wd], fun H T => ?_⟩
      obtain ⟨ha, hb⟩ := hab
      have pa : φOf [.int .i64 a] = some (wd a) := by simp only [φOf]; rw [if_pos ha]
      have hu : IntKind.u64.wrap b = b % 2 ^ 64 := u64_eq b
      obtain ⟨N, hN⟩ := Int.eq_ofNat_of_zero_le (show 0 ≤ absI b by unfold absI; split <;> omega)
      have hN64 : N < 2 ^ 64 := by unfold absI at hN; split at hN <;> omega
      have pw : ∀ x y, φPlus [.agg (wdc x), .agg (wdc y)] = some (.agg (wdc (x + y))) := fun x y => plus_wd x y
      have pm : ∀ x, φMinus [.agg (wdc x)] = some (.agg (wdc (-x))) := fun x => minus_wd x
      have xo := xor_ones (IntKind.u64.wrap b) (by omega) (by omega)
      have hneg : decide (b < 0) = true → IntKind.u64.wrap (2 ^ 64 - 1 - IntKind.u64.wrap b + 1) = (N : Int) := fun h => by
        simp only [decide_eq_true_eq] at h
        unfold absI at hN; rw [if_pos h] at hN
        rw [u64_eq]; omega
      have hpos : decide (b < 0) = false → IntKind.u64.wrap b = (N : Int) := fun h => by
        simp only [decide_eq_false_iff_not] at h
        unfold absI at hN; rw [if_neg h] at hN
        omega
      have w0 : wd 0 = .agg [.int .i64 0, .int .u64 0] := by simp only [wd, u64_eq, i64_eq]; rfl
      have z1 : IntKind.i64.wrap (0 / 2 ^ 64) = 0 := by decide
      have z2 : IntKind.u64.wrap 0 = 0 := by decide
      have fin : a * b = if decide (b < 0) then -(a * N) else a * N := by
        unfold absI at hN
        by_cases h : b < 0
        · rw [if_pos h] at hN; simp only [h, decide_true, if_true]; rw [← hN, Int.mul_neg, Int.neg_neg]
        · rw [if_neg h] at hN; simp only [h, decide_false, Bool.false_eq_true, if_false]; rw [hN]
      rw [fin]
      clear fin hu hN
      simp only [wd] at pa w0
      obtain ⟨nb, hnb⟩ : ∃ nb, nb = decide (b < 0) := ⟨_, rfl⟩
      cases hdec : decide (b < 0)
      all_goals
        rw [hdec] at hneg hpos hnb
        first | (have hq := hneg rfl) | (have hq := hpos rfl)
        simp (config := { contextual := true, maxSteps := 10000000 }) only [c64, pa, xo, hq, w0, hdec, go_sem, Nat.reduceAdd, Nat.reduceSub, Nat.reduceMul, Nat.reduceEqDiff, Nat.reduceLeDiff, Nat.reduceLT, Int.reduceToNat, Int.reduceLE, Int.reduceLT, Int.reduceEq, Int.reduceNe, Int.reduceBEq, Int.reduceBNe, Nat.reduceBEq, Nat.reduceBNe, ↓reduceIte, reduceCtorEq, ↓reduceDIte, W_draw]
        refine W_for (fun i s => ∃ S A : Int, s.t 4 = .ptr H.length 0 ∧ s.t 6 = .int .u64 ((N / 2 ^ i : Nat) : Int) ∧ s.t 7 = .ptr (H.length + 1) 0 ∧ s.t 8 = .ptr (H.length + 2) 0 ∧ s.t 5 = .bool nb ∧ s.H = H ++ [.row [.int .i64 0, .int .u64 0], .row (wdc S), .row (wdc A)] ∧ s.T = T ∧ i ≤ 64 ∧ S + A * ((N / 2 ^ i : Nat) : Int) = a * N) 64 ⟨0, 0, a, by simp only [wdc, z1, z2, hnb, upd, argT]; simp⟩ (fun i s h => by obtain ⟨_, _, h⟩ := h; exact h.2.2.2.2.2.2.2.1) ?_ (XL_mono _)
        rintro i ⟨t, H', T'⟩ ⟨S, A, h4, h6, h7, h8, h5, rfl, rfl, hi, hS⟩
        simp only at h4 h5 h6 h7 h8
        rw [hnb] at h5 ⊢
        have hp := half_pow N i
        generalize hn : N / 2 ^ i = n at *
        by_cases hz : 0 < n
        · have d1 : decide ((0 : Int) < n) = true := by simpa using hz
          have hi64 : i < 64 := by
            rcases Nat.lt_or_ge i 64 with h' | h'
            · exact h'
            · have : i = 64 := by omega
              subst this
              have : N / 2 ^ 64 = 0 := Nat.div_eq_of_lt hN64
              omega
          have q1 : ((n : Int).tmod 2 == 1) = decide (n % 2 = 1) := by
            rw [Int.tmod_eq_emod_of_nonneg (by omega), Bool.eq_iff_iff]; simp; omega
          have q2 : IntKind.u64.wrap ((n : Int).tdiv 2) = ((N / 2 ^ (i + 1) : Nat) : Int) := by
            have hb : n < 2 ^ 64 := by rw [← hn]; exact Nat.lt_of_le_of_lt (Nat.div_le_self _ _) hN64
            rw [← hp, Int.tdiv_eq_ediv_of_nonneg (by omega), u64_eq]; omega
          generalize N / 2 ^ (i + 1) = n' at *
          have e1 : (n : Int) = 2 * n' + ((n % 2 : Nat) : Int) := by omega
          simp (config := { contextual := true, maxSteps := 10000000 }) only [h4, h5, h6, h7, h8, d1, q1, q2, wdc_len, wdc_take, wdc_drop, wdc_erase, pw, go_sem, Nat.reduceAdd, Nat.reduceSub, Nat.reduceMul, Nat.reduceEqDiff, Nat.reduceLeDiff, Nat.reduceLT, Int.reduceToNat, Int.reduceLE, Int.reduceLT, Int.reduceEq, Int.reduceNe, Int.reduceBEq, Int.reduceBNe, Nat.reduceBEq, Nat.reduceBNe, ↓reduceIte, reduceCtorEq, ↓reduceDIte, W_draw]
          refine ⟨fun o => ⟨S + A, A + A, rfl, by omega, ?_⟩, fun o => ⟨S, A + A, rfl, by omega, ?_⟩⟩
          · have e3 : ((n % 2 : Nat) : Int) = 1 := by simp only [decide_eq_true_eq] at o; omega
            rw [← hS, e1, e3]; grind
          · have e3 : ((n % 2 : Nat) : Int) = 0 := by simp only [decide_eq_false_iff_not] at o; omega
            rw [← hS, e1, e3]; grind
        · have d1 : decide ((0 : Int) < n) = false := by simpa using hz
          have hS' : S = a * N := by
            have : n = 0 := by omega
            subst this; simpa using hS
          subst hS'
          simp (config := { contextual := true, maxSteps := 10000000 }) only [h4, h5, h6, h7, h8, d1, wdc_len, wdc_take, wdc_drop, wdc_erase, pm, wd_eq, go_sem, Nat.reduceAdd, Nat.reduceSub, Nat.reduceMul, Nat.reduceEqDiff, Nat.reduceLeDiff, Nat.reduceLT, Int.reduceToNat, Int.reduceLE, Int.reduceLT, Int.reduceEq, Int.reduceNe, Int.reduceBEq, Int.reduceBNe, Nat.reduceBEq, Nat.reduceBNe, ↓reduceIte, reduceCtorEq, ↓reduceDIte, W_draw]
    · cases h
  · cases h
end GP
