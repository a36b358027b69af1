import Derived.Test.YtoobncfcgknecaaGpF25
set_option linter.unusedSimpArgs false
namespace GP
open Go Go.Proofs
set_option maxRecDepth 100000

def inR (n : Int) : Bool := decide (-(2 ^ 63) ≤ n) && decide (n < 2 ^ 63)
def mulV (fa fb : Bool) (k1 i1 k2 i2 : Int) : D :=
  if !fa || !fb then .tup [zeroV, .int .i64 1] else
  if (k1 != 2) || (k2 != 2) then .tup [zeroV, .int .i64 6] else outN (IntKind.i64.wrap (i1 * i2)) (inR (i1 * i2))
def i64R (a : D) : Prop := -(2 ^ 63) ≤ vi a ∧ vi a < 2 ^ 63
def φMul : List D → Option D
  | [a, b] => if a.isV = true ∧ b.isV = true ∧ (-(2 ^ 63) ≤ vi a ∧ vi a < 2 ^ 63) ∧ (-(2 ^ 63) ≤ vi b ∧ vi b < 2 ^ 63) then some (mulV (formedB a) (formedB b) (vk a) (vi a) (vk b) (vi b)) else none
  | _ => none

set_option maxHeartbeats 4000000 in
theorem ok24 : OkAt Try.prog 24 φMul := by
  refine ok_of (l := [(11, φFormed), (48, φproduct), (44, φnumber)]) (.cons ok11 (.cons ok48 (.cons ok44 .nil))) fn24 fun args r h => ?_
  unfold φMul at h
  split at h
  · split at h
    · rename_i a b hab
      injection h with h; subst h
      refine ⟨by simp, by unfold mulV outN; (repeat' split) <;> simp [D.cl, D.clL, zeroV, valV, num], fun H T => ?_⟩
      obtain ⟨ha, hb, ra, rb⟩ := hab
      have pa : φFormed [a] = some (.bool (formedB a)) := by simp [φFormed, ha, formed_same]
      have pb : φFormed [b] = some (.bool (formedB b)) := by simp [φFormed, hb, formed_same]
      generalize formedB a = fa at *
      generalize formedB b = fb at *
      obtain ⟨k1, i1, s1, n1, xs, rfl, z1, y1, hV1⟩ := isV_elim ha
      obtain ⟨k2, i2, s2, n2, ys, rfl, z2, y2, hV2⟩ := isV_elim hb
      have r1 := erase_of_isV hV1
      have r2 := erase_of_isV hV2
      simp only [vi_mk] at ra rb
      simp only [vk_mk, vi_mk]
      have pp : φproduct [.int .i64 i1, .int .i64 i2] = some (.tup [.int .i64 (IntKind.i64.wrap (i1 * i2)), .bool (inR (i1 * i2))]) := by
        simp only [φproduct]; rw [if_pos ⟨ra, rb⟩]; rfl
      have pn : ∀ n ok, φnumber [.int .i64 n, .bool ok] = some (outN n ok) := fun n ok => rfl
      simp only [outN] at pn
      simp only [mkV] at pa pb
      simp only [mulV, outN]
      generalize IntKind.i64.wrap (i1 * i2) = p at *
      generalize inR (i1 * i2) = ok at *
      cases ok
      all_goals
        simp only [if_true, if_false, Bool.false_eq_true, num, zeroV] at pn
        simp (config := { contextual := true, maxSteps := 10000000 }) only [c24, mkV, pa, pb, pp, pn, r1, r2, num, zeroV, go_sem, List.map_cons, List.map_nil, List.append_assoc, List.cons_append, List.nil_append, List.append_nil, List.length_append, List.length_cons, List.length_nil, List.take_zero, List.take_succ_cons, List.take_nil, List.drop_zero, List.drop_succ_cons, List.drop_nil, Nat.zero_add, Nat.add_zero, Nat.reduceAdd, Nat.reduceSub, Nat.reduceMul, Nat.reduceEqDiff, Nat.reduceLeDiff, Nat.reduceLT, Int.reduceToNat, Int.reduceLE, Int.reduceLT, Int.reduceEq, Int.reduceNe, Int.reduceBEq, Int.reduceBNe, Nat.reduceBEq, Nat.reduceBNe, ↓reduceIte, reduceCtorEq, ↓reduceDIte, Option.map_some, Option.map_none, true_and, and_true, false_and, and_false, and_self, W_draw, condK_b, WIk_bt, WIk_bf, Bool.true_eq_false, Bool.false_eq_true, Bool.not_true, Bool.not_false, Bool.not_eq_true', Bool.not_eq_false', Bool.true_and, Bool.and_true, Bool.false_and, Bool.and_false, Bool.true_or, Bool.or_true, Bool.false_or, Bool.or_false, Bool.bne_true, Bool.bne_false, Bool.true_bne, Bool.false_bne, Bool.true_beq, Bool.false_beq, Bool.not_not, decide_true, decide_false, false_implies, true_implies, implies_true, forall_const, List.all_cons, List.all_nil, beq_self_eq_true, bne_self_eq_false, Nat.zero_le, Nat.le_refl, List.getElem?_cons_zero, List.getElem?_cons_succ, List.isEmpty_nil, List.isEmpty_cons, Int.cast_ofNat_Int, Int.toNat_zero]
        repeat' (first | apply And.intro | intro _)
        all_goals grind
    · cases h
  · cases h

def φTimes : List D → Option D
  | [.int .i64 a, .int .i64 b] => if (-(2 ^ 63) ≤ a ∧ a < 2 ^ 63) ∧ (-(2 ^ 63) ≤ b ∧ b < 2 ^ 63) then some (wd (a * b)) else none
  | _ => none
def wdc (x : Int) : List D := [.int .i64 (IntKind.i64.wrap (x / 2 ^ 64)), .int .u64 (IntKind.u64.wrap x)]

theorem wdc_len (x : Int) : (wdc x).length = 2 := rfl
theorem wdc_take (x : Int) : (wdc x).take 2 = wdc x := rfl
theorem wdc_drop (x : Int) : (wdc x).drop 2 = [] := rfl
theorem wdc_erase (x : Int) : D.eraseL (wdc x) = wdc x := by simp [wdc, D.eraseL, D.erase]
theorem wd_eq (x : Int) : wd x = .agg (wdc x) := rfl
theorem half_pow (N i : Nat) : N / 2 ^ i / 2 = N / 2 ^ (i + 1) := by rw [Nat.div_div_eq_div_mul, Nat.pow_succ]

set_option maxHeartbeats 4000000 in
theorem ok26 : OkAt Try.prog 26 φTimes := by
  refine ok_of (l := [(49, φOf), (51, φPlus), (50, φMinus)]) (.cons ok49 (.cons ok51 (.cons ok50 .nil))) fn26 fun args r h => ?_
  unfold φTimes at h
  split at h
  · split at h
    · rename_i a b hab
      injection h with h; subst h
      refine ⟨by simp, by simp [D.cl, D.clL, wd], fun H T => ?_⟩
      obtain ⟨ha, hb⟩ := hab
      have pa : φOf [.int .i64 a] = some (wd a) := by simp only [φOf]; rw [if_pos ha]
      have hu : IntKind.u64.wrap b = b % 2 ^ 64 := u64_eq b
      obtain ⟨N, hN⟩ := Int.eq_ofNat_of_zero_le (show 0 ≤ absI b by unfold absI; split <;> omega)
      have hN64 : N < 2 ^ 64 := by unfold absI at hN; split at hN <;> omega
      have pw : ∀ x y, φPlus [.agg (wdc x), .agg (wdc y)] = some (.agg (wdc (x + y))) := fun x y => plus_wd x y
      have pm : ∀ x, φMinus [.agg (wdc x)] = some (.agg (wdc (-x))) := fun x => minus_wd x
      have xo := xor_ones (IntKind.u64.wrap b) (by omega) (by omega)
      have hneg : decide (b < 0) = true → IntKind.u64.wrap (2 ^ 64 - 1 - IntKind.u64.wrap b + 1) = (N : Int) := fun h => by
        simp only [decide_eq_true_eq] at h
        unfold absI at hN; rw [if_pos h] at hN
        rw [u64_eq]; omega
      have hpos : decide (b < 0) = false → IntKind.u64.wrap b = (N : Int) := fun h => by
        simp only [decide_eq_false_iff_not] at h
        unfold absI at hN; rw [if_neg h] at hN
        omega
      have w0 : wd 0 = .agg [.int .i64 0, .int .u64 0] := by simp only [wd, u64_eq, i64_eq]; rfl
      have z1 : IntKind.i64.wrap (0 / 2 ^ 64) = 0 := by decide
      have z2 : IntKind.u64.wrap 0 = 0 := by decide
      have fin : a * b = if decide (b < 0) then -(a * N) else a * N := by
        unfold absI at hN
        by_cases h : b < 0
        · rw [if_pos h] at hN; simp only [h, decide_true, if_true]; rw [← hN, Int.mul_neg, Int.neg_neg]
        · rw [if_neg h] at hN; simp only [h, decide_false, Bool.false_eq_true, if_false]; rw [hN]
      rw [fin]
      clear fin hu hN
      simp only [wd] at pa w0
      obtain ⟨nb, hnb⟩ : ∃ nb, nb = decide (b < 0) := ⟨_, rfl⟩
      cases hdec : decide (b < 0)
      all_goals
        rw [hdec] at hneg hpos hnb
        first | (have hq := hneg rfl) | (have hq := hpos rfl)
        simp (config := { contextual := true, maxSteps := 10000000 }) only [c26, pa, xo, hq, w0, hdec, go_sem, List.map_cons, List.map_nil, List.append_assoc, List.cons_append, List.nil_append, List.append_nil, List.length_append, List.length_cons, List.length_nil, List.take_zero, List.take_succ_cons, List.take_nil, List.drop_zero, List.drop_succ_cons, List.drop_nil, Nat.zero_add, Nat.add_zero, Nat.reduceAdd, Nat.reduceSub, Nat.reduceMul, Nat.reduceEqDiff, Nat.reduceLeDiff, Nat.reduceLT, Int.reduceToNat, Int.reduceLE, Int.reduceLT, Int.reduceEq, Int.reduceNe, Int.reduceBEq, Int.reduceBNe, Nat.reduceBEq, Nat.reduceBNe, ↓reduceIte, reduceCtorEq, ↓reduceDIte, Option.map_some, Option.map_none, true_and, and_true, false_and, and_false, and_self, W_draw, condK_b, WIk_bt, WIk_bf, Bool.true_eq_false, Bool.false_eq_true, Bool.not_true, Bool.not_false, Bool.not_eq_true', Bool.not_eq_false', Bool.true_and, Bool.and_true, Bool.false_and, Bool.and_false, Bool.true_or, Bool.or_true, Bool.false_or, Bool.or_false, Bool.bne_true, Bool.bne_false, Bool.true_bne, Bool.false_bne, Bool.true_beq, Bool.false_beq, Bool.not_not, decide_true, decide_false, false_implies, true_implies, implies_true, forall_const, List.all_cons, List.all_nil, beq_self_eq_true, bne_self_eq_false, Nat.zero_le, Nat.le_refl, List.getElem?_cons_zero, List.getElem?_cons_succ, List.isEmpty_nil, List.isEmpty_cons, Int.cast_ofNat_Int, Int.toNat_zero]
        refine W_for (fun i s => ∃ S A : Int, s.t 4 = .ptr H.length 0 ∧ s.t 6 = .int .u64 ((N / 2 ^ i : Nat) : Int) ∧ s.t 7 = .ptr (H.length + 1) 0 ∧ s.t 8 = .ptr (H.length + 2) 0 ∧ s.t 5 = .bool nb ∧ s.H = H ++ [.row [.int .i64 0, .int .u64 0], .row (wdc S), .row (wdc A)] ∧ s.T = T ∧ i ≤ 64 ∧ S + A * ((N / 2 ^ i : Nat) : Int) = a * N) 64 ⟨0, 0, a, by simp only [wdc, z1, z2, hnb, upd, argT]; simp⟩ (fun i s h => by obtain ⟨_, _, h⟩ := h; exact h.2.2.2.2.2.2.2.1) ?_ (XL_mono _)
        rintro i ⟨t, H', T'⟩ ⟨S, A, h4, h6, h7, h8, h5, rfl, rfl, hi, hS⟩
        simp only at h4 h5 h6 h7 h8
        rw [hnb] at h5 ⊢
        have hp := half_pow N i
        generalize hn : N / 2 ^ i = n at *
        by_cases hz : 0 < n
        · have d1 : decide ((0 : Int) < n) = true := by simpa using hz
          have hi64 : i < 64 := by
            rcases Nat.lt_or_ge i 64 with h' | h'
            · exact h'
            · have : i = 64 := by omega
              subst this
              have : N / 2 ^ 64 = 0 := Nat.div_eq_of_lt hN64
              omega
          have q1 : ((n : Int).tmod 2 == 1) = decide (n % 2 = 1) := by
            rw [Int.tmod_eq_emod_of_nonneg (by omega), Bool.eq_iff_iff]; simp; omega
          have q2 : IntKind.u64.wrap ((n : Int).tdiv 2) = ((N / 2 ^ (i + 1) : Nat) : Int) := by
            have hb : n < 2 ^ 64 := by rw [← hn]; exact Nat.lt_of_le_of_lt (Nat.div_le_self _ _) hN64
            rw [← hp, Int.tdiv_eq_ediv_of_nonneg (by omega), u64_eq]; omega
          generalize N / 2 ^ (i + 1) = n' at *
          have e1 : (n : Int) = 2 * n' + ((n % 2 : Nat) : Int) := by omega
          simp (config := { contextual := true, maxSteps := 10000000 }) only [h4, h5, h6, h7, h8, d1, q1, q2, wdc_len, wdc_take, wdc_drop, wdc_erase, pw, go_sem, List.map_cons, List.map_nil, List.append_assoc, List.cons_append, List.nil_append, List.append_nil, List.length_append, List.length_cons, List.length_nil, List.take_zero, List.take_succ_cons, List.take_nil, List.drop_zero, List.drop_succ_cons, List.drop_nil, Nat.zero_add, Nat.add_zero, Nat.reduceAdd, Nat.reduceSub, Nat.reduceMul, Nat.reduceEqDiff, Nat.reduceLeDiff, Nat.reduceLT, Int.reduceToNat, Int.reduceLE, Int.reduceLT, Int.reduceEq, Int.reduceNe, Int.reduceBEq, Int.reduceBNe, Nat.reduceBEq, Nat.reduceBNe, ↓reduceIte, reduceCtorEq, ↓reduceDIte, Option.map_some, Option.map_none, true_and, and_true, false_and, and_false, and_self, W_draw, condK_b, WIk_bt, WIk_bf, Bool.true_eq_false, Bool.false_eq_true, Bool.not_true, Bool.not_false, Bool.not_eq_true', Bool.not_eq_false', Bool.true_and, Bool.and_true, Bool.false_and, Bool.and_false, Bool.true_or, Bool.or_true, Bool.false_or, Bool.or_false, Bool.bne_true, Bool.bne_false, Bool.true_bne, Bool.false_bne, Bool.true_beq, Bool.false_beq, Bool.not_not, decide_true, decide_false, false_implies, true_implies, implies_true, forall_const, List.all_cons, List.all_nil, beq_self_eq_true, bne_self_eq_false, Nat.zero_le, Nat.le_refl, List.getElem?_cons_zero, List.getElem?_cons_succ, List.isEmpty_nil, List.isEmpty_cons, Int.cast_ofNat_Int, Int.toNat_zero]
          refine ⟨fun o => ⟨S + A, A + A, rfl, by omega, ?_⟩, fun o => ⟨S, A + A, rfl, by omega, ?_⟩⟩
          · have e3 : ((n % 2 : Nat) : Int) = 1 := by simp only [decide_eq_true_eq] at o; omega
            rw [← hS, e1, e3]; grind
          · have e3 : ((n % 2 : Nat) : Int) = 0 := by simp only [decide_eq_false_iff_not] at o; omega
            rw [← hS, e1, e3]; grind
        · have d1 : decide ((0 : Int) < n) = false := by simpa using hz
          have hS' : S = a * N := by
            have : n = 0 := by omega
            subst this; simpa using hS
          subst hS'
          simp (config := { contextual := true, maxSteps := 10000000 }) only [h4, h5, h6, h7, h8, d1, wdc_len, wdc_take, wdc_drop, wdc_erase, pm, wd_eq, go_sem, List.map_cons, List.map_nil, List.append_assoc, List.cons_append, List.nil_append, List.append_nil, List.length_append, List.length_cons, List.length_nil, List.take_zero, List.take_succ_cons, List.take_nil, List.drop_zero, List.drop_succ_cons, List.drop_nil, Nat.zero_add, Nat.add_zero, Nat.reduceAdd, Nat.reduceSub, Nat.reduceMul, Nat.reduceEqDiff, Nat.reduceLeDiff, Nat.reduceLT, Int.reduceToNat, Int.reduceLE, Int.reduceLT, Int.reduceEq, Int.reduceNe, Int.reduceBEq, Int.reduceBNe, Nat.reduceBEq, Nat.reduceBNe, ↓reduceIte, reduceCtorEq, ↓reduceDIte, Option.map_some, Option.map_none, true_and, and_true, false_and, and_false, and_self, W_draw, condK_b, WIk_bt, WIk_bf, Bool.true_eq_false, Bool.false_eq_true, Bool.not_true, Bool.not_false, Bool.not_eq_true', Bool.not_eq_false', Bool.true_and, Bool.and_true, Bool.false_and, Bool.and_false, Bool.true_or, Bool.or_true, Bool.false_or, Bool.or_false, Bool.bne_true, Bool.bne_false, Bool.true_bne, Bool.false_bne, Bool.true_beq, Bool.false_beq, Bool.not_not, decide_true, decide_false, false_implies, true_implies, implies_true, forall_const, List.all_cons, List.all_nil, beq_self_eq_true, bne_self_eq_false, Nat.zero_le, Nat.le_refl, List.getElem?_cons_zero, List.getElem?_cons_succ, List.isEmpty_nil, List.isEmpty_cons, Int.cast_ofNat_Int, Int.toNat_zero]
    · cases h
  · cases h
end GP
