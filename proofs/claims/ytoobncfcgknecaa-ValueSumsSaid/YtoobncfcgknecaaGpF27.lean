/- ValueSums returns true for every input, and its arguments read behind the call as before. No condition beyond the row's own. -/
import Derived.Test.YtoobncfcgknecaaGpF26
import Derived.Test.YtoobncfcgknecaaGpF14
set_option linter.unusedSimpArgs false
namespace GP
open Go Go.Proofs Go.Proofs.Ytoobncfcgknecaa
open Go.ChangeShapes Go.WideShapes Go.ChangeAt Go.RowKit
set_option maxRecDepth 100000

theorem sum_fits {i1 i2 : Int} (h1 : -(2 ^ 63) ≤ i1 ∧ i1 < 2 ^ 63) (h2 : -(2 ^ 63) ≤ i2 ∧ i2 < 2 ^ 63) : sumB i1 i2 = decide (-(2 ^ 63) ≤ i1 + i2 ∧ i1 + i2 < 2 ^ 63) := by
  unfold sumB
  rw [i64_eq, Bool.eq_iff_iff]
  simp only [decide_eq_true_eq, Bool.or_eq_true, Bool.not_eq_true', beq_iff_eq, beq_eq_false_iff_ne, ne_eq, decide_eq_decide]
  split <;> omega
theorem less_fits {i1 i2 : Int} (h1 : -(2 ^ 63) ≤ i1 ∧ i1 < 2 ^ 63) (h2 : -(2 ^ 63) ≤ i2 ∧ i2 < 2 ^ 63) : lessB i1 i2 = decide (-(2 ^ 63) ≤ i1 - i2 ∧ i1 - i2 < 2 ^ 63) := by
  unfold lessB
  rw [i64_eq, Bool.eq_iff_iff]
  simp only [decide_eq_true_eq, Bool.or_eq_true, Bool.not_eq_true', beq_iff_eq, beq_eq_false_iff_ne, ne_eq, decide_eq_decide]
  split <;> omega
theorem add_sums {k1 i1 k2 i2 : Int} (h1 : -(2 ^ 63) ≤ i1 ∧ i1 < 2 ^ 63) (h2 : -(2 ^ 63) ≤ i2 ∧ i2 < 2 ^ 63) : addV true true k1 i1 k2 i2 = sumsR k1 i1 k2 i2 false := by
  have hw := sum_fits h1 h2
  have hw' : sumB i1 i2 = true → IntKind.i64.wrap (i1 + i2) = i1 + i2 := fun h => by rw [hw] at h; simp only [decide_eq_true_eq] at h; rw [i64_eq]; split <;> omega
  simp only [addV, sumsR, outN, outT, timeOk, kindR, sumN, ← hw, num, valV]
  generalize sumB i1 i2 = b at *
  cases b
  · simp; grind
  · rw [hw' rfl]; simp; grind
theorem sub_sums {k1 i1 k2 i2 : Int} (h1 : -(2 ^ 63) ≤ i1 ∧ i1 < 2 ^ 63) (h2 : -(2 ^ 63) ≤ i2 ∧ i2 < 2 ^ 63) : subV true true k1 i1 k2 i2 = sumsR k1 i1 k2 i2 true := by
  have hw := less_fits h1 h2
  have hw' : lessB i1 i2 = true → IntKind.i64.wrap (i1 - i2) = i1 - i2 := fun h => by rw [hw] at h; simp only [decide_eq_true_eq] at h; rw [i64_eq]; split <;> omega
  simp only [subV, sumsR, outN, outT, timeOk, kindR, sumN, if_true, ← hw, num, valV]
  generalize lessB i1 i2 = b at *
  cases b
  · simp; grind
  · rw [hw' rfl]; simp; grind

theorem valV_isV (k n : Int) : (valV k n).isV = true := by simp [valV, D.isV]
theorem same_self (k n : Int) : φSame [valV k n, valV k n] = some (.bool true) := by
  simp only [φSame, valV_isV, and_self, if_true]
  simp [sameB, valV, vk, vi, vs, vl, elems]
theorem sums_val (k1 i1 k2 i2 : Int) (m : Bool) : ∃ k n e, sumsR k1 i1 k2 i2 m = .tup [valV k n, .int .i64 e] := by
  unfold sumsR
  split
  · exact ⟨0, 0, _, rfl⟩
  · split
    · exact ⟨0, 0, _, rfl⟩
    · exact ⟨_, _, _, rfl⟩

theorem prod_bound {i1 i2 : Int} (h1 : -(2 ^ 63) ≤ i1 ∧ i1 < 2 ^ 63) (h2 : -(2 ^ 63) ≤ i2 ∧ i2 < 2 ^ 63) : -(2 ^ 127) ≤ i1 * i2 ∧ i1 * i2 < 2 ^ 127 := by
  have a1 : 0 ≤ absI i1 ∧ absI i1 ≤ 2 ^ 63 := by unfold absI; split <;> omega
  have a2 : 0 ≤ absI i2 ∧ absI i2 ≤ 2 ^ 63 := by unfold absI; split <;> omega
  have h := Int.mul_le_mul a1.2 a2.2 a2.1 (by omega)
  rw [absI_mul] at h
  unfold absI at h
  split at h <;> omega

set_option maxHeartbeats 8000000 in
theorem main7 (a b : D) (ha : a.isV = true) (hb : b.isV = true) (ra : -(2 ^ 63) ≤ vi a ∧ vi a < 2 ^ 63) (rb : -(2 ^ 63) ≤ vi b ∧ vi b < 2 ^ 63) (H : Hp) (T : Tk) : W (Snd Try.prog) c7 (endQ [.inl 4] (fun r _ _ => r = .bool true)) ⟨argT [a, b], H, T⟩ := by
  refine W_mono (X := XL [(9, φawake), (10, φtwo), (22, φAdd), (23, φSub), (24, φMul), (12, φformed), (25, φSums), (15, φSame), (26, φTimes), (27, φFits)])
    (Ok.X (.cons ok9 (.cons ok10 (.cons ok22 (.cons ok23 (.cons ok24 (.cons ok12 (.cons ok25 (.cons ok15 (.cons ok26 (.cons ok27 .nil))))))))))) (fun _ _ h => h) ?_
  have p2 : φtwo [a, b] = some (.bool (fewB [a, b] 2)) := by simp [φtwo, ha, hb]
  have p3 : φAdd [a, b] = some (addV (formedB a) (formedB b) (vk a) (vi a) (vk b) (vi b)) := by simp [φAdd, ha, hb]
  have p4 : φSub [a, b] = some (subV (formedB a) (formedB b) (vk a) (vi a) (vk b) (vi b)) := by simp [φSub, ha, hb]
  have p5 : φMul [a, b] = some (mulV (formedB a) (formedB b) (vk a) (vi a) (vk b) (vi b)) := by simp only [φMul]; rw [if_pos ⟨ha, hb, ra, rb⟩]
  have p6 : φformed [a] = some (.bool (formedB a)) := by simp [φformed, ha]
  have p7 : φformed [b] = some (.bool (formedB b)) := by simp [φformed, hb]
  have p8 : ∀ m, φSums [a, b, .bool m] = some (sumsR (vk a) (vi a) (vk b) (vi b) m) := fun m => by simp only [φSums]; rw [if_pos ⟨ha, hb, ra, rb⟩]
  have p9 : φTimes [.int .i64 (vi a), .int .i64 (vi b)] = some (wd (vi a * vi b)) := by simp only [φTimes]; rw [if_pos ⟨ra, rb⟩]
  have p10 := fits_wd (vi a * vi b) (prod_bound ra rb).1 (prod_bound ra rb).2
  have q1 := add_sums (k1 := vk a) (k2 := vk b) ra rb
  have q2 := sub_sums (k1 := vk a) (k2 := vk b) ra rb
  have q3 : inR (vi a * vi b) = decide (-(2 ^ 63) ≤ vi a * vi b ∧ vi a * vi b < 2 ^ 63) := by unfold inR; rw [Bool.eq_iff_iff]; simp
  generalize formedB a = fa at *
  generalize formedB b = fb at *
  generalize fewB [a, b] 2 = fw at *
  obtain ⟨k1, i1, s1, n1, xs, rfl, z1, y1, hV1⟩ := isV_elim ha
  obtain ⟨k2, i2, s2, n2, ys, rfl, z2, y2, hV2⟩ := isV_elim hb
  have r1 := erase_of_isV hV1
  have r2 := erase_of_isV hV2
  simp only [vk_mk, vi_mk] at *
  cases fw with
  | false =>
    simp only [mkV] at p2
    simp (config := { contextual := true, maxSteps := 10000000 }) only [c7, mkV, φawake, r1, r2, p2, go_sem, List.map_cons, List.map_nil, List.append_assoc, List.cons_append, List.nil_append, List.append_nil, List.length_append, List.length_cons, List.length_nil, List.take_zero, List.take_succ_cons, List.take_nil, List.drop_zero, List.drop_succ_cons, List.drop_nil, Nat.zero_add, Nat.add_zero, Nat.reduceAdd, Nat.reduceSub, Nat.reduceMul, Nat.reduceEqDiff, Nat.reduceLeDiff, Nat.reduceLT, Int.reduceToNat, Int.reduceLE, Int.reduceLT, Int.reduceEq, Int.reduceNe, Int.reduceBEq, Int.reduceBNe, Nat.reduceBEq, Nat.reduceBNe, ↓reduceIte, reduceCtorEq, ↓reduceDIte, Option.map_some, Option.map_none, true_and, and_true, false_and, and_false, and_self, W_draw, condK_b, WIk_bt, WIk_bf, Bool.true_eq_false, Bool.false_eq_true, Bool.not_true, Bool.not_false, Bool.not_eq_true', Bool.not_eq_false', Bool.true_and, Bool.and_true, Bool.false_and, Bool.and_false, Bool.true_or, Bool.or_true, Bool.false_or, Bool.or_false, Bool.bne_true, Bool.bne_false, Bool.true_bne, Bool.false_bne, Bool.true_beq, Bool.false_beq, Bool.not_not, decide_true, decide_false, false_implies, true_implies, implies_true, forall_const, List.all_cons, List.all_nil, beq_self_eq_true, bne_self_eq_false, Nat.zero_le, Nat.le_refl, List.getElem?_cons_zero, List.getElem?_cons_succ, List.isEmpty_nil, List.isEmpty_cons, Int.cast_ofNat_Int, Int.toNat_zero]
  | true =>
    cases hff : (fa && fb) with
    | false =>
      have e1 : addV fa fb k1 i1 k2 i2 = .tup [valV 0 0, .int .i64 1] := by unfold addV; rw [if_pos (by cases fa <;> cases fb <;> simp_all)]; rfl
      have e2 : subV fa fb k1 i1 k2 i2 = .tup [valV 0 0, .int .i64 1] := by unfold subV; rw [if_pos (by cases fa <;> cases fb <;> simp_all)]; rfl
      have e3 : mulV fa fb k1 i1 k2 i2 = .tup [valV 0 0, .int .i64 1] := by unfold mulV; rw [if_pos (by cases fa <;> cases fb <;> simp_all)]; rfl
      rw [e1] at p3; rw [e2] at p4; rw [e3] at p5
      simp only [mkV, valV] at p2 p3 p4 p5 p6 p7
      cases fa <;> cases fb <;> simp at hff <;> simp (config := { contextual := true, maxSteps := 10000000 }) only [c7, mkV, φawake, r1, r2, p2, p3, p4, p5, p6, p7, go_sem, List.map_cons, List.map_nil, List.append_assoc, List.cons_append, List.nil_append, List.append_nil, List.length_append, List.length_cons, List.length_nil, List.take_zero, List.take_succ_cons, List.take_nil, List.drop_zero, List.drop_succ_cons, List.drop_nil, Nat.zero_add, Nat.add_zero, Nat.reduceAdd, Nat.reduceSub, Nat.reduceMul, Nat.reduceEqDiff, Nat.reduceLeDiff, Nat.reduceLT, Int.reduceToNat, Int.reduceLE, Int.reduceLT, Int.reduceEq, Int.reduceNe, Int.reduceBEq, Int.reduceBNe, Nat.reduceBEq, Nat.reduceBNe, ↓reduceIte, reduceCtorEq, ↓reduceDIte, Option.map_some, Option.map_none, true_and, and_true, false_and, and_false, and_self, W_draw, condK_b, WIk_bt, WIk_bf, Bool.true_eq_false, Bool.false_eq_true, Bool.not_true, Bool.not_false, Bool.not_eq_true', Bool.not_eq_false', Bool.true_and, Bool.and_true, Bool.false_and, Bool.and_false, Bool.true_or, Bool.or_true, Bool.false_or, Bool.or_false, Bool.bne_true, Bool.bne_false, Bool.true_bne, Bool.false_bne, Bool.true_beq, Bool.false_beq, Bool.not_not, decide_true, decide_false, false_implies, true_implies, implies_true, forall_const, List.all_cons, List.all_nil, beq_self_eq_true, bne_self_eq_false, Nat.zero_le, Nat.le_refl, List.getElem?_cons_zero, List.getElem?_cons_succ, List.isEmpty_nil, List.isEmpty_cons, Int.cast_ofNat_Int, Int.toNat_zero]
    | true =>
      have hfa : fa = true := by cases fa <;> simp_all
      have hfb : fb = true := by cases fb <;> simp_all
      subst hfa; subst hfb
      rw [q1] at p3; rw [q2] at p4
      obtain ⟨kx, nx, ex, e1⟩ := sums_val k1 i1 k2 i2 false
      obtain ⟨ky, ny, ey, e2⟩ := sums_val k1 i1 k2 i2 true
      have p8f := p8 false
      have p8t := p8 true
      rw [e1] at p3 p8f; rw [e2] at p4 p8t
      have sx := same_self kx nx
      have sy := same_self ky ny
      have s0 := same_self 0 0
      cases hk : (k1 != 2) || (k2 != 2) with
      | true =>
        have e3 : mulV true true k1 i1 k2 i2 = .tup [valV 0 0, .int .i64 6] := by unfold mulV; rw [if_neg (by simp), if_pos hk]; rfl
        rw [e3] at p5
        simp only [mkV, valV] at p2 p3 p4 p5 p6 p7 p8f p8t sx sy s0
        cases hk1 : (k1 != 2)
        · rw [hk1] at hk
          have hk2 : (k2 != 2) = true := by simpa using hk
          simp (config := { contextual := true, maxSteps := 10000000 }) only [c7, mkV, φawake, r1, r2, p2, p3, p4, p5, p6, p7, p8f, p8t, sx, sy, s0, hk1, hk2, go_sem, List.map_cons, List.map_nil, List.append_assoc, List.cons_append, List.nil_append, List.append_nil, List.length_append, List.length_cons, List.length_nil, List.take_zero, List.take_succ_cons, List.take_nil, List.drop_zero, List.drop_succ_cons, List.drop_nil, Nat.zero_add, Nat.add_zero, Nat.reduceAdd, Nat.reduceSub, Nat.reduceMul, Nat.reduceEqDiff, Nat.reduceLeDiff, Nat.reduceLT, Int.reduceToNat, Int.reduceLE, Int.reduceLT, Int.reduceEq, Int.reduceNe, Int.reduceBEq, Int.reduceBNe, Nat.reduceBEq, Nat.reduceBNe, ↓reduceIte, reduceCtorEq, ↓reduceDIte, Option.map_some, Option.map_none, true_and, and_true, false_and, and_false, and_self, W_draw, condK_b, WIk_bt, WIk_bf, Bool.true_eq_false, Bool.false_eq_true, Bool.not_true, Bool.not_false, Bool.not_eq_true', Bool.not_eq_false', Bool.true_and, Bool.and_true, Bool.false_and, Bool.and_false, Bool.true_or, Bool.or_true, Bool.false_or, Bool.or_false, Bool.bne_true, Bool.bne_false, Bool.true_bne, Bool.false_bne, Bool.true_beq, Bool.false_beq, Bool.not_not, decide_true, decide_false, false_implies, true_implies, implies_true, forall_const, List.all_cons, List.all_nil, beq_self_eq_true, bne_self_eq_false, Nat.zero_le, Nat.le_refl, List.getElem?_cons_zero, List.getElem?_cons_succ, List.isEmpty_nil, List.isEmpty_cons, Int.cast_ofNat_Int, Int.toNat_zero]
        · simp (config := { contextual := true, maxSteps := 10000000 }) only [c7, mkV, φawake, r1, r2, p2, p3, p4, p5, p6, p7, p8f, p8t, sx, sy, s0, hk1, go_sem, List.map_cons, List.map_nil, List.append_assoc, List.cons_append, List.nil_append, List.append_nil, List.length_append, List.length_cons, List.length_nil, List.take_zero, List.take_succ_cons, List.take_nil, List.drop_zero, List.drop_succ_cons, List.drop_nil, Nat.zero_add, Nat.add_zero, Nat.reduceAdd, Nat.reduceSub, Nat.reduceMul, Nat.reduceEqDiff, Nat.reduceLeDiff, Nat.reduceLT, Int.reduceToNat, Int.reduceLE, Int.reduceLT, Int.reduceEq, Int.reduceNe, Int.reduceBEq, Int.reduceBNe, Nat.reduceBEq, Nat.reduceBNe, ↓reduceIte, reduceCtorEq, ↓reduceDIte, Option.map_some, Option.map_none, true_and, and_true, false_and, and_false, and_self, W_draw, condK_b, WIk_bt, WIk_bf, Bool.true_eq_false, Bool.false_eq_true, Bool.not_true, Bool.not_false, Bool.not_eq_true', Bool.not_eq_false', Bool.true_and, Bool.and_true, Bool.false_and, Bool.and_false, Bool.true_or, Bool.or_true, Bool.false_or, Bool.or_false, Bool.bne_true, Bool.bne_false, Bool.true_bne, Bool.false_bne, Bool.true_beq, Bool.false_beq, Bool.not_not, decide_true, decide_false, false_implies, true_implies, implies_true, forall_const, List.all_cons, List.all_nil, beq_self_eq_true, bne_self_eq_false, Nat.zero_le, Nat.le_refl, List.getElem?_cons_zero, List.getElem?_cons_succ, List.isEmpty_nil, List.isEmpty_cons, Int.cast_ofNat_Int, Int.toNat_zero]
      | false =>
        have hk1 : (k1 != 2) = false := by cases h : (k1 != 2) <;> simp_all
        have hk2 : (k2 != 2) = false := by cases h : (k2 != 2) <;> simp_all
        have e3 : mulV true true k1 i1 k2 i2 = outN (IntKind.i64.wrap (i1 * i2)) (decide (-(2 ^ 63) ≤ i1 * i2 ∧ i1 * i2 < 2 ^ 63)) := by unfold mulV; rw [if_neg (by simp), if_neg (by rw [hk]; simp), q3]
        rw [e3] at p5
        have sp := same_self 2 (IntKind.i64.wrap (i1 * i2))
        generalize decide (-(2 ^ 63) ≤ i1 * i2 ∧ i1 * i2 < 2 ^ 63) = ok at *
        cases ok
        · simp only [outN, Bool.false_eq_true, if_false, zeroV] at p5
          simp only [mkV, valV, wd] at p2 p3 p4 p5 p6 p7 p8f p8t p9 p10 sx sy s0 sp
          simp (config := { contextual := true, maxSteps := 10000000 }) only [c7, mkV, φawake, r1, r2, p2, p3, p4, p5, p6, p7, p8f, p8t, p9, p10, sx, sy, s0, sp, hk1, hk2, go_sem, List.map_cons, List.map_nil, List.append_assoc, List.cons_append, List.nil_append, List.append_nil, List.length_append, List.length_cons, List.length_nil, List.take_zero, List.take_succ_cons, List.take_nil, List.drop_zero, List.drop_succ_cons, List.drop_nil, Nat.zero_add, Nat.add_zero, Nat.reduceAdd, Nat.reduceSub, Nat.reduceMul, Nat.reduceEqDiff, Nat.reduceLeDiff, Nat.reduceLT, Int.reduceToNat, Int.reduceLE, Int.reduceLT, Int.reduceEq, Int.reduceNe, Int.reduceBEq, Int.reduceBNe, Nat.reduceBEq, Nat.reduceBNe, ↓reduceIte, reduceCtorEq, ↓reduceDIte, Option.map_some, Option.map_none, true_and, and_true, false_and, and_false, and_self, W_draw, condK_b, WIk_bt, WIk_bf, Bool.true_eq_false, Bool.false_eq_true, Bool.not_true, Bool.not_false, Bool.not_eq_true', Bool.not_eq_false', Bool.true_and, Bool.and_true, Bool.false_and, Bool.and_false, Bool.true_or, Bool.or_true, Bool.false_or, Bool.or_false, Bool.bne_true, Bool.bne_false, Bool.true_bne, Bool.false_bne, Bool.true_beq, Bool.false_beq, Bool.not_not, decide_true, decide_false, false_implies, true_implies, implies_true, forall_const, List.all_cons, List.all_nil, beq_self_eq_true, bne_self_eq_false, Nat.zero_le, Nat.le_refl, List.getElem?_cons_zero, List.getElem?_cons_succ, List.isEmpty_nil, List.isEmpty_cons, Int.cast_ofNat_Int, Int.toNat_zero]
        · simp only [outN, if_true, num] at p5
          simp only [mkV, valV, wd] at p2 p3 p4 p5 p6 p7 p8f p8t p9 p10 sx sy s0 sp
          simp (config := { contextual := true, maxSteps := 10000000 }) only [c7, mkV, φawake, r1, r2, p2, p3, p4, p5, p6, p7, p8f, p8t, p9, p10, sx, sy, s0, sp, hk1, hk2, go_sem, List.map_cons, List.map_nil, List.append_assoc, List.cons_append, List.nil_append, List.append_nil, List.length_append, List.length_cons, List.length_nil, List.take_zero, List.take_succ_cons, List.take_nil, List.drop_zero, List.drop_succ_cons, List.drop_nil, Nat.zero_add, Nat.add_zero, Nat.reduceAdd, Nat.reduceSub, Nat.reduceMul, Nat.reduceEqDiff, Nat.reduceLeDiff, Nat.reduceLT, Int.reduceToNat, Int.reduceLE, Int.reduceLT, Int.reduceEq, Int.reduceNe, Int.reduceBEq, Int.reduceBNe, Nat.reduceBEq, Nat.reduceBNe, ↓reduceIte, reduceCtorEq, ↓reduceDIte, Option.map_some, Option.map_none, true_and, and_true, false_and, and_false, and_self, W_draw, condK_b, WIk_bt, WIk_bf, Bool.true_eq_false, Bool.false_eq_true, Bool.not_true, Bool.not_false, Bool.not_eq_true', Bool.not_eq_false', Bool.true_and, Bool.and_true, Bool.false_and, Bool.and_false, Bool.true_or, Bool.or_true, Bool.false_or, Bool.or_false, Bool.bne_true, Bool.bne_false, Bool.true_bne, Bool.false_bne, Bool.true_beq, Bool.false_beq, Bool.not_not, decide_true, decide_false, false_implies, true_implies, implies_true, forall_const, List.all_cons, List.all_nil, beq_self_eq_true, bne_self_eq_false, Nat.zero_le, Nat.le_refl, List.getElem?_cons_zero, List.getElem?_cons_succ, List.isEmpty_nil, List.isEmpty_cons, Int.cast_ofNat_Int, Int.toNat_zero]
end GP
