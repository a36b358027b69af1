import Derived.Test.YtnipbngimicldaaGpbL1
import Derived.Test.YtnipbngimicldaaGpYu
set_option linter.unusedSimpArgs false
/- The reference's evaluation: its parts. -/
namespace GP
open Go Go.Proofs
set_option maxRecDepth 100000

set_option maxHeartbeats 2000000 in
theorem ok24 : OkAt Try.prog 24 φright := by
  refine ok_of (l := [(18, φformed)]) (.cons ok18 .nil) fn24 fun args r h => ?_
  unfold φright at h
  split at h
  · rename_i s
    split at h
    · rename_i hs
      injection h with h; subst h
      refine ⟨by simp, by simp [D.cl], fun H T => ?_⟩
      obtain ⟨now, R, A, rfl, n1, n2, hR, hA⟩ := hs
      have eR := isLs_erase (fun _ => isTx_erase) hR
      have eA := isLs_erase (fun _ => isH_erase) hA
      obtain ⟨nb, l, rfl, hl, hH⟩ := hA
      simp only [rightB, sA_mk, sNw_mk, elems_sliceD]
      simp (config := { contextual := true, maxSteps := 10000000 }) only [c24, mkS, eR, eA, go_sem, Nat.reduceAdd, Nat.reduceSub, Nat.reduceMul, Nat.reduceEqDiff, Nat.reduceLeDiff, Nat.reduceLT, Int.reduceToNat, Int.reduceLE, Int.reduceLT, Int.reduceEq, Int.reduceNe, Int.reduceBEq, Int.reduceBNe, Nat.reduceBEq, Nat.reduceBNe, ↓reduceIte, reduceCtorEq, ↓reduceDIte, W_draw]
      refine W_for (fun j s' => s'.t 1 = .ptr H.length 0 ∧ s'.t 3 = .int .i64 j ∧ s'.H = H ++ [.row [.int .i64 now, R, sliceD nb l]] ∧ s'.T = T ∧ j ≤ l.length ∧ (l.take j).all goodH = true) l.length ⟨0, by simp [upd, argT]⟩ (fun i s h => h.2.2.2.2.1) ?_ (XL_mono _)
      rintro j ⟨t, B, T'⟩ ⟨h1, h3, rfl, rfl, hj, hc⟩
      simp only at h1 h3
      by_cases ha : j < l.length
      · have d1 : decide ((j : Int) < l.length) = true := by simpa using ha
        have hx := hH _ (List.getElem_mem ha)
        have ex : l[j]? = some l[j] := by simp [ha]
        have nx := fun hp => all_nx (p := goodH) ex hc hp
        have no := fun hp => all_no (p := goodH) ex hp
        obtain ⟨who, name, k, i, s, nl, l', e, _, _, hv⟩ := hx
        rw [e] at ex nx no
        have G : goodH (mkH who name k i s nl l') = (formedB (mkV k i s nl l') && (k != 0)) := rfl
        rw [G] at nx no
        have pv : φformed [mkV k i s nl l'] = some (.bool (formedB (mkV k i s nl l'))) := by simp only [φformed]; rw [if_pos hv.1]
        obtain ⟨fb, hq⟩ : ∃ z, formedB (mkV k i s nl l') = z := ⟨_, rfl⟩
        simp only [hq] at pv nx no
        clear hq
        have eL := (mkV_erase hv.1).1
        simp only [mkV] at pv
        simp only [mkH] at ex
        cases fb with
        | false =>
          have no := no rfl
          simp (config := { contextual := true, maxSteps := 10000000 }) only [h1, h3, d1, ex, eL, pv, no, go_sem, Nat.reduceAdd, Nat.reduceSub, Nat.reduceMul, Nat.reduceEqDiff, Nat.reduceLeDiff, Nat.reduceLT, Int.reduceToNat, Int.reduceLE, Int.reduceLT, Int.reduceEq, Int.reduceNe, Int.reduceBEq, Int.reduceBNe, Nat.reduceBEq, Nat.reduceBNe, ↓reduceIte, reduceCtorEq, ↓reduceDIte, W_draw]
        | true =>
        cases hk : (k == 0) with
        | true =>
          have no := no (by simp [bne, hk])
          simp (config := { contextual := true, maxSteps := 10000000 }) only [h1, h3, d1, ex, eL, pv, hk, no, go_sem, Nat.reduceAdd, Nat.reduceSub, Nat.reduceMul, Nat.reduceEqDiff, Nat.reduceLeDiff, Nat.reduceLT, Int.reduceToNat, Int.reduceLE, Int.reduceLT, Int.reduceEq, Int.reduceNe, Int.reduceBEq, Int.reduceBNe, Nat.reduceBEq, Nat.reduceBNe, ↓reduceIte, reduceCtorEq, ↓reduceDIte, W_draw]
        | false =>
          have nx := nx (by simp [bne, hk])
          simp (config := { contextual := true, maxSteps := 10000000 }) only [h1, h3, d1, ex, eL, pv, hk, wrap_succ j (by omega), go_sem, Nat.reduceAdd, Nat.reduceSub, Nat.reduceMul, Nat.reduceEqDiff, Nat.reduceLeDiff, Nat.reduceLT, Int.reduceToNat, Int.reduceLE, Int.reduceLT, Int.reduceEq, Int.reduceNe, Int.reduceBEq, Int.reduceBNe, Nat.reduceBEq, Nat.reduceBNe, ↓reduceIte, reduceCtorEq, ↓reduceDIte, W_draw]
          exact ⟨by omega, nx⟩
      · have d1 : decide ((j : Int) < l.length) = false := by simpa using ha
        have hA : l.all goodH = true := by
          have : j = l.length := by omega
          subst this; rw [List.take_length] at hc; exact hc
        simp (config := { contextual := true, maxSteps := 10000000 }) only [h1, h3, d1, hA, go_sem, Nat.reduceAdd, Nat.reduceSub, Nat.reduceMul, Nat.reduceEqDiff, Nat.reduceLeDiff, Nat.reduceLT, Int.reduceToNat, Int.reduceLE, Int.reduceLT, Int.reduceEq, Int.reduceNe, Int.reduceBEq, Int.reduceBNe, Nat.reduceBEq, Nat.reduceBNe, ↓reduceIte, reduceCtorEq, ↓reduceDIte, W_draw]
        (all_goals ((repeat' (first | apply And.intro | intro _)) <;> (first | rfl | omega | (simp_all; done) | grind)))
    · cases h
  · cases h

/-- The reference's truth. -/
def φtruR : List D → Option D
  | [.bool b] => some (truV b)
  | _ => none
theorem ok43 : OkAt Try.prog 43 φtruR := by
  refine ok_of (l := []) .nil fn43 fun args r h => ?_
  unfold φtruR at h
  split at h
  · rename_i b
    injection h with h; subst h
    refine ⟨by simp, (vOp (isVr_tru b)).2.2.2.2.2, fun H T => ?_⟩
    cases b <;> simp (config := { contextual := true, maxSteps := 10000000 }) only [c43, truV, go_sem, Nat.reduceAdd, Nat.reduceSub, Nat.reduceMul, Nat.reduceEqDiff, Nat.reduceLeDiff, Nat.reduceLT, Int.reduceToNat, Int.reduceLE, Int.reduceLT, Int.reduceEq, Int.reduceNe, Int.reduceBEq, Int.reduceBNe, Nat.reduceBEq, Nat.reduceBNe, ↓reduceIte, reduceCtorEq, ↓reduceDIte, W_draw]
  · cases h

theorem tf (b : Bool) : b = true ∨ b = false := by cases b <;> simp
/-! ### Formed -/
def litB (v : D) : Bool := formedB v && (vk v != 0) && !((vk v == 5) && (((vl v).length : Int) == 0))
theorem litI_litB {v : D} : (litI v != 0) = litB v := by
  unfold litI litB
  cases hf : formedB v with
  | false => rfl
  | true =>
    cases h0 : (vk v == 0) with
    | true =>
      have : (vk v != 0) = false := by simp [bne, h0]
      rw [this]; rfl
    | false =>
      have h0' : (vk v != 0) = true := by simp [bne, h0]
      rw [h0']
      cases h5 : (vk v == 5) with
      | false =>
        simp only [Bool.not_true, Bool.false_or, Bool.false_and, Bool.false_eq_true, if_false, h0', Bool.not_false, Bool.and_self]
      | true =>
        cases hl : (((vl v).length : Int) == 0) with
        | true => rfl
        | false =>
          simp only [Bool.not_true, Bool.false_or, Bool.and_false, Bool.false_eq_true, if_false, if_true, Bool.not_false, Bool.and_self]
          have hk : vk v = 5 := by simpa using h5
          have hb : 0 ≤ vk0 (vl v) ∧ vk0 (vl v) ≤ 4 := by
            cases hv : vl v with
            | nil => rw [hv] at hl; simp at hl
            | cons x xs =>
              have h1 : one1 x = true := by
                unfold formedB at hf
                rw [hk] at hf
                rw [if_neg (by decide)] at hf
                split at hf
                · cases hf
                · exact el_one hf x (by rw [hv]; simp)
              have := plain_facts h1
              have e : vk0 (x :: xs) = vk x := rfl
              rw [e]
              omega
          rw [wrap_inY (by omega) (by omega)]
          simp only [bne_iff_ne, ne_eq]; omega
def goodE (e : D) : Bool := (((eps e).length : Int) == arityI (eop e)) && (!(eop e == sVal) || litB (eV e))
theorem fmD_good : ∀ {n : Nat} {e : D}, fmD (n + 1) e = (goodE e && (eps e).all (fmD n)) := by
  intro n e
  cases ha : (eps e).all (fmD n) with
  | false => simp only [fmD, ha, Bool.and_false]
  | true =>
    simp only [fmD, ha, Bool.and_true]
    unfold typI goodE
    cases hl : (((eps e).length : Int) == arityI (eop e)) with
    | false =>
      have : (((eps e).length : Int) != arityI (eop e)) = true := by simp [bne, hl]
      rw [if_pos (by rw [this]; simp)]; rfl
    | true =>
      have hl' : (((eps e).length : Int) != arityI (eop e)) = false := by simp [bne, hl]
      have hle : ((eps e).length : Int) = arityI (eop e) := by simpa using hl
      have hge : decide (arityI (eop e) < 0) = false := by simp only [decide_eq_false_iff_not]; omega
      rw [if_neg (by rw [hl', hge]; decide)]
      cases h0 : (arityI (eop e) == 0) with
      | true =>
        rw [if_pos rfl]
        unfold noneI
        cases hv : (eop e == sVal) with
        | true =>
          rw [if_pos rfl, litI_litB]
          cases litB (eV e) <;> simp
        | false =>
          rw [if_neg (by decide)]
          simp only [factI_nil]
          split
          · rfl
          split
          · rfl
          · rfl
      | false =>
        rw [if_neg (by decide)]
        have hv : (eop e == sVal) = false := by
          rw [beq_eq_false_iff_ne]; intro h; rw [h] at h0; exact absurd h0 (by decide)
        have ar := arity_cases (eop e)
        have hne : arityI (eop e) ≠ 0 := by simpa using h0
        have h1 : 0 < (eps e).length := by omega
        have f0 : fmD n (part e 0) = true := List.all_eq_true.1 ha _ (part_mem h1)
        have t0 : ((typI n [] ((eps e).getD 0 .top)).2 != 2) = true := typ_ok f0
        simp only [hv, Bool.not_false, Bool.true_or, Bool.and_self]
        split
        · exact t0
        split
        · rename_i h2
          have h2 : arityI (eop e) = 2 := by simpa using h2
          have f1 : fmD n (part e 1) = true := List.all_eq_true.1 ha _ (part_mem (by omega))
          have t1 : ((typI n [] ((eps e).getD 1 .top)).2 != 2) = true := typ_ok f1
          split
          · exact t1
          split
          · rfl
          · rfl
        split
        · rfl
        · rfl
end GP
set_option linter.unusedSimpArgs false
/- The reference's evaluation: both, pair. -/
namespace GP
open Go Go.Proofs
set_option maxRecDepth 100000

open Classical in
noncomputable def φboth : List D → Option D
  | [.bool d, .agg [.int .i64 k1, .int .i64 i1, .str s1, l1, .int .i64 k2, .int .i64 i2, .str s2, l2], .agg [.int .i64 f, .int .i64 g]] =>
    if isVr (.agg [.int .i64 k1, .int .i64 i1, .str s1, l1]) ∧ isVr (.agg [.int .i64 k2, .int .i64 i2, .str s2, l2]) then
      some (tupV (eitherV (tstV (.agg [.int .i64 k1, .int .i64 i1, .str s1, l1], f)) (tstV (.agg [.int .i64 k2, .int .i64 i2, .str s2, l2], g)) d)) else none
  | _ => none
set_option maxHeartbeats 8000000 in
theorem ok42 : OkAt Try.prog 42 φboth := by
  refine ok_of (l := [(43, φtruR)]) (.cons ok43 .nil) fn42 fun args r h => ?_
  unfold φboth at h
  split at h
  · rename_i d k1 i1 s1 l1 k2 i2 s2 l2 f g
    split at h
    · rename_i hv
      obtain ⟨hv1, hv2⟩ := hv
      injection h with h; subst h
      refine ⟨by simp, res_cl (eitherV_res _ _ _), fun H T => ?_⟩
      have e1 := (vOp hv1).2.2.2.2.1
      have e2 := (vOp hv2).2.2.2.2.1
      simp only [D.erase, D.eraseL, D.agg.injEq, List.cons.injEq, and_true, true_and] at e1 e2
      have o1 : l1.okc = true ∧ l1.cells = [l1] := by
        obtain ⟨k, i, s, n, l, e, _⟩ := isV_elim hv1.1
        unfold mkV at e; injection e with e
        simp only [List.cons.injEq, and_true] at e
        rw [e.2.2.2]; unfold sliceD; split <;> exact ⟨rfl, rfl⟩
      have o2 : l2.okc = true ∧ l2.cells = [l2] := by
        obtain ⟨k, i, s, n, l, e, _⟩ := isV_elim hv2.1
        unfold mkV at e; injection e with e
        simp only [List.cons.injEq, and_true] at e
        rw [e.2.2.2]; unfold sliceD; split <;> exact ⟨rfl, rfl⟩
      have w1 : IntKind.i64.wrap 1 = 1 := by decide
      have w2 : IntKind.i64.wrap 2 = 2 := by decide
      have E : eitherV (tstV (.agg [.int .i64 k1, .int .i64 i1, .str s1, l1], f)) (tstV (.agg [.int .i64 k2, .int .i64 i2, .str s2, l2], g)) d =
        if (f == 0) && (k1 == 1) && ((i1 == 1) == d) then (truV d, 0) else if (g == 0) && (k2 == 1) && ((i2 == 1) == d) then (truV d, 0) else
        if f != 0 then (zeroV, f) else if k1 != 1 then (zeroV, 6) else if g != 0 then (zeroV, g) else if k2 != 1 then (zeroV, 6) else (truV (!d), 0) := by
        have q : ∀ (k i : Int) (s : List UInt8) (l : D) (f : Int), tstV (.agg [.int .i64 k, .int .i64 i, .str s, l], f) = if (f == 0) && (k != 1) then (false, 6) else ((f == 0) && (i == 1), f) := fun k i s l f => by
          simp only [tstV, tstE]
          have v1 : vk (.agg [.int .i64 k, .int .i64 i, .str s, l]) = k := rfl
          have v2 : vi (.agg [.int .i64 k, .int .i64 i, .str s, l]) = i := rfl
          rw [v1, v2]
          split <;> simp_all
        rw [q, q]
        unfold eitherV
        by_cases hf : f = 0 <;> by_cases hg : g = 0 <;> by_cases hk : k1 = 1 <;> by_cases hk' : k2 = 1 <;> simp_all
        by_cases h1 : (i1 == 1) = d <;> by_cases h2 : (i2 == 1) = d <;> simp [h1, h2]
      rw [E]
      clear E
      unfold c42
      refine W_cut (XL_mono _) (I := fun s => s.t 0 = .bool d ∧ s.t 4 = .ptr H.length 0 ∧ s.t 5 = .ptr (H.length + 1) 0 ∧ s.t 6 = .ptr (H.length + 2) 0 ∧ s.H = H ++ [.row [.int .i64 k1, .int .i64 i1, .str s1, l1, .int .i64 k2, .int .i64 i2, .str s2, l2], .row [.int .i64 f, .int .i64 g], .row [.int .i64 0, .int .i64 0, .str [], .nils]] ∧ s.T = T) (by simp (config := { contextual := true, maxSteps := 10000000 }) only [e1, e2, o1.1, o1.2, o2.1, o2.2, go_sem, Nat.reduceAdd, Nat.reduceSub, Nat.reduceMul, Nat.reduceEqDiff, Nat.reduceLeDiff, Nat.reduceLT, Int.reduceToNat, Int.reduceLE, Int.reduceLT, Int.reduceEq, Int.reduceNe, Int.reduceBEq, Int.reduceBNe, Nat.reduceBEq, Nat.reduceBNe, ↓reduceIte, reduceCtorEq, ↓reduceDIte, W_draw]) ?_
      rintro ⟨t', B, T'⟩ ⟨r0, r4, r5, r6, rfl, rfl⟩
      simp only at r0 r4 r5 r6
      refine W_cut (XL_mono _) (I := fun s => s.t 0 = .bool d ∧ s.t 4 = .ptr H.length 0 ∧ s.t 5 = .ptr (H.length + 1) 0 ∧ s.t 6 = .ptr (H.length + 2) 0 ∧ s.H = H ++ [.row [.int .i64 k1, .int .i64 i1, .str s1, l1, .int .i64 k2, .int .i64 i2, .str s2, l2], .row [.int .i64 f, .int .i64 g], .row [.int .i64 0, .int .i64 0, .str [], .nils]] ∧ s.T = T' ∧ ((f == 0) && (k1 == 1) && ((i1 == 1) == d)) = false ∧ ((g == 0) && (k2 == 1) && ((i2 == 1) == d)) = false) ?_ ?_
      · simp (config := { contextual := true, maxSteps := 10000000 }) only [r0, go_sem, Nat.reduceAdd, Nat.reduceSub, Nat.reduceMul, Nat.reduceEqDiff, Nat.reduceLeDiff, Nat.reduceLT, Int.reduceToNat, Int.reduceLE, Int.reduceLT, Int.reduceEq, Int.reduceNe, Int.reduceBEq, Int.reduceBNe, Nat.reduceBEq, Nat.reduceBNe, ↓reduceIte, reduceCtorEq, ↓reduceDIte, W_draw]
        refine W_unr 3 ?_ (XL_mono _)
        simp (config := { contextual := true, maxSteps := 10000000 }) only [unr_s, r0, r4, r5, r6, w1, w2, Int.reduceAdd, e1, e2, o1.1, o1.2, o2.1, o2.2, φtruR, truV, tupV, zeroV, go_sem, Nat.reduceAdd, Nat.reduceSub, Nat.reduceMul, Nat.reduceEqDiff, Nat.reduceLeDiff, Nat.reduceLT, Int.reduceToNat, Int.reduceLE, Int.reduceLT, Int.reduceEq, Int.reduceNe, Int.reduceBEq, Int.reduceBNe, Nat.reduceBEq, Nat.reduceBNe, ↓reduceIte, reduceCtorEq, ↓reduceDIte, W_draw]
        (all_goals ((repeat' (first | apply And.intro | intro _)) <;> (first | rfl | omega | (simp_all; done) | grind)))
      rintro ⟨t', B, T'⟩ ⟨r0, r4, r5, r6, rfl, rfl, c1, c2⟩
      simp only at r0 r4 r5 r6
      rw [if_neg (by rw [c1]; decide), if_neg (by rw [c2]; decide)]
      simp (config := { contextual := true, maxSteps := 10000000 }) only [r0, go_sem, Nat.reduceAdd, Nat.reduceSub, Nat.reduceMul, Nat.reduceEqDiff, Nat.reduceLeDiff, Nat.reduceLT, Int.reduceToNat, Int.reduceLE, Int.reduceLT, Int.reduceEq, Int.reduceNe, Int.reduceBEq, Int.reduceBNe, Nat.reduceBEq, Nat.reduceBNe, ↓reduceIte, reduceCtorEq, ↓reduceDIte, W_draw]
      refine W_unr 3 ?_ (XL_mono _)
      simp (config := { contextual := true, maxSteps := 10000000 }) only [unr_s, r0, r4, r5, r6, w1, w2, Int.reduceAdd, e1, e2, o1.1, o1.2, o2.1, o2.2, φtruR, truV, tupV, zeroV, go_sem, Nat.reduceAdd, Nat.reduceSub, Nat.reduceMul, Nat.reduceEqDiff, Nat.reduceLeDiff, Nat.reduceLT, Int.reduceToNat, Int.reduceLE, Int.reduceLT, Int.reduceEq, Int.reduceNe, Int.reduceBEq, Int.reduceBNe, Nat.reduceBEq, Nat.reduceBNe, ↓reduceIte, reduceCtorEq, ↓reduceDIte, W_draw]
      (all_goals ((repeat' (first | apply And.intro | intro _)) <;> (first | rfl | omega | (simp_all; done) | grind)))
    · cases h
  · cases h
end GP
set_option linter.unusedSimpArgs false
/- The reference's evaluation: an op with two values. -/
namespace GP
open Go Go.Proofs
set_option maxRecDepth 100000

theorem sum_fits {i1 i2 : Int} (h1 : -(2 ^ 63) ≤ i1 ∧ i1 < 2 ^ 63) (h2 : -(2 ^ 63) ≤ i2 ∧ i2 < 2 ^ 63) : sumB i1 i2 = decide (-(2 ^ 63) ≤ i1 + i2 ∧ i1 + i2 < 2 ^ 63) := by
  unfold sumB
  rw [i64_eq, Bool.eq_iff_iff]
  simp only [decide_eq_true_eq, Bool.or_eq_true, Bool.not_eq_true', beq_iff_eq, beq_eq_false_iff_ne, ne_eq, decide_eq_decide]
  split <;> omega
theorem less_fits {i1 i2 : Int} (h1 : -(2 ^ 63) ≤ i1 ∧ i1 < 2 ^ 63) (h2 : -(2 ^ 63) ≤ i2 ∧ i2 < 2 ^ 63) : lessB i1 i2 = decide (-(2 ^ 63) ≤ i1 - i2 ∧ i1 - i2 < 2 ^ 63) := by
  unfold lessB
  rw [i64_eq, Bool.eq_iff_iff]
  simp only [decide_eq_true_eq, Bool.or_eq_true, Bool.not_eq_true', beq_iff_eq, beq_eq_false_iff_ne, ne_eq, decide_eq_decide]
  split <;> omega
theorem add_sums {k1 i1 k2 i2 : Int} (h1 : -(2 ^ 63) ≤ i1 ∧ i1 < 2 ^ 63) (h2 : -(2 ^ 63) ≤ i2 ∧ i2 < 2 ^ 63) : addV true true k1 i1 k2 i2 = sumsR k1 i1 k2 i2 false := by
  have hw := sum_fits h1 h2
  have hw' : sumB i1 i2 = true → IntKind.i64.wrap (i1 + i2) = i1 + i2 := fun h => by rw [hw] at h; simp only [decide_eq_true_eq] at h; rw [i64_eq]; split <;> omega
  simp only [addV, sumsR, outN, outT, timeOk, kindR, sumN, ← hw, num, valV]
  generalize sumB i1 i2 = b at *
  cases b
  · simp; grind
  · rw [hw' rfl]; simp; grind
theorem sub_sums {k1 i1 k2 i2 : Int} (h1 : -(2 ^ 63) ≤ i1 ∧ i1 < 2 ^ 63) (h2 : -(2 ^ 63) ≤ i2 ∧ i2 < 2 ^ 63) : subV true true k1 i1 k2 i2 = sumsR k1 i1 k2 i2 true := by
  have hw := less_fits h1 h2
  have hw' : lessB i1 i2 = true → IntKind.i64.wrap (i1 - i2) = i1 - i2 := fun h => by rw [hw] at h; simp only [decide_eq_true_eq] at h; rw [i64_eq]; split <;> omega
  simp only [subV, sumsR, outN, outT, timeOk, kindR, sumN, if_true, ← hw, num, valV]
  generalize lessB i1 i2 = b at *
  cases b
  · simp; grind
  · rw [hw' rfl]; simp; grind
theorem prod_bound {i1 i2 : Int} (h1 : -(2 ^ 63) ≤ i1 ∧ i1 < 2 ^ 63) (h2 : -(2 ^ 63) ≤ i2 ∧ i2 < 2 ^ 63) : -(2 ^ 127) ≤ i1 * i2 ∧ i1 * i2 < 2 ^ 127 := by
  have a1 : 0 ≤ absI i1 ∧ absI i1 ≤ 2 ^ 63 := by unfold absI; split <;> omega
  have a2 : 0 ≤ absI i2 ∧ absI i2 ≤ 2 ^ 63 := by unfold absI; split <;> omega
  have h := Int.mul_le_mul a1.2 a2.2 a2.1 (by omega)
  rw [absI_mul] at h
  unfold absI at h
  split at h <;> omega

/-- Ops of two values. -/
def okOp (op : List UInt8) : Bool := good6 op || op == [43] || op == [45] || op == [42] || op == sIn
theorem el_of {bag : D} (h : formedB bag = true) (h5 : vk bag = 5) : ∀ e ∈ vl bag, one1 e = true := by
  unfold formedB at h
  rw [h5, if_neg (by decide)] at h
  split at h
  · cases h
  · exact el_one h
theorem in_ref {a b : D} (ha : formedB a = true) (hb : formedB b = true) (hk : (vk a == 0) = false) :
    inV a b = if (vk b != 5) || (vk a == 5) || (decide ((0 : Int) < (vl b).length) && (vk0 (vl b) != vk a)) then .tup [.bool false, .int .i64 6] else .tup [.bool ((vl b).any fun e => orderR e a == 0), .int .i64 0] := by
  unfold inV
  rw [ha, hb, if_neg (by decide), hk]
  rcases tf (vk b != 5) with h1 | h1
  · rw [if_pos (by rw [h1]; rfl), if_pos (by rw [h1]; rfl)]
  rcases tf (vk a == 5) with h2 | h2
  · rw [if_pos (by rw [h2]; simp), if_pos (by rw [h2]; simp)]
  rw [if_neg (by rw [h1, h2]; decide)]
  rcases tf (decide ((0 : Int) < (vl b).length) && (vk0 (vl b) != vk a)) with h3 | h3
  · rw [if_pos h3, if_pos (by rw [h3]; simp)]
  rw [if_neg (by rw [h3]; decide), if_neg (by rw [h1, h2, h3]; decide)]
  have h5 : vk b = 5 := by simpa using h1
  have ha5 : (vk a != 5) = true := by simp [bne, h2]
  have oa : one1 a = true := by
    unfold formedB at ha
    rw [if_pos ha5] at ha; exact ha
  have hel := el_of hb h5
  congr 3
  rw [Bool.eq_iff_iff]
  simp only [List.any_eq_true]
  have hs : ∀ e ∈ vl b, same0 e a = (orderR e a == 0) := fun e he => by
    have hk2 : vk a ≠ 5 := by simpa using ha5
    have h1 : orderR e a = singleD e a := by simp [orderR, hk2]
    rw [h1]
    simp only [same0, ord_single (hel e he) oa]
  constructor
  · rintro ⟨e, he, h1⟩; exact ⟨e, he, by rw [← hs e he]; exact h1⟩
  · rintro ⟨e, he, h1⟩; exact ⟨e, he, by rw [hs e he]; exact h1⟩
theorem cmp_ref {op : List UInt8} {a b : D} (ha : formedB a = true) (hb : formedB b = true) (hg : good6 op = true) :
    cmpV op a b = if wrongOp op (vk a) (vk b) then .tup [.bool false, .int .i64 6] else .tup [.bool (opR op (orderR a b)), .int .i64 0] := by
  unfold cmpV
  rw [ha, hb, hg, if_neg (by decide)]
  rw [order_same' ha hb, op_same (order_tri a b)]
/-- An op with two values, as the reference has it. -/
def pairR (op : List UInt8) (a b : D) : D × Int :=
  if (op == [43]) || (op == [45]) then unt (sumsR (vk a) (vi a) (vk b) (vi b) (op == [45])) else
  if op == [42] then (if (vk a != 2) || (vk b != 2) then (zeroV, 6) else if !(decide (-(2 ^ 63) ≤ vi a * vi b ∧ vi a * vi b < 2 ^ 63)) then (zeroV, 7) else (num (IntKind.i64.wrap (vi a * vi b)), 0)) else
  if op == sIn then (if (vk b != 5) || (vk a == 5) || (decide ((0 : Int) < (vl b).length) && (vk0 (vl b) != vk a)) then (zeroV, 6) else (truV ((vl b).any fun e => orderR e a == 0), 0)) else
  if wrongOp op (vk a) (vk b) then (zeroV, 6) else (truV (opR op (orderR a b)), 0)
theorem pair_two {op : List UInt8} {a b : D} (ra : isVr a) (rb : isVr b) (ha : formedB a = true) (hb : formedB b = true) (hk : (vk a == 0) = false) (ho : okOp op = true) : pairR op a b = twoV op a b := by
  unfold pairR twoV
  rw [ha, hb]
  rcases tf (op == [43]) with g1 | g1
  · have g2 : (op == [45]) = false := by
      have : op = [43] := by simpa using g1
      subst this; decide
    rw [if_pos (by rw [g1]; rfl), if_pos g1, add_sums ra.2 rb.2, g2]
  rw [if_neg (c := (op == [43]) = true) (by rw [g1]; decide)]
  rcases tf (op == [45]) with g2 | g2
  · rw [if_pos (by rw [g2]; simp), if_pos g2, sub_sums ra.2 rb.2, g2]
  rw [if_neg (by rw [g1, g2]; decide), if_neg (c := (op == [45]) = true) (by rw [g2]; decide)]
  rcases tf (op == [42]) with g3 | g3
  · rw [if_pos g3, if_pos g3]
    have em : mulV true true (vk a) (vi a) (vk b) (vi b) = if (vk a != 2) || (vk b != 2) then .tup [zeroV, .int .i64 6] else outN (IntKind.i64.wrap (vi a * vi b)) (inR (vi a * vi b)) := by
      unfold mulV; rw [if_neg (by decide)]
    rw [em]
    rcases tf ((vk a != 2) || (vk b != 2)) with h | h
    · rw [if_pos h, if_pos h]; rfl
    rw [if_neg (c := (vk a != 2 || vk b != 2) = true) (by rw [h]; decide), if_neg (c := (vk a != 2 || vk b != 2) = true) (by rw [h]; decide)]
    have q3 : inR (vi a * vi b) = decide (-(2 ^ 63) ≤ vi a * vi b ∧ vi a * vi b < 2 ^ 63) := by unfold inR; rw [Bool.eq_iff_iff]; simp
    rw [q3]
    rcases tf (decide (-(2 ^ 63) ≤ vi a * vi b ∧ vi a * vi b < 2 ^ 63)) with h2 | h2
    · rw [h2]; rfl
    · rw [h2]; rfl
  rw [if_neg (c := (op == [42]) = true) (by rw [g3]; decide), if_neg (c := (op == [42]) = true) (by rw [g3]; decide)]
  rcases tf (op == sIn) with g4 | g4
  · rw [if_pos g4, if_pos g4, in_ref ha hb hk]
    split
    · rfl
    · rfl
  rw [if_neg (c := (op == sIn) = true) (by rw [g4]; decide), if_neg (c := (op == sIn) = true) (by rw [g4]; decide)]
  have hg : good6 op = true := by
    unfold okOp at ho
    rw [g1, g2, g3, g4] at ho
    simpa using ho
  rw [cmp_ref ha hb hg]
  split
  · rfl
  · rfl
end GP
set_option linter.unusedSimpArgs false
/- The reference's pair. -/
namespace GP
open Go Go.Proofs
set_option maxRecDepth 100000

theorem sumsR_res (k1 i1 k2 i2 : Int) (m : Bool) : ∃ p, sumsR k1 i1 k2 i2 m = tupV p ∧ isRes p := by
  unfold sumsR
  split
  · exact ⟨(zeroV, 6), rfl, isVr_zero⟩
  split
  · exact ⟨(zeroV, 7), rfl, isVr_zero⟩
  · rename_i h
    simp only [Bool.or_eq_true, Bool.not_eq_true', decide_eq_false_iff_not, not_or, Decidable.not_not] at h
    exact ⟨(valV _ _, 0), rfl, isVr_val h.1.1 h.1.2⟩
theorem pairR_res (op : List UInt8) (a b : D) : isRes (pairR op a b) := by
  unfold pairR
  split
  · obtain ⟨p, e, h⟩ := sumsR_res (vk a) (vi a) (vk b) (vi b) (op == [45])
    rw [e]; exact h
  split
  · split
    · exact isVr_zero
    split
    · exact isVr_zero
    · have := wrap_rg (vi a * vi b); exact isVr_val this.1 this.2
  split
  · split
    · exact isVr_zero
    · exact isVr_tru _
  split
  · exact isVr_zero
  · exact isVr_tru _
open Classical in
noncomputable def φpair : List D → Option D
  | [.str op, a, b] => if isVr a ∧ isVr b then some (tupV (pairR op a b)) else none
  | _ => none
set_option maxHeartbeats 8000000 in
theorem ok45 : OkAt Try.prog 45 φpair := by
  refine ok_of (l := [(44, φSums), (64, φTimes), (63, φFits), (65, φOrderR), (43, φtruR), (66, φCompareR)]) (.cons ok44 (.cons ok64 (.cons ok63 (.cons ok65 (.cons ok43 (.cons ok66 .nil)))))) fn45 fun args r h => ?_
  unfold φpair at h
  split at h
  · rename_i op a b
    split at h
    · rename_i hv
      obtain ⟨ha, hb⟩ := hv
      injection h with h; subst h
      refine ⟨by simp, res_cl (pairR_res op a b), fun H T => ?_⟩
      have p1 : ∀ m, φSums [a, b, .bool m] = some (sumsR (vk a) (vi a) (vk b) (vi b) m) := fun m => by simp only [φSums]; rw [if_pos ⟨ha.1, hb.1, ha.2, hb.2⟩]
      have p2 : φTimes [.int .i64 (vi a), .int .i64 (vi b)] = some (wd (vi a * vi b)) := by simp only [φTimes]; rw [if_pos ⟨ha.2, hb.2⟩]
      have p3 := fits_wd (vi a * vi b) (prod_bound ha.2 hb.2).1 (prod_bound ha.2 hb.2).2
      have p4 : ∀ x, x.isV = true → φOrderR [x, a] = some (.int .i64 (orderR x a)) := fun x hx => by simp only [φOrderR]; rw [if_pos ⟨hx, ha.1⟩]
      have p5 : φCompareR [.str op, a, b] = some (if wrongOp op (vk a) (vk b) then .tup [.bool false, .int .i64 6] else .tup [.bool (opR op (orderR a b)), .int .i64 0]) := by simp only [φCompareR]; rw [if_pos ⟨ha.1, hb.1⟩]
      unfold pairR
      obtain ⟨⟨v1, f1⟩, q1, rs⟩ := sumsR_res (vk a) (vi a) (vk b) (vi b) (op == [45])
      have P1 := p1 (op == [45])
      rw [q1] at P1
      clear p1
      rw [q1, unt_tup]
      clear q1
      obtain ⟨v2, v3, v4, v5, v6, _⟩ := vOp (show isVr v1 from rs)
      obtain ⟨wx, hwx⟩ : ∃ z, wrongOp op (vk a) (vk b) = z := ⟨_, rfl⟩
      obtain ⟨ox, hox⟩ : ∃ z, opR op (orderR a b) = z := ⟨_, rfl⟩
      rw [hwx, hox] at p5
      rw [hwx, hox]
      clear hwx hox
      obtain ⟨oF, hoF⟩ : ∃ z : D → Int, (fun x => orderR x a) = z := ⟨_, rfl⟩
      have hoF' : ∀ x, orderR x a = oF x := fun x => congrFun hoF x
      simp only [hoF'] at p4 ⊢
      clear hoF hoF'
      obtain ⟨k1, i1, s1, n1, l1, rfl, _⟩ := isV_elim ha.1
      obtain ⟨k2, i2, s2, n2, l2, rfl, _, hl2, hV2⟩ := isV_elim hb.1
      have eL1 := (mkV_erase ha.1).1
      have eL2 := (mkV_erase hb.1).1
      simp only [vk_mk, vi_mk, vl_mk] at *
      simp only [mkV, tupV] at P1 p5
      have p4' : ∀ x, x.isV = true → φOrderR [x, .agg [.int .i64 k1, .int .i64 i1, .str s1, sliceD n1 l1]] = some (.int .i64 (oF x)) := p4
      simp only [wd] at p2 p3
      simp only [sIn]
      rcases tf (op == [43]) with g1 | g1
      · have g2 : (op == [45]) = false := by
          have : op = [43] := by simpa using g1
          subst this; decide
        rw [g2] at P1
        simp (config := { contextual := true, maxSteps := 10000000 }) only [c45, mkV, eL1, eL2, g1, g2, P1, tupV, v2, v3, v4, v5, v6, go_sem, Nat.reduceAdd, Nat.reduceSub, Nat.reduceMul, Nat.reduceEqDiff, Nat.reduceLeDiff, Nat.reduceLT, Int.reduceToNat, Int.reduceLE, Int.reduceLT, Int.reduceEq, Int.reduceNe, Int.reduceBEq, Int.reduceBNe, Nat.reduceBEq, Nat.reduceBNe, ↓reduceIte, reduceCtorEq, ↓reduceDIte, W_draw]
      rcases tf (op == [45]) with g2 | g2
      · rw [g2] at P1
        simp (config := { contextual := true, maxSteps := 10000000 }) only [c45, mkV, eL1, eL2, g1, g2, P1, tupV, v2, v3, v4, v5, v6, go_sem, Nat.reduceAdd, Nat.reduceSub, Nat.reduceMul, Nat.reduceEqDiff, Nat.reduceLeDiff, Nat.reduceLT, Int.reduceToNat, Int.reduceLE, Int.reduceLT, Int.reduceEq, Int.reduceNe, Int.reduceBEq, Int.reduceBNe, Nat.reduceBEq, Nat.reduceBNe, ↓reduceIte, reduceCtorEq, ↓reduceDIte, W_draw]
      rcases tf (op == [42]) with g3 | g3
      · obtain ⟨ok, hok⟩ : ∃ z, decide (-(2 ^ 63) ≤ i1 * i2 ∧ i1 * i2 < 2 ^ 63) = z := ⟨_, rfl⟩
        rw [hok] at p3
        rw [hok]
        rcases tf (k1 != 2) with h1 | h1
        · simp (config := { contextual := true, maxSteps := 10000000 }) only [c45, mkV, eL1, eL2, g1, g2, g3, h1, tupV, zeroV, go_sem, Nat.reduceAdd, Nat.reduceSub, Nat.reduceMul, Nat.reduceEqDiff, Nat.reduceLeDiff, Nat.reduceLT, Int.reduceToNat, Int.reduceLE, Int.reduceLT, Int.reduceEq, Int.reduceNe, Int.reduceBEq, Int.reduceBNe, Nat.reduceBEq, Nat.reduceBNe, ↓reduceIte, reduceCtorEq, ↓reduceDIte, W_draw]
        rcases tf (k2 != 2) with h2 | h2
        · simp (config := { contextual := true, maxSteps := 10000000 }) only [c45, mkV, eL1, eL2, g1, g2, g3, h1, h2, tupV, zeroV, go_sem, Nat.reduceAdd, Nat.reduceSub, Nat.reduceMul, Nat.reduceEqDiff, Nat.reduceLeDiff, Nat.reduceLT, Int.reduceToNat, Int.reduceLE, Int.reduceLT, Int.reduceEq, Int.reduceNe, Int.reduceBEq, Int.reduceBNe, Nat.reduceBEq, Nat.reduceBNe, ↓reduceIte, reduceCtorEq, ↓reduceDIte, W_draw]
        cases ok
        · simp (config := { contextual := true, maxSteps := 10000000 }) only [c45, mkV, eL1, eL2, g1, g2, g3, h1, h2, p2, p3, tupV, zeroV, num, go_sem, Nat.reduceAdd, Nat.reduceSub, Nat.reduceMul, Nat.reduceEqDiff, Nat.reduceLeDiff, Nat.reduceLT, Int.reduceToNat, Int.reduceLE, Int.reduceLT, Int.reduceEq, Int.reduceNe, Int.reduceBEq, Int.reduceBNe, Nat.reduceBEq, Nat.reduceBNe, ↓reduceIte, reduceCtorEq, ↓reduceDIte, W_draw]
        · simp (config := { contextual := true, maxSteps := 10000000 }) only [c45, mkV, eL1, eL2, g1, g2, g3, h1, h2, p2, p3, tupV, zeroV, num, go_sem, Nat.reduceAdd, Nat.reduceSub, Nat.reduceMul, Nat.reduceEqDiff, Nat.reduceLeDiff, Nat.reduceLT, Int.reduceToNat, Int.reduceLE, Int.reduceLT, Int.reduceEq, Int.reduceNe, Int.reduceBEq, Int.reduceBNe, Nat.reduceBEq, Nat.reduceBNe, ↓reduceIte, reduceCtorEq, ↓reduceDIte, W_draw]
      rcases tf (op == [105, 110]) with g4 | g4
      · rcases tf (k2 != 5) with h1 | h1
        · simp (config := { contextual := true, maxSteps := 10000000 }) only [c45, mkV, eL1, eL2, g1, g2, g3, g4, h1, tupV, zeroV, go_sem, Nat.reduceAdd, Nat.reduceSub, Nat.reduceMul, Nat.reduceEqDiff, Nat.reduceLeDiff, Nat.reduceLT, Int.reduceToNat, Int.reduceLE, Int.reduceLT, Int.reduceEq, Int.reduceNe, Int.reduceBEq, Int.reduceBNe, Nat.reduceBEq, Nat.reduceBNe, ↓reduceIte, reduceCtorEq, ↓reduceDIte, W_draw]
        rcases tf (k1 == 5) with h2 | h2
        · simp (config := { contextual := true, maxSteps := 10000000 }) only [c45, mkV, eL1, eL2, g1, g2, g3, g4, h1, h2, tupV, zeroV, go_sem, Nat.reduceAdd, Nat.reduceSub, Nat.reduceMul, Nat.reduceEqDiff, Nat.reduceLeDiff, Nat.reduceLT, Int.reduceToNat, Int.reduceLE, Int.reduceLT, Int.reduceEq, Int.reduceNe, Int.reduceBEq, Int.reduceBNe, Nat.reduceBEq, Nat.reduceBNe, ↓reduceIte, reduceCtorEq, ↓reduceDIte, W_draw]
        rcases tf (decide ((0 : Int) < l2.length)) with h3 | h3
        · obtain ⟨k0, i0, s0, n0, l0, e0, _⟩ := get_isV hV2 (show 0 < l2.length by simp at h3; omega)
          have fk := vk0_get e0
          rw [fk]
          rcases tf (k0 != k1) with h4 | h4
          · simp (config := { contextual := true, maxSteps := 10000000 }) only [c45, mkV, eL1, eL2, g1, g2, g3, g4, h1, h2, h3, h4, e0, tupV, zeroV, go_sem, Nat.reduceAdd, Nat.reduceSub, Nat.reduceMul, Nat.reduceEqDiff, Nat.reduceLeDiff, Nat.reduceLT, Int.reduceToNat, Int.reduceLE, Int.reduceLT, Int.reduceEq, Int.reduceNe, Int.reduceBEq, Int.reduceBNe, Nat.reduceBEq, Nat.reduceBNe, ↓reduceIte, reduceCtorEq, ↓reduceDIte, W_draw]
          simp (config := { contextual := true, maxSteps := 10000000 }) only [c45, mkV, eL1, eL2, g1, g2, g3, g4, h1, h2, h3, h4, e0, tupV, zeroV, go_sem, Nat.reduceAdd, Nat.reduceSub, Nat.reduceMul, Nat.reduceEqDiff, Nat.reduceLeDiff, Nat.reduceLT, Int.reduceToNat, Int.reduceLE, Int.reduceLT, Int.reduceEq, Int.reduceNe, Int.reduceBEq, Int.reduceBNe, Nat.reduceBEq, Nat.reduceBNe, ↓reduceIte, reduceCtorEq, ↓reduceDIte, W_draw]
          refine W_for (fun j s' => s'.t 4 = .ptr H.length 0 ∧ s'.t 5 = .ptr (H.length + 1) 0 ∧ s'.t 6 = .ptr (H.length + 2) 0 ∧ s'.t 11 = .int .i64 j ∧ s'.H = H ++ [.row [.int .i64 k1, .int .i64 i1, .str s1, sliceD n1 l1], .row [.int .i64 k2, .int .i64 i2, .str s2, sliceD n2 l2], .row [.int .i64 0, .int .i64 0, .str [], .nils], .row [.int .i64 0, .int .i64 0, .str [], .nils]] ∧ s'.T = T ∧ j ≤ l2.length ∧ (l2.take j).any (fun e => oF e == 0) = false) l2.length ⟨0, by simp [upd, argT]⟩ (fun i s h => h.2.2.2.2.2.2.1) ?_ (XL_mono _)
          rintro j ⟨t', B, T'⟩ ⟨r4, r5, r6, r11, rfl, rfl, hj, hc⟩
          simp only at r4 r5 r6 r11
          by_cases hj2 : j < l2.length
          · have d1 : decide ((j : Int) < l2.length) = true := by simpa using hj2
            obtain ⟨k3, i3, s3, n3, l3, e3, _⟩ := get_isV hV2 hj2
            have hx : (mkV k3 i3 s3 n3 l3).isV = true := hV2 _ (List.mem_of_getElem? e3)
            have px := p4' _ hx
            have eL3 := (mkV_erase hx).1
            have nx := fun hp => any_nx (p := fun e => oF e == 0) e3 hc hp
            have no := fun hp => any_yes (p := fun e => oF e == 0) e3 hp
            obtain ⟨o, ho⟩ : ∃ z, oF (mkV k3 i3 s3 n3 l3) = z := ⟨_, rfl⟩
            simp only [ho] at px nx no
            clear ho
            simp only [mkV] at px e3
            rcases tf (o == 0) with h5 | h5
            · have no := no h5
              simp (config := { contextual := true, maxSteps := 10000000 }) only [r4, r5, r6, r11, d1, e3, eL1, eL3, px, h5, no, φtruR, truV, tupV, zeroV, wrap_succ j (by omega), go_sem, Nat.reduceAdd, Nat.reduceSub, Nat.reduceMul, Nat.reduceEqDiff, Nat.reduceLeDiff, Nat.reduceLT, Int.reduceToNat, Int.reduceLE, Int.reduceLT, Int.reduceEq, Int.reduceNe, Int.reduceBEq, Int.reduceBNe, Nat.reduceBEq, Nat.reduceBNe, ↓reduceIte, reduceCtorEq, ↓reduceDIte, W_draw]
            · have nx := nx h5
              simp (config := { contextual := true, maxSteps := 10000000 }) only [r4, r5, r6, r11, d1, e3, eL1, eL3, px, h5, φtruR, truV, tupV, zeroV, wrap_succ j (by omega), go_sem, Nat.reduceAdd, Nat.reduceSub, Nat.reduceMul, Nat.reduceEqDiff, Nat.reduceLeDiff, Nat.reduceLT, Int.reduceToNat, Int.reduceLE, Int.reduceLT, Int.reduceEq, Int.reduceNe, Int.reduceBEq, Int.reduceBNe, Nat.reduceBEq, Nat.reduceBNe, ↓reduceIte, reduceCtorEq, ↓reduceDIte, W_draw]
              exact ⟨by omega, nx⟩
          · have d1 : decide ((j : Int) < l2.length) = false := by simpa using hj2
            have hA : l2.any (fun e => oF e == 0) = false := by
              have : j = l2.length := by omega
              subst this; rw [List.take_length] at hc; exact hc
            simp (config := { contextual := true, maxSteps := 10000000 }) only [r4, r5, r6, r11, d1, hA, φtruR, truV, tupV, zeroV, go_sem, Nat.reduceAdd, Nat.reduceSub, Nat.reduceMul, Nat.reduceEqDiff, Nat.reduceLeDiff, Nat.reduceLT, Int.reduceToNat, Int.reduceLE, Int.reduceLT, Int.reduceEq, Int.reduceNe, Int.reduceBEq, Int.reduceBNe, Nat.reduceBEq, Nat.reduceBNe, ↓reduceIte, reduceCtorEq, ↓reduceDIte, W_draw]
        · have hl0 : l2 = [] := by
            have : ¬ ((0 : Int) < l2.length) := by simpa using h3
            have : l2.length = 0 := by omega
            exact List.length_eq_zero_iff.1 this
          subst hl0
          simp (config := { contextual := true, maxSteps := 10000000 }) only [c45, mkV, eL1, eL2, g1, g2, g3, g4, h1, h2, h3, tupV, zeroV, go_sem, Nat.reduceAdd, Nat.reduceSub, Nat.reduceMul, Nat.reduceEqDiff, Nat.reduceLeDiff, Nat.reduceLT, Int.reduceToNat, Int.reduceLE, Int.reduceLT, Int.reduceEq, Int.reduceNe, Int.reduceBEq, Int.reduceBNe, Nat.reduceBEq, Nat.reduceBNe, ↓reduceIte, reduceCtorEq, ↓reduceDIte, W_draw]
          refine W_unr 1 ?_ (XL_mono _)
          have d1 : decide ((0 : Int) < 0) = false := by decide
          simp (config := { contextual := true, maxSteps := 10000000 }) only [unr_s, eL1, φtruR, truV, tupV, zeroV, d1, go_sem, Nat.reduceAdd, Nat.reduceSub, Nat.reduceMul, Nat.reduceEqDiff, Nat.reduceLeDiff, Nat.reduceLT, Int.reduceToNat, Int.reduceLE, Int.reduceLT, Int.reduceEq, Int.reduceNe, Int.reduceBEq, Int.reduceBNe, Nat.reduceBEq, Nat.reduceBNe, ↓reduceIte, reduceCtorEq, ↓reduceDIte, W_draw]
          try rfl
      · cases wx
        · rw [if_neg (by decide)] at p5
          simp (config := { contextual := true, maxSteps := 10000000 }) only [c45, mkV, eL1, eL2, g1, g2, g3, g4, p5, tupV, zeroV, φtruR, truV, go_sem, Nat.reduceAdd, Nat.reduceSub, Nat.reduceMul, Nat.reduceEqDiff, Nat.reduceLeDiff, Nat.reduceLT, Int.reduceToNat, Int.reduceLE, Int.reduceLT, Int.reduceEq, Int.reduceNe, Int.reduceBEq, Int.reduceBNe, Nat.reduceBEq, Nat.reduceBNe, ↓reduceIte, reduceCtorEq, ↓reduceDIte, W_draw]
        · rw [if_pos rfl] at p5
          simp (config := { contextual := true, maxSteps := 10000000 }) only [c45, mkV, eL1, eL2, g1, g2, g3, g4, p5, tupV, zeroV, φtruR, truV, go_sem, Nat.reduceAdd, Nat.reduceSub, Nat.reduceMul, Nat.reduceEqDiff, Nat.reduceLeDiff, Nat.reduceLT, Int.reduceToNat, Int.reduceLE, Int.reduceLT, Int.reduceEq, Int.reduceNe, Int.reduceBEq, Int.reduceBNe, Nat.reduceBEq, Nat.reduceBNe, ↓reduceIte, reduceCtorEq, ↓reduceDIte, W_draw]
    · cases h
  · cases h
end GP
set_option linter.unusedSimpArgs false
/- The reference's evaluation: what is formed. -/
namespace GP
open Go Go.Proofs
set_option maxRecDepth 100000
set_option maxHeartbeats 8000000 in
theorem ok25 : ∀ n, OkAt Try.prog 25 (φfm n)
  | 0 => fun args r h => by
    unfold φfm at h
    split at h
    · split at h
      · rename_i h'; exact h'.elim
      · cases h
    · cases h
  | n + 1 => by
    refine ok_of (l := [(18, φformed), (25, φfm n)]) (.cons ok18 (.cons (ok25 n) .nil)) fn25 fun args r h => ?_
    unfold φfm at h
    split at h
    · rename_i e
      split at h
      · rename_i he
        injection h with h; subst h
        refine ⟨by simp, by simp [D.cl], fun H T => ?_⟩
        obtain ⟨op, k, i, t, nl, l, who, name, m, ps, rfl, h1, h2, h3, h4, h5, h6, eL, eP⟩ := isE_elim he
        have h6 : ∀ x ∈ ps, isE n x := h6
        rw [fmD_good]
        unfold goodE
        simp only [eps_mk, eop_mk, eV_mk]
        have pv : φformed [mkV k i t nl l] = some (.bool (formedB (mkV k i t nl l))) := by simp only [φformed]; rw [if_pos h4.1]
        have hlit : litB (mkV k i t nl l) = (formedB (mkV k i t nl l) && (k != 0) && !((k == 5) && ((l.length : Int) == 0))) := by unfold litB; rw [vk_mk, vl_mk]
        rw [hlit]
        obtain ⟨fb, hq⟩ : ∃ z, formedB (mkV k i t nl l) = z := ⟨_, rfl⟩
        simp only [hq] at pv ⊢
        clear hq hlit
        simp only [mkV] at pv
        have R : (Ob.row [.str op, .int .i64 k, .int .i64 i, .str t, sliceD nl l, .str who, .str name, sliceD m ps]) = (Ob.row [.str op, .int .i64 k, .int .i64 i, .str t, sliceD nl l, .str who, .str name, sliceD m ps]) := rfl
        unfold c25
        refine W_cut (XL_mono _) (I := fun s => s.t 1 = .ptr H.length 0 ∧ s.H = H ++ [.row [.str op, .int .i64 k, .int .i64 i, .str t, sliceD nl l, .str who, .str name, sliceD m ps]] ∧ s.T = T) (by simp (config := { contextual := true, maxSteps := 10000000 }) only [mkE, eL, eP, go_sem, Nat.reduceAdd, Nat.reduceSub, Nat.reduceMul, Nat.reduceEqDiff, Nat.reduceLeDiff, Nat.reduceLT, Int.reduceToNat, Int.reduceLE, Int.reduceLT, Int.reduceEq, Int.reduceNe, Int.reduceBEq, Int.reduceBNe, Nat.reduceBEq, Nat.reduceBNe, ↓reduceIte, reduceCtorEq, ↓reduceDIte, W_draw]) ?_
        rintro ⟨t', B, T'⟩ ⟨r1, rfl, rfl⟩
        simp only at r1
        refine W_cut (XL_mono _) (I := fun s => s.t 1 = .ptr H.length 0 ∧ s.t 3 = .int .i64 (-1) ∧ s.H = H ++ [.row [.str op, .int .i64 k, .int .i64 i, .str t, sliceD nl l, .str who, .str name, sliceD m ps]] ∧ s.T = T') (by simp (config := { contextual := true, maxSteps := 10000000 }) only [r1, go_sem, Nat.reduceAdd, Nat.reduceSub, Nat.reduceMul, Nat.reduceEqDiff, Nat.reduceLeDiff, Nat.reduceLT, Int.reduceToNat, Int.reduceLE, Int.reduceLT, Int.reduceEq, Int.reduceNe, Int.reduceBEq, Int.reduceBNe, Nat.reduceBEq, Nat.reduceBNe, ↓reduceIte, reduceCtorEq, ↓reduceDIte, W_draw]) ?_
        rintro ⟨t', B, T'⟩ ⟨r1, r3, rfl, rfl⟩
        simp only at r1 r3
        refine W_cut (XL_mono _) (I := fun s => s.t 1 = .ptr H.length 0 ∧ s.t 3 = .int .i64 (arityI op) ∧ (!(op == sVal) || (fb && (k != 0) && !((k == 5) && ((l.length : Int) == 0)))) = true ∧ s.H = H ++ [.row [.str op, .int .i64 k, .int .i64 i, .str t, sliceD nl l, .str who, .str name, sliceD m ps]] ∧ s.T = T') ?_ ?_
        · obtain ⟨ar, har⟩ : ∃ z, arityI op = z := ⟨_, rfl⟩
          have A0 : ∀ w, (op == w) = true → arity0.any (w == ·) = true → ar = 0 := fun w h h' => by
            have : op = w := by simpa using h
            subst this; rw [← har]; unfold arityI; rw [if_pos h']
          have A1 : ∀ w, (op == w) = true → arity0.any (w == ·) = false → arity1.any (w == ·) = true → ar = 1 := fun w h h0 h' => by
            have : op = w := by simpa using h
            subst this; rw [← har]; unfold arityI; rw [if_neg (by rw [h0]; decide), if_pos h']
          have A2 : ∀ w, (op == w) = true → arity0.any (w == ·) = false → arity1.any (w == ·) = false → arity2.any (w == ·) = true → ar = 2 := fun w h h0 h1 h' => by
            have : op = w := by simpa using h
            subst this; rw [← har]; unfold arityI; rw [if_neg (by rw [h0]; decide), if_neg (by rw [h1]; decide), if_pos h']
          have A3 : arity0.any (op == ·) = false → arity1.any (op == ·) = false → arity2.any (op == ·) = false → ar = -1 := fun h0 h1 h' => by
            rw [← har]; unfold arityI; rw [if_neg (by rw [h0]; decide), if_neg (by rw [h1]; decide), if_neg (by rw [h']; decide)]
          simp only [har, sVal]
          clear har
          rcases tf (op == [118, 97, 108, 117, 101]) with ho | ho
          · have hA : ar = 0 := A0 _ ho (by decide)
            rcases tf fb with rfl | rfl
            · rcases tf (k == 0) with hk | hk
              · have hk' : (k != 0) = false := by simp [bne, hk]
                simp (config := { contextual := true, maxSteps := 10000000 }) only [r1, r3, ho, eL, pv, hk, hk', hA, go_sem, Nat.reduceAdd, Nat.reduceSub, Nat.reduceMul, Nat.reduceEqDiff, Nat.reduceLeDiff, Nat.reduceLT, Int.reduceToNat, Int.reduceLE, Int.reduceLT, Int.reduceEq, Int.reduceNe, Int.reduceBEq, Int.reduceBNe, Nat.reduceBEq, Nat.reduceBNe, ↓reduceIte, reduceCtorEq, ↓reduceDIte, W_draw]
              · have hk' : (k != 0) = true := by simp [bne, hk]
                rcases tf (k == 5) with h5 | h5
                · rcases tf ((l.length : Int) == 0) with hl | hl
                  · simp (config := { contextual := true, maxSteps := 10000000 }) only [r1, r3, ho, eL, pv, hk, hk', h5, hl, hA, go_sem, Nat.reduceAdd, Nat.reduceSub, Nat.reduceMul, Nat.reduceEqDiff, Nat.reduceLeDiff, Nat.reduceLT, Int.reduceToNat, Int.reduceLE, Int.reduceLT, Int.reduceEq, Int.reduceNe, Int.reduceBEq, Int.reduceBNe, Nat.reduceBEq, Nat.reduceBNe, ↓reduceIte, reduceCtorEq, ↓reduceDIte, W_draw]
                  · simp (config := { contextual := true, maxSteps := 10000000 }) only [r1, r3, ho, eL, pv, hk, hk', h5, hl, hA, go_sem, Nat.reduceAdd, Nat.reduceSub, Nat.reduceMul, Nat.reduceEqDiff, Nat.reduceLeDiff, Nat.reduceLT, Int.reduceToNat, Int.reduceLE, Int.reduceLT, Int.reduceEq, Int.reduceNe, Int.reduceBEq, Int.reduceBNe, Nat.reduceBEq, Nat.reduceBNe, ↓reduceIte, reduceCtorEq, ↓reduceDIte, W_draw]
                · simp (config := { contextual := true, maxSteps := 10000000 }) only [r1, r3, ho, eL, pv, hk, hk', h5, hA, go_sem, Nat.reduceAdd, Nat.reduceSub, Nat.reduceMul, Nat.reduceEqDiff, Nat.reduceLeDiff, Nat.reduceLT, Int.reduceToNat, Int.reduceLE, Int.reduceLT, Int.reduceEq, Int.reduceNe, Int.reduceBEq, Int.reduceBNe, Nat.reduceBEq, Nat.reduceBNe, ↓reduceIte, reduceCtorEq, ↓reduceDIte, W_draw]
            · simp (config := { contextual := true, maxSteps := 10000000 }) only [r1, r3, ho, eL, pv, hA, go_sem, Nat.reduceAdd, Nat.reduceSub, Nat.reduceMul, Nat.reduceEqDiff, Nat.reduceLeDiff, Nat.reduceLT, Int.reduceToNat, Int.reduceLE, Int.reduceLT, Int.reduceEq, Int.reduceNe, Int.reduceBEq, Int.reduceBNe, Nat.reduceBEq, Nat.reduceBNe, ↓reduceIte, reduceCtorEq, ↓reduceDIte, W_draw]
          rcases tf (op == [110, 111, 119]) with g1 | g1
          · have hA : ar = 0 := A0 _ g1 (by decide)
            simp (config := { contextual := true, maxSteps := 10000000 }) only [r1, r3, ho, g1, hA, go_sem, Nat.reduceAdd, Nat.reduceSub, Nat.reduceMul, Nat.reduceEqDiff, Nat.reduceLeDiff, Nat.reduceLT, Int.reduceToNat, Int.reduceLE, Int.reduceLT, Int.reduceEq, Int.reduceNe, Int.reduceBEq, Int.reduceBNe, Nat.reduceBEq, Nat.reduceBNe, ↓reduceIte, reduceCtorEq, ↓reduceDIte, W_draw]
          rcases tf (op == [97, 116, 116, 114]) with g2 | g2
          · have hA : ar = 0 := A0 _ g2 (by decide)
            simp (config := { contextual := true, maxSteps := 10000000 }) only [r1, r3, ho, g1, g2, hA, go_sem, Nat.reduceAdd, Nat.reduceSub, Nat.reduceMul, Nat.reduceEqDiff, Nat.reduceLeDiff, Nat.reduceLT, Int.reduceToNat, Int.reduceLE, Int.reduceLT, Int.reduceEq, Int.reduceNe, Int.reduceBEq, Int.reduceBNe, Nat.reduceBEq, Nat.reduceBNe, ↓reduceIte, reduceCtorEq, ↓reduceDIte, W_draw]
          rcases tf (op == [104, 97, 115]) with g3 | g3
          · have hA : ar = 0 := A0 _ g3 (by decide)
            simp (config := { contextual := true, maxSteps := 10000000 }) only [r1, r3, ho, g1, g2, g3, hA, go_sem, Nat.reduceAdd, Nat.reduceSub, Nat.reduceMul, Nat.reduceEqDiff, Nat.reduceLeDiff, Nat.reduceLT, Int.reduceToNat, Int.reduceLE, Int.reduceLT, Int.reduceEq, Int.reduceNe, Int.reduceBEq, Int.reduceBNe, Nat.reduceBEq, Nat.reduceBNe, ↓reduceIte, reduceCtorEq, ↓reduceDIte, W_draw]
          rcases tf (op == [114, 111, 108, 101]) with g4 | g4
          · have hA : ar = 0 := A0 _ g4 (by decide)
            simp (config := { contextual := true, maxSteps := 10000000 }) only [r1, r3, ho, g1, g2, g3, g4, hA, go_sem, Nat.reduceAdd, Nat.reduceSub, Nat.reduceMul, Nat.reduceEqDiff, Nat.reduceLeDiff, Nat.reduceLT, Int.reduceToNat, Int.reduceLE, Int.reduceLT, Int.reduceEq, Int.reduceNe, Int.reduceBEq, Int.reduceBNe, Nat.reduceBEq, Nat.reduceBNe, ↓reduceIte, reduceCtorEq, ↓reduceDIte, W_draw]
          rcases tf (op == [110, 111, 116]) with g5 | g5
          · have hA : ar = 1 := A1 _ g5 (by decide) (by decide)
            simp (config := { contextual := true, maxSteps := 10000000 }) only [r1, r3, ho, g1, g2, g3, g4, g5, hA, go_sem, Nat.reduceAdd, Nat.reduceSub, Nat.reduceMul, Nat.reduceEqDiff, Nat.reduceLeDiff, Nat.reduceLT, Int.reduceToNat, Int.reduceLE, Int.reduceLT, Int.reduceEq, Int.reduceNe, Int.reduceBEq, Int.reduceBNe, Nat.reduceBEq, Nat.reduceBNe, ↓reduceIte, reduceCtorEq, ↓reduceDIte, W_draw]
          rcases tf (op == [110, 101, 103]) with g6 | g6
          · have hA : ar = 1 := A1 _ g6 (by decide) (by decide)
            simp (config := { contextual := true, maxSteps := 10000000 }) only [r1, r3, ho, g1, g2, g3, g4, g5, g6, hA, go_sem, Nat.reduceAdd, Nat.reduceSub, Nat.reduceMul, Nat.reduceEqDiff, Nat.reduceLeDiff, Nat.reduceLT, Int.reduceToNat, Int.reduceLE, Int.reduceLT, Int.reduceEq, Int.reduceNe, Int.reduceBEq, Int.reduceBNe, Nat.reduceBEq, Nat.reduceBNe, ↓reduceIte, reduceCtorEq, ↓reduceDIte, W_draw]
          rcases tf (op == [115, 105, 122, 101]) with g7 | g7
          · have hA : ar = 1 := A1 _ g7 (by decide) (by decide)
            simp (config := { contextual := true, maxSteps := 10000000 }) only [r1, r3, ho, g1, g2, g3, g4, g5, g6, g7, hA, go_sem, Nat.reduceAdd, Nat.reduceSub, Nat.reduceMul, Nat.reduceEqDiff, Nat.reduceLeDiff, Nat.reduceLT, Int.reduceToNat, Int.reduceLE, Int.reduceLT, Int.reduceEq, Int.reduceNe, Int.reduceBEq, Int.reduceBNe, Nat.reduceBEq, Nat.reduceBNe, ↓reduceIte, reduceCtorEq, ↓reduceDIte, W_draw]
          rcases tf (op == [97, 110, 100]) with g8 | g8
          · have hA : ar = 2 := A2 _ g8 (by decide) (by decide) (by decide)
            simp (config := { contextual := true, maxSteps := 10000000 }) only [r1, r3, ho, g1, g2, g3, g4, g5, g6, g7, g8, hA, go_sem, Nat.reduceAdd, Nat.reduceSub, Nat.reduceMul, Nat.reduceEqDiff, Nat.reduceLeDiff, Nat.reduceLT, Int.reduceToNat, Int.reduceLE, Int.reduceLT, Int.reduceEq, Int.reduceNe, Int.reduceBEq, Int.reduceBNe, Nat.reduceBEq, Nat.reduceBNe, ↓reduceIte, reduceCtorEq, ↓reduceDIte, W_draw]
          rcases tf (op == [111, 114]) with g9 | g9
          · have hA : ar = 2 := A2 _ g9 (by decide) (by decide) (by decide)
            simp (config := { contextual := true, maxSteps := 10000000 }) only [r1, r3, ho, g1, g2, g3, g4, g5, g6, g7, g8, g9, hA, go_sem, Nat.reduceAdd, Nat.reduceSub, Nat.reduceMul, Nat.reduceEqDiff, Nat.reduceLeDiff, Nat.reduceLT, Int.reduceToNat, Int.reduceLE, Int.reduceLT, Int.reduceEq, Int.reduceNe, Int.reduceBEq, Int.reduceBNe, Nat.reduceBEq, Nat.reduceBNe, ↓reduceIte, reduceCtorEq, ↓reduceDIte, W_draw]
          rcases tf (op == [43]) with g10 | g10
          · have hA : ar = 2 := A2 _ g10 (by decide) (by decide) (by decide)
            simp (config := { contextual := true, maxSteps := 10000000 }) only [r1, r3, ho, g1, g2, g3, g4, g5, g6, g7, g8, g9, g10, hA, go_sem, Nat.reduceAdd, Nat.reduceSub, Nat.reduceMul, Nat.reduceEqDiff, Nat.reduceLeDiff, Nat.reduceLT, Int.reduceToNat, Int.reduceLE, Int.reduceLT, Int.reduceEq, Int.reduceNe, Int.reduceBEq, Int.reduceBNe, Nat.reduceBEq, Nat.reduceBNe, ↓reduceIte, reduceCtorEq, ↓reduceDIte, W_draw]
          rcases tf (op == [45]) with g11 | g11
          · have hA : ar = 2 := A2 _ g11 (by decide) (by decide) (by decide)
            simp (config := { contextual := true, maxSteps := 10000000 }) only [r1, r3, ho, g1, g2, g3, g4, g5, g6, g7, g8, g9, g10, g11, hA, go_sem, Nat.reduceAdd, Nat.reduceSub, Nat.reduceMul, Nat.reduceEqDiff, Nat.reduceLeDiff, Nat.reduceLT, Int.reduceToNat, Int.reduceLE, Int.reduceLT, Int.reduceEq, Int.reduceNe, Int.reduceBEq, Int.reduceBNe, Nat.reduceBEq, Nat.reduceBNe, ↓reduceIte, reduceCtorEq, ↓reduceDIte, W_draw]
          rcases tf (op == [42]) with g12 | g12
          · have hA : ar = 2 := A2 _ g12 (by decide) (by decide) (by decide)
            simp (config := { contextual := true, maxSteps := 10000000 }) only [r1, r3, ho, g1, g2, g3, g4, g5, g6, g7, g8, g9, g10, g11, g12, hA, go_sem, Nat.reduceAdd, Nat.reduceSub, Nat.reduceMul, Nat.reduceEqDiff, Nat.reduceLeDiff, Nat.reduceLT, Int.reduceToNat, Int.reduceLE, Int.reduceLT, Int.reduceEq, Int.reduceNe, Int.reduceBEq, Int.reduceBNe, Nat.reduceBEq, Nat.reduceBNe, ↓reduceIte, reduceCtorEq, ↓reduceDIte, W_draw]
          rcases tf (op == [61, 61]) with g13 | g13
          · have hA : ar = 2 := A2 _ g13 (by decide) (by decide) (by decide)
            simp (config := { contextual := true, maxSteps := 10000000 }) only [r1, r3, ho, g1, g2, g3, g4, g5, g6, g7, g8, g9, g10, g11, g12, g13, hA, go_sem, Nat.reduceAdd, Nat.reduceSub, Nat.reduceMul, Nat.reduceEqDiff, Nat.reduceLeDiff, Nat.reduceLT, Int.reduceToNat, Int.reduceLE, Int.reduceLT, Int.reduceEq, Int.reduceNe, Int.reduceBEq, Int.reduceBNe, Nat.reduceBEq, Nat.reduceBNe, ↓reduceIte, reduceCtorEq, ↓reduceDIte, W_draw]
          rcases tf (op == [33, 61]) with g14 | g14
          · have hA : ar = 2 := A2 _ g14 (by decide) (by decide) (by decide)
            simp (config := { contextual := true, maxSteps := 10000000 }) only [r1, r3, ho, g1, g2, g3, g4, g5, g6, g7, g8, g9, g10, g11, g12, g13, g14, hA, go_sem, Nat.reduceAdd, Nat.reduceSub, Nat.reduceMul, Nat.reduceEqDiff, Nat.reduceLeDiff, Nat.reduceLT, Int.reduceToNat, Int.reduceLE, Int.reduceLT, Int.reduceEq, Int.reduceNe, Int.reduceBEq, Int.reduceBNe, Nat.reduceBEq, Nat.reduceBNe, ↓reduceIte, reduceCtorEq, ↓reduceDIte, W_draw]
          rcases tf (op == [60]) with g15 | g15
          · have hA : ar = 2 := A2 _ g15 (by decide) (by decide) (by decide)
            simp (config := { contextual := true, maxSteps := 10000000 }) only [r1, r3, ho, g1, g2, g3, g4, g5, g6, g7, g8, g9, g10, g11, g12, g13, g14, g15, hA, go_sem, Nat.reduceAdd, Nat.reduceSub, Nat.reduceMul, Nat.reduceEqDiff, Nat.reduceLeDiff, Nat.reduceLT, Int.reduceToNat, Int.reduceLE, Int.reduceLT, Int.reduceEq, Int.reduceNe, Int.reduceBEq, Int.reduceBNe, Nat.reduceBEq, Nat.reduceBNe, ↓reduceIte, reduceCtorEq, ↓reduceDIte, W_draw]
          rcases tf (op == [60, 61]) with g16 | g16
          · have hA : ar = 2 := A2 _ g16 (by decide) (by decide) (by decide)
            simp (config := { contextual := true, maxSteps := 10000000 }) only [r1, r3, ho, g1, g2, g3, g4, g5, g6, g7, g8, g9, g10, g11, g12, g13, g14, g15, g16, hA, go_sem, Nat.reduceAdd, Nat.reduceSub, Nat.reduceMul, Nat.reduceEqDiff, Nat.reduceLeDiff, Nat.reduceLT, Int.reduceToNat, Int.reduceLE, Int.reduceLT, Int.reduceEq, Int.reduceNe, Int.reduceBEq, Int.reduceBNe, Nat.reduceBEq, Nat.reduceBNe, ↓reduceIte, reduceCtorEq, ↓reduceDIte, W_draw]
          rcases tf (op == [62]) with g17 | g17
          · have hA : ar = 2 := A2 _ g17 (by decide) (by decide) (by decide)
            simp (config := { contextual := true, maxSteps := 10000000 }) only [r1, r3, ho, g1, g2, g3, g4, g5, g6, g7, g8, g9, g10, g11, g12, g13, g14, g15, g16, g17, hA, go_sem, Nat.reduceAdd, Nat.reduceSub, Nat.reduceMul, Nat.reduceEqDiff, Nat.reduceLeDiff, Nat.reduceLT, Int.reduceToNat, Int.reduceLE, Int.reduceLT, Int.reduceEq, Int.reduceNe, Int.reduceBEq, Int.reduceBNe, Nat.reduceBEq, Nat.reduceBNe, ↓reduceIte, reduceCtorEq, ↓reduceDIte, W_draw]
          rcases tf (op == [62, 61]) with g18 | g18
          · have hA : ar = 2 := A2 _ g18 (by decide) (by decide) (by decide)
            simp (config := { contextual := true, maxSteps := 10000000 }) only [r1, r3, ho, g1, g2, g3, g4, g5, g6, g7, g8, g9, g10, g11, g12, g13, g14, g15, g16, g17, g18, hA, go_sem, Nat.reduceAdd, Nat.reduceSub, Nat.reduceMul, Nat.reduceEqDiff, Nat.reduceLeDiff, Nat.reduceLT, Int.reduceToNat, Int.reduceLE, Int.reduceLT, Int.reduceEq, Int.reduceNe, Int.reduceBEq, Int.reduceBNe, Nat.reduceBEq, Nat.reduceBNe, ↓reduceIte, reduceCtorEq, ↓reduceDIte, W_draw]
          rcases tf (op == [105, 110]) with g19 | g19
          · have hA : ar = 2 := A2 _ g19 (by decide) (by decide) (by decide)
            simp (config := { contextual := true, maxSteps := 10000000 }) only [r1, r3, ho, g1, g2, g3, g4, g5, g6, g7, g8, g9, g10, g11, g12, g13, g14, g15, g16, g17, g18, g19, hA, go_sem, Nat.reduceAdd, Nat.reduceSub, Nat.reduceMul, Nat.reduceEqDiff, Nat.reduceLeDiff, Nat.reduceLT, Int.reduceToNat, Int.reduceLE, Int.reduceLT, Int.reduceEq, Int.reduceNe, Int.reduceBEq, Int.reduceBNe, Nat.reduceBEq, Nat.reduceBNe, ↓reduceIte, reduceCtorEq, ↓reduceDIte, W_draw]
          have hA : ar = -1 := A3 (by simp only [arity0, List.any_cons, List.any_nil, ho, g1, g2, g3, g4, Bool.or_false]) (by simp only [arity1, List.any_cons, List.any_nil, g5, g6, g7, Bool.or_false]) (by simp only [arity2, List.any_cons, List.any_nil, g8, g9, g10, g11, g12, g13, g14, g15, g16, g17, g18, g19, Bool.or_false])
          simp (config := { contextual := true, maxSteps := 10000000 }) only [r1, r3, ho, g1, g2, g3, g4, g5, g6, g7, g8, g9, g10, g11, g12, g13, g14, g15, g16, g17, g18, g19, hA, go_sem, Nat.reduceAdd, Nat.reduceSub, Nat.reduceMul, Nat.reduceEqDiff, Nat.reduceLeDiff, Nat.reduceLT, Int.reduceToNat, Int.reduceLE, Int.reduceLT, Int.reduceEq, Int.reduceNe, Int.reduceBEq, Int.reduceBNe, Nat.reduceBEq, Nat.reduceBNe, ↓reduceIte, reduceCtorEq, ↓reduceDIte, W_draw]
        rintro ⟨t', B, T'⟩ ⟨r1, r3, hg, rfl, rfl⟩
        simp only at r1 r3 hg
        rw [hg]
        obtain ⟨ar, har⟩ : ∃ z, arityI op = z := ⟨_, rfl⟩
        simp only [har] at r3 ⊢
        cases hl : ((ps.length : Int) == ar) with
        | false =>
          have hl' : ((ps.length : Int) != ar) = true := by simp [bne, hl]
          simp (config := { contextual := true, maxSteps := 10000000 }) only [r1, r3, hl', go_sem, Nat.reduceAdd, Nat.reduceSub, Nat.reduceMul, Nat.reduceEqDiff, Nat.reduceLeDiff, Nat.reduceLT, Int.reduceToNat, Int.reduceLE, Int.reduceLT, Int.reduceEq, Int.reduceNe, Int.reduceBEq, Int.reduceBNe, Nat.reduceBEq, Nat.reduceBNe, ↓reduceIte, reduceCtorEq, ↓reduceDIte, W_draw]
        | true =>
          have hl' : ((ps.length : Int) != ar) = false := by simp [bne, hl]
          simp (config := { contextual := true, maxSteps := 10000000 }) only [r1, r3, hl', go_sem, Nat.reduceAdd, Nat.reduceSub, Nat.reduceMul, Nat.reduceEqDiff, Nat.reduceLeDiff, Nat.reduceLT, Int.reduceToNat, Int.reduceLE, Int.reduceLT, Int.reduceEq, Int.reduceNe, Int.reduceBEq, Int.reduceBNe, Nat.reduceBEq, Nat.reduceBNe, ↓reduceIte, reduceCtorEq, ↓reduceDIte, W_draw]
          refine W_for (fun j s' => s'.t 1 = .ptr H.length 0 ∧ s'.t 4 = .int .i64 j ∧ s'.H = H ++ [.row [.str op, .int .i64 k, .int .i64 i, .str t, sliceD nl l, .str who, .str name, sliceD m ps]] ∧ s'.T = T' ∧ j ≤ ps.length ∧ (ps.take j).all (fmD n) = true) ps.length ⟨0, by simp [upd, r1]⟩ (fun i s h => h.2.2.2.2.1) ?_ (XL_mono _)
          rintro j ⟨t', B, T'⟩ ⟨r1, r4, rfl, rfl, hj, hc⟩
          simp only at r1 r4
          by_cases ha : j < ps.length
          · have d1 : decide ((j : Int) < ps.length) = true := by simpa using ha
            have hx := h6 _ (List.getElem_mem ha)
            have ex : ps[j]? = some ps[j] := by simp [ha]
            have nx := fun hp => all_nx (p := fmD n) ex hc hp
            have no := fun hp => all_no (p := fmD n) ex hp
            generalize ps[j] = x at *
            have ee := isE_erase hx
            obtain ⟨q1, q2, q3, q4⟩ := isE_cells hx
            have px : φfm n [x] = some (.bool (fmD n x)) := by simp only [φfm]; rw [if_pos hx]
            obtain ⟨b, hq⟩ : ∃ z, fmD n x = z := ⟨_, rfl⟩
            simp only [hq] at px nx no
            clear hq
            cases b with
            | true =>
              have nx := nx rfl
              simp (config := { contextual := true, maxSteps := 10000000 }) only [r1, r4, d1, ex, ee, q1, q2, q3, q4, px, wrap_succ j (by omega), go_sem, Nat.reduceAdd, Nat.reduceSub, Nat.reduceMul, Nat.reduceEqDiff, Nat.reduceLeDiff, Nat.reduceLT, Int.reduceToNat, Int.reduceLE, Int.reduceLT, Int.reduceEq, Int.reduceNe, Int.reduceBEq, Int.reduceBNe, Nat.reduceBEq, Nat.reduceBNe, ↓reduceIte, reduceCtorEq, ↓reduceDIte, W_draw]
              exact ⟨by omega, nx⟩
            | false =>
              have no := no rfl
              simp (config := { contextual := true, maxSteps := 10000000 }) only [r1, r4, d1, ex, ee, q1, q2, q3, q4, px, no, go_sem, Nat.reduceAdd, Nat.reduceSub, Nat.reduceMul, Nat.reduceEqDiff, Nat.reduceLeDiff, Nat.reduceLT, Int.reduceToNat, Int.reduceLE, Int.reduceLT, Int.reduceEq, Int.reduceNe, Int.reduceBEq, Int.reduceBNe, Nat.reduceBEq, Nat.reduceBNe, ↓reduceIte, reduceCtorEq, ↓reduceDIte, W_draw]
          · have d1 : decide ((j : Int) < ps.length) = false := by simpa using ha
            have : j = ps.length := by omega
            subst this
            rw [List.take_length] at hc
            simp (config := { contextual := true, maxSteps := 10000000 }) only [r1, r4, d1, hc, go_sem, Nat.reduceAdd, Nat.reduceSub, Nat.reduceMul, Nat.reduceEqDiff, Nat.reduceLeDiff, Nat.reduceLT, Int.reduceToNat, Int.reduceLE, Int.reduceLT, Int.reduceEq, Int.reduceNe, Int.reduceBEq, Int.reduceBNe, Nat.reduceBEq, Nat.reduceBNe, ↓reduceIte, reduceCtorEq, ↓reduceDIte, W_draw]
      · cases h
    · cases h
end GP
set_option linter.unusedSimpArgs false
/- The reference's evaluation. -/
namespace GP
open Go Go.Proofs
set_option maxRecDepth 100000

/-! ### A value that is had is of some kind -/
def resK (p : D × Int) : Prop := p.2 = 0 → vk p.1 ≠ 0
theorem K_zero {e : Int} (h : e ≠ 0) : resK (zeroV, e) := fun h0 => absurd h0 h
theorem K_tru (b : Bool) : resK (truV b, 0) := fun _ => by simp [truV, vk]
theorem truT_K (b : Bool) (e : Int) : resK (truT (.tup [.bool b, .int .i64 e])) := by
  rw [truT_tup]
  split
  · rename_i h; exact K_zero (by simpa using h)
  · exact K_tru b
theorem outN_K (n : Int) (ok : Bool) : resK (unt (outN n ok)) := by
  cases ok
  · exact K_zero (by decide)
  · exact fun _ => by simp [outN, unt, num, vk]
theorem outT_K (n : Int) (ok : Bool) : resK (unt (outT n ok)) := by
  unfold outT
  cases timeOk n ok
  · exact K_zero (by decide)
  · exact fun _ => by simp [unt, valV, vk]
theorem addV_K (fa fb : Bool) (k1 i1 k2 i2 : Int) : resK (unt (addV fa fb k1 i1 k2 i2)) := by
  unfold addV
  split
  · exact K_zero (by decide)
  split
  · exact outN_K _ _
  split
  · exact outT_K _ _
  · exact K_zero (by decide)
theorem subV_K (fa fb : Bool) (k1 i1 k2 i2 : Int) : resK (unt (subV fa fb k1 i1 k2 i2)) := by
  unfold subV
  split
  · exact K_zero (by decide)
  split
  · exact outN_K _ _
  split
  · exact outT_K _ _
  · exact K_zero (by decide)
theorem mulV_K (fa fb : Bool) (k1 i1 k2 i2 : Int) : resK (unt (mulV fa fb k1 i1 k2 i2)) := by
  unfold mulV
  split
  · exact K_zero (by decide)
  split
  · exact K_zero (by decide)
  · exact outN_K _ _
theorem oneV_K (op : List UInt8) (v : D) : resK (oneV op v) := by
  unfold oneV
  split
  · exact K_tru _
  split
  · exact subV_K _ _ _ _ _ _
  split
  · exact fun _ => by simp [num, vk]
  · exact K_zero (by decide)
theorem twoV_K (op : List UInt8) (a b : D) : resK (twoV op a b) := by
  unfold twoV
  split
  · exact addV_K _ _ _ _ _ _
  split
  · exact subV_K _ _ _ _ _ _
  split
  · exact mulV_K _ _ _ _ _ _
  split
  · obtain ⟨x, e, h⟩ := inV_tup a b
    rw [h]; exact truT_K x e
  · obtain ⟨x, e, h⟩ := cmpV_tup op a b
    rw [h]; exact truT_K x e
theorem eitherV_K (p q : Bool × Int) (d : Bool) : resK (eitherV p q d) := by
  unfold eitherV
  split
  · exact K_tru _
  split
  · rename_i h; exact K_zero (by simpa using h)
  split
  · rename_i h; exact K_zero (by simpa using h)
  · exact K_tru _
theorem leafI_K {n : Nat} {s e : D} (hr : rightB s = true) (hf : fmD (n + 1) e = true) : resK (leafI s e) := by
  simp only [rightB, Bool.and_eq_true, decide_eq_true_eq] at hr
  obtain ⟨⟨h1, h2⟩, h3⟩ := hr
  unfold leafI
  split
  · rename_i ho
    have := fmD_lit hf ho
    rw [litI_litB] at this
    unfold litB at this
    simp only [Bool.and_eq_true, bne_iff_ne, ne_eq] at this
    exact fun _ => this.1.2
  split
  · exact fun _ => by simp [valV, vk]
  split
  · exact K_tru _
  split
  · exact K_tru _
  unfold hadV
  cases h : (sA s).find? (hadP (ewho e) (ename e)) with
  | none => exact K_zero (by decide)
  | some x =>
    have := List.all_eq_true.1 h1 x (List.mem_of_find?_eq_some h)
    simp only [goodH, Bool.and_eq_true, bne_iff_ne, ne_eq] at this
    exact fun _ => this.2
theorem evI_K : ∀ {n : Nat} {s e : D}, rightB s = true → fmD n e = true → resK (evI n s e)
  | 0, _, _, _, h => by cases h
  | n + 1, s, e, hr, hf => by
    rw [evI_succ]
    split
    · exact leafI_K hr hf
    split
    · exact eitherV_K _ _ _
    split
    · exact eitherV_K _ _ _
    split
    · rename_i h; exact K_zero (by simpa using h)
    split
    · exact oneV_K _ _
    split
    · rename_i h; exact K_zero (by simpa using h)
    · exact twoV_K _ _ _
theorem neq_ar {op w : List UInt8} (h : arityI op ≠ arityI w) : (op == w) = false := by
  rw [beq_eq_false_iff_ne]; rintro rfl; exact h rfl

open Classical in
noncomputable def φrev (n : Nat) : List D → Option D
  | [e, s] => if isS s ∧ isE n e ∧ fmD n e = true ∧ rightB s = true then some (tupV (evI n s e)) else none
  | _ => none
theorem ok41 {n : Nat} (h26 : OkAt Try.prog 26 (φrev n)) : OkAt Try.prog 41 (φrev n) := by
  refine ok_of (l := [(26, φrev n)]) (.cons h26 .nil) fn41 fun args r h => ?_
  unfold φrev at h
  split at h
  · rename_i e s
    split at h
    · rename_i hv
      injection h with h; subst h
      have p : φrev n [e, s] = some (tupV (evI n s e)) := by simp only [φrev]; rw [if_pos hv]
      obtain ⟨hs, he, hf, hr⟩ := hv
      have hR := evI_res hs he (fmD_fmA hf)
      refine ⟨by simp, res_cl hR, fun H T => ?_⟩
      have es := isS_erase hs
      have ee := isE_erase he
      obtain ⟨c1, c2, c3, c4⟩ := isS_cells hs
      obtain ⟨d1, d2, d3, d4⟩ := isE_cells he
      obtain ⟨⟨v, f⟩, hq⟩ : ∃ z, evI n s e = z := ⟨_, rfl⟩
      simp only [hq] at p hR ⊢
      clear hq
      obtain ⟨v1, v2, v3, v4, v5, _⟩ := vOp (show isVr v from hR)
      simp only [tupV] at p
      simp (config := { contextual := true, maxSteps := 10000000 }) only [c41, es, ee, c1, c2, c3, c4, d1, d2, d3, d4, p, tupV, v1, v2, v3, v4, v5, go_sem, Nat.reduceAdd, Nat.reduceSub, Nat.reduceMul, Nat.reduceEqDiff, Nat.reduceLeDiff, Nat.reduceLT, Int.reduceToNat, Int.reduceLE, Int.reduceLT, Int.reduceEq, Int.reduceNe, Int.reduceBEq, Int.reduceBNe, Nat.reduceBEq, Nat.reduceBNe, ↓reduceIte, reduceCtorEq, ↓reduceDIte, W_draw]
    · cases h
  · cases h

/-- What has no parts. -/
theorem ok26_0 (n : Nat) (e s : D) (hs : isS s) (he : isE (n + 1) e) (hf : fmD (n + 1) e = true) (hr : rightB s = true) (hl : (eps e).length = 0) (H : Hp) (T : Tk) (φ : List D → Option D) :
    W (XL [(41, φ), (42, φboth), (43, φtruR), (44, φSums), (45, φpair)]) c26 (endQ [.inr (4, true, 4), .inl 5] (Leaves (tupV (leafI s e)) H T)) ⟨argT [e, s], H, T⟩ := by
  have hlen := fmD_len hf
  obtain ⟨op, k, i, t, nl, l, who, name, m, ps, rfl, h1, h2, h3, h4, h5, h6, eL, eP⟩ := isE_elim he
  rw [eop_mk, eps_mk] at hlen
  rw [eps_mk] at hl
  have har : arityI op = 0 := by rw [← hlen, hl]; rfl
  have hps : ps = [] := List.length_eq_zero_iff.1 hl
  subst hps
  obtain ⟨now, R, A, rfl, n1, n2, hR, hA⟩ := hs
  have eR := isLs_erase (fun _ => isTx_erase) hR
  have eA := isLs_erase (fun _ => isH_erase) hA
  obtain ⟨nb, al, rfl, hal, hH⟩ := hA
  obtain ⟨nr, rl, rfl, hrl, hT⟩ := hR
  have na : (op == [97, 110, 100]) = false := neq_ar (by rw [har]; decide)
  have no : (op == [111, 114]) = false := neq_ar (by rw [har]; decide)
  unfold leafI
  simp only [eop_mk, eV_mk, ewho_mk, ename_mk, sNw_mk, sR_mk, sA_mk, elems_sliceD, sVal, sNow, sRole, sHas]
  have d0 : decide ((0 : Int) < ((0 : Nat) : Int)) = false := by decide
  unfold c26
  refine W_cut (XL_mono _) (I := fun s' => s'.t 2 = .ptr H.length 0 ∧ s'.t 3 = .ptr (H.length + 1) 0 ∧ s'.t 4 = .ptr (H.length + 2) 0 ∧ s'.H = H ++ [.row [.str op, .int .i64 k, .int .i64 i, .str t, sliceD nl l, .str who, .str name, sliceD m []], .row [.int .i64 now, sliceD nr rl, sliceD nb al], .row [.int .i64 0, .int .i64 0, .str [], .nils]] ∧ s'.T = T) (by simp (config := { contextual := true, maxSteps := 10000000 }) only [mkE, mkS, eL, eP, eR, eA, go_sem, Nat.reduceAdd, Nat.reduceSub, Nat.reduceMul, Nat.reduceEqDiff, Nat.reduceLeDiff, Nat.reduceLT, Int.reduceToNat, Int.reduceLE, Int.reduceLT, Int.reduceEq, Int.reduceNe, Int.reduceBEq, Int.reduceBNe, Nat.reduceBEq, Nat.reduceBNe, ↓reduceIte, reduceCtorEq, ↓reduceDIte, W_draw]) ?_
  rintro ⟨t', B, T'⟩ ⟨r2, r3, r4, rfl, rfl⟩
  simp only at r2 r3 r4
  have hop : ∀ w, (op == w) = true → ∀ w', (w == w') = false → (op == w') = false := fun w h w' h' => by
    have : op = w := by simpa using h
    rw [this]; exact h'
  rcases tf (op == [118, 97, 108, 117, 101]) with g1 | g1
  · simp (config := { contextual := true, maxSteps := 10000000 }) only [r2, r3, r4, eL, go_sem, Nat.reduceAdd, Nat.reduceSub, Nat.reduceMul, Nat.reduceEqDiff, Nat.reduceLeDiff, Nat.reduceLT, Int.reduceToNat, Int.reduceLE, Int.reduceLT, Int.reduceEq, Int.reduceNe, Int.reduceBEq, Int.reduceBNe, Nat.reduceBEq, Nat.reduceBNe, ↓reduceIte, reduceCtorEq, ↓reduceDIte, W_draw]
    refine W_unr 1 ?_ (XL_mono _)
    simp (config := { contextual := true, maxSteps := 10000000 }) only [unr_s, r2, r3, r4, na, no, g1, mkV, eL, d0, tupV, go_sem, Nat.reduceAdd, Nat.reduceSub, Nat.reduceMul, Nat.reduceEqDiff, Nat.reduceLeDiff, Nat.reduceLT, Int.reduceToNat, Int.reduceLE, Int.reduceLT, Int.reduceEq, Int.reduceNe, Int.reduceBEq, Int.reduceBNe, Nat.reduceBEq, Nat.reduceBNe, ↓reduceIte, reduceCtorEq, ↓reduceDIte, W_draw]
  rcases tf (op == [110, 111, 119]) with g2 | g2
  · simp (config := { contextual := true, maxSteps := 10000000 }) only [r2, r3, r4, eL, go_sem, Nat.reduceAdd, Nat.reduceSub, Nat.reduceMul, Nat.reduceEqDiff, Nat.reduceLeDiff, Nat.reduceLT, Int.reduceToNat, Int.reduceLE, Int.reduceLT, Int.reduceEq, Int.reduceNe, Int.reduceBEq, Int.reduceBNe, Nat.reduceBEq, Nat.reduceBNe, ↓reduceIte, reduceCtorEq, ↓reduceDIte, W_draw]
    refine W_unr 1 ?_ (XL_mono _)
    simp (config := { contextual := true, maxSteps := 10000000 }) only [unr_s, r2, r3, r4, na, no, g1, g2, mkV, eL, d0, tupV, valV, go_sem, Nat.reduceAdd, Nat.reduceSub, Nat.reduceMul, Nat.reduceEqDiff, Nat.reduceLeDiff, Nat.reduceLT, Int.reduceToNat, Int.reduceLE, Int.reduceLT, Int.reduceEq, Int.reduceNe, Int.reduceBEq, Int.reduceBNe, Nat.reduceBEq, Nat.reduceBNe, ↓reduceIte, reduceCtorEq, ↓reduceDIte, W_draw]
  rcases tf (op == [114, 111, 108, 101]) with g3 | g3
  · have hcomm : (rl.any fun x => name == strOf x) = rl.any fun x => strOf x == name := any_congr' fun x _ => BEq.comm
    rw [hcomm]
    simp (config := { contextual := true, maxSteps := 10000000 }) only [r2, r3, r4, eL, go_sem, Nat.reduceAdd, Nat.reduceSub, Nat.reduceMul, Nat.reduceEqDiff, Nat.reduceLeDiff, Nat.reduceLT, Int.reduceToNat, Int.reduceLE, Int.reduceLT, Int.reduceEq, Int.reduceNe, Int.reduceBEq, Int.reduceBNe, Nat.reduceBEq, Nat.reduceBNe, ↓reduceIte, reduceCtorEq, ↓reduceDIte, W_draw]
    refine W_unr 1 ?_ (XL_mono _)
    simp (config := { contextual := true, maxSteps := 10000000 }) only [unr_s, r2, r3, r4, na, no, g1, g2, g3, mkV, eL, d0, tupV, go_sem, Nat.reduceAdd, Nat.reduceSub, Nat.reduceMul, Nat.reduceEqDiff, Nat.reduceLeDiff, Nat.reduceLT, Int.reduceToNat, Int.reduceLE, Int.reduceLT, Int.reduceEq, Int.reduceNe, Int.reduceBEq, Int.reduceBNe, Nat.reduceBEq, Nat.reduceBNe, ↓reduceIte, reduceCtorEq, ↓reduceDIte, W_draw]
    refine W_for (fun j s' => s'.t 2 = .ptr H.length 0 ∧ s'.t 3 = .ptr (H.length + 1) 0 ∧ s'.t 4 = .ptr (H.length + 2) 0 ∧ s'.t 12 = .int .i64 j ∧ s'.H = H ++ [.row [.str op, .int .i64 k, .int .i64 i, .str t, sliceD nl l, .str who, .str name, sliceD m []], .row [.int .i64 now, sliceD nr rl, sliceD nb al], .row [.int .i64 0, .int .i64 0, .str [], .nils], .row [.int .i64 0, .int .i64 0, .str [], .nils], .row [.int .i64 0, .int .i64 0, .str [], .nils, .int .i64 0, .int .i64 0, .str [], .nils], .row [.int .i64 0, .int .i64 0]] ∧ s'.T = T' ∧ j ≤ rl.length ∧ (rl.take j).any (fun x => strOf x == name) = false) rl.length ⟨0, by simp [upd, r2, r3, r4]⟩ (fun i s h => h.2.2.2.2.2.2.1) ?_ (XL_mono _)
    rintro j ⟨t', B, T'⟩ ⟨r2, r3, r4, r12, rfl, rfl, hj, hc⟩
    simp only at r2 r3 r4 r12
    by_cases hj2 : j < rl.length
    · have d1 : decide ((j : Int) < rl.length) = true := by simpa using hj2
      have ex : rl[j]? = some rl[j] := by simp [hj2]
      obtain ⟨w, e, _⟩ := hT _ (List.getElem_mem hj2)
      have nx := fun hp => any_nx (p := fun x => strOf x == name) ex hc hp
      have no := fun hp => any_yes (p := fun x => strOf x == name) ex hp
      rw [e] at ex nx no
      have G : (strOf (.str w) == name) = (w == name) := rfl
      rw [G] at nx no
      rcases tf (w == name) with h5 | h5
      · have no := no h5
        simp (config := { contextual := true, maxSteps := 10000000 }) only [r2, r3, r4, r12, d1, ex, h5, no, φtruR, truV, zeroV, wrap_succ j (by omega), go_sem, Nat.reduceAdd, Nat.reduceSub, Nat.reduceMul, Nat.reduceEqDiff, Nat.reduceLeDiff, Nat.reduceLT, Int.reduceToNat, Int.reduceLE, Int.reduceLT, Int.reduceEq, Int.reduceNe, Int.reduceBEq, Int.reduceBNe, Nat.reduceBEq, Nat.reduceBNe, ↓reduceIte, reduceCtorEq, ↓reduceDIte, W_draw]
      · have nx := nx h5
        simp (config := { contextual := true, maxSteps := 10000000 }) only [r2, r3, r4, r12, d1, ex, h5, φtruR, truV, zeroV, wrap_succ j (by omega), go_sem, Nat.reduceAdd, Nat.reduceSub, Nat.reduceMul, Nat.reduceEqDiff, Nat.reduceLeDiff, Nat.reduceLT, Int.reduceToNat, Int.reduceLE, Int.reduceLT, Int.reduceEq, Int.reduceNe, Int.reduceBEq, Int.reduceBNe, Nat.reduceBEq, Nat.reduceBNe, ↓reduceIte, reduceCtorEq, ↓reduceDIte, W_draw]
        exact ⟨by omega, nx⟩
    · have d1 : decide ((j : Int) < rl.length) = false := by simpa using hj2
      have hA : rl.any (fun x => strOf x == name) = false := by
        have : j = rl.length := by omega
        subst this; rw [List.take_length] at hc; exact hc
      simp (config := { contextual := true, maxSteps := 10000000 }) only [r2, r3, r4, r12, d1, hA, φtruR, truV, zeroV, go_sem, Nat.reduceAdd, Nat.reduceSub, Nat.reduceMul, Nat.reduceEqDiff, Nat.reduceLeDiff, Nat.reduceLT, Int.reduceToNat, Int.reduceLE, Int.reduceLT, Int.reduceEq, Int.reduceNe, Int.reduceBEq, Int.reduceBNe, Nat.reduceBEq, Nat.reduceBNe, ↓reduceIte, reduceCtorEq, ↓reduceDIte, W_draw]
  have g4 : (op == [97, 116, 116, 114]) = true ∨ (op == [97, 116, 116, 114]) = false ∧ (op == [104, 97, 115]) = true := by
    rcases tf (op == [97, 116, 116, 114]) with h | h
    · exact .inl h
    rcases tf (op == [104, 97, 115]) with h' | h'
    · exact .inr ⟨h, h'⟩
    unfold arityI at har
    have e0 : arity0.any (op == ·) = false := by simp only [arity0, List.any_cons, List.any_nil, g1, g2, g3, h, h', Bool.or_false]
    rw [if_neg (by rw [e0]; decide)] at har
    split at har
    · cases har
    split at har <;> cases har
  obtain ⟨o, ho⟩ : ∃ z, hadV al who name = z := ⟨_, rfl⟩
  rw [ho]
  rcases g4 with g4 | ⟨g4, g5⟩
  · have g5 : (op == [104, 97, 115]) = false := hop _ g4 _ (by decide)
    simp (config := { contextual := true, maxSteps := 10000000 }) only [r2, r3, r4, eL, go_sem, Nat.reduceAdd, Nat.reduceSub, Nat.reduceMul, Nat.reduceEqDiff, Nat.reduceLeDiff, Nat.reduceLT, Int.reduceToNat, Int.reduceLE, Int.reduceLT, Int.reduceEq, Int.reduceNe, Int.reduceBEq, Int.reduceBNe, Nat.reduceBEq, Nat.reduceBNe, ↓reduceIte, reduceCtorEq, ↓reduceDIte, W_draw]
    refine W_unr 1 ?_ (XL_mono _)
    simp (config := { contextual := true, maxSteps := 10000000 }) only [unr_s, r2, r3, r4, na, no, g1, g2, g3, g4, g5, mkV, eL, d0, tupV, go_sem, Nat.reduceAdd, Nat.reduceSub, Nat.reduceMul, Nat.reduceEqDiff, Nat.reduceLeDiff, Nat.reduceLT, Int.reduceToNat, Int.reduceLE, Int.reduceLT, Int.reduceEq, Int.reduceNe, Int.reduceBEq, Int.reduceBNe, Nat.reduceBEq, Nat.reduceBNe, ↓reduceIte, reduceCtorEq, ↓reduceDIte, W_draw]
    refine W_for (fun j s' => s'.t 2 = .ptr H.length 0 ∧ s'.t 3 = .ptr (H.length + 1) 0 ∧ s'.t 4 = .ptr (H.length + 2) 0 ∧ s'.t 6 = .ptr (H.length + 3) 0 ∧ s'.t 13 = .int .i64 j ∧ s'.H = H ++ [.row [.str op, .int .i64 k, .int .i64 i, .str t, sliceD nl l, .str who, .str name, sliceD m []], .row [.int .i64 now, sliceD nr rl, sliceD nb al], .row [.int .i64 0, .int .i64 0, .str [], .nils], .row [.int .i64 0, .int .i64 0, .str [], .nils], .row [.int .i64 0, .int .i64 0, .str [], .nils, .int .i64 0, .int .i64 0, .str [], .nils], .row [.int .i64 0, .int .i64 0]] ∧ s'.T = T' ∧ j ≤ al.length ∧ (al.take j).find? (hadP who name) = none) al.length ⟨0, by simp [upd, r2, r3, r4]⟩ (fun i s h => h.2.2.2.2.2.2.2.1) ?_ (XL_mono _)
    rintro j ⟨t', B, T'⟩ ⟨r2, r3, r4, r6, r13, rfl, rfl, hj, hc⟩
    simp only at r2 r3 r4 r6 r13
    by_cases hj2 : j < al.length
    · have d1 : decide ((j : Int) < al.length) = true := by simpa using hj2
      have ex : al[j]? = some al[j] := by simp [hj2]
      obtain ⟨w, nm, k', i', t', nl', l', e, _, _, hv⟩ := hH _ (List.getElem_mem hj2)
      have nx := fun hp => find_take_succ (p := hadP who name) ex hc hp
      have at' := fun hp => find_at (p := hadP who name) ex hc hp
      rw [e] at ex nx at'
      have G : hadP who name (mkH w nm k' i' t' nl' l') = ((w == who) && (nm == name)) := rfl
      rw [G] at nx at'
      have yes : ((w == who) && (nm == name)) = true → o = some (mkV k' i' t' nl' l') := fun h => by rw [← ho]; unfold hadV; rw [at' h]; rfl
      clear at'
      have eL' := (mkV_erase hv.1).1
      simp only [mkH] at ex
      rcases tf (w == who) with q1 | q1
      · rcases tf (nm == name) with q2 | q2
        · have yes := yes (by rw [q1, q2]; rfl)
          subst yes
          simp (config := { contextual := true, maxSteps := 10000000 }) only [r2, r3, r4, r6, r13, d1, ex, q1, q2, eL', g4, g5, φtruR, truV, zeroV, mkV, Option.isSome, go_sem, Nat.reduceAdd, Nat.reduceSub, Nat.reduceMul, Nat.reduceEqDiff, Nat.reduceLeDiff, Nat.reduceLT, Int.reduceToNat, Int.reduceLE, Int.reduceLT, Int.reduceEq, Int.reduceNe, Int.reduceBEq, Int.reduceBNe, Nat.reduceBEq, Nat.reduceBNe, ↓reduceIte, reduceCtorEq, ↓reduceDIte, W_draw]
        · have nx := nx (by rw [q1, q2]; rfl)
          simp (config := { contextual := true, maxSteps := 10000000 }) only [r2, r3, r4, r6, r13, d1, ex, q1, q2, eL', wrap_succ j (by omega), go_sem, Nat.reduceAdd, Nat.reduceSub, Nat.reduceMul, Nat.reduceEqDiff, Nat.reduceLeDiff, Nat.reduceLT, Int.reduceToNat, Int.reduceLE, Int.reduceLT, Int.reduceEq, Int.reduceNe, Int.reduceBEq, Int.reduceBNe, Nat.reduceBEq, Nat.reduceBNe, ↓reduceIte, reduceCtorEq, ↓reduceDIte, W_draw]
          exact ⟨by omega, nx⟩
      · have nx := nx (by rw [q1]; rfl)
        simp (config := { contextual := true, maxSteps := 10000000 }) only [r2, r3, r4, r6, r13, d1, ex, q1, eL', wrap_succ j (by omega), go_sem, Nat.reduceAdd, Nat.reduceSub, Nat.reduceMul, Nat.reduceEqDiff, Nat.reduceLeDiff, Nat.reduceLT, Int.reduceToNat, Int.reduceLE, Int.reduceLT, Int.reduceEq, Int.reduceNe, Int.reduceBEq, Int.reduceBNe, Nat.reduceBEq, Nat.reduceBNe, ↓reduceIte, reduceCtorEq, ↓reduceDIte, W_draw]
        exact ⟨by omega, nx⟩
    · have d1 : decide ((j : Int) < al.length) = false := by simpa using hj2
      have hO : o = none := by
        have : j = al.length := by omega
        subst this; rw [List.take_length] at hc
        rw [← ho]; unfold hadV; rw [hc]; rfl
      subst hO
      simp (config := { contextual := true, maxSteps := 10000000 }) only [r2, r3, r4, r6, r13, d1, g4, g5, φtruR, truV, zeroV, Option.isSome, go_sem, Nat.reduceAdd, Nat.reduceSub, Nat.reduceMul, Nat.reduceEqDiff, Nat.reduceLeDiff, Nat.reduceLT, Int.reduceToNat, Int.reduceLE, Int.reduceLT, Int.reduceEq, Int.reduceNe, Int.reduceBEq, Int.reduceBNe, Nat.reduceBEq, Nat.reduceBNe, ↓reduceIte, reduceCtorEq, ↓reduceDIte, W_draw]
  · simp (config := { contextual := true, maxSteps := 10000000 }) only [r2, r3, r4, eL, go_sem, Nat.reduceAdd, Nat.reduceSub, Nat.reduceMul, Nat.reduceEqDiff, Nat.reduceLeDiff, Nat.reduceLT, Int.reduceToNat, Int.reduceLE, Int.reduceLT, Int.reduceEq, Int.reduceNe, Int.reduceBEq, Int.reduceBNe, Nat.reduceBEq, Nat.reduceBNe, ↓reduceIte, reduceCtorEq, ↓reduceDIte, W_draw]
    refine W_unr 1 ?_ (XL_mono _)
    simp (config := { contextual := true, maxSteps := 10000000 }) only [unr_s, r2, r3, r4, na, no, g1, g2, g3, g4, g5, mkV, eL, d0, tupV, go_sem, Nat.reduceAdd, Nat.reduceSub, Nat.reduceMul, Nat.reduceEqDiff, Nat.reduceLeDiff, Nat.reduceLT, Int.reduceToNat, Int.reduceLE, Int.reduceLT, Int.reduceEq, Int.reduceNe, Int.reduceBEq, Int.reduceBNe, Nat.reduceBEq, Nat.reduceBNe, ↓reduceIte, reduceCtorEq, ↓reduceDIte, W_draw]
    refine W_for (fun j s' => s'.t 2 = .ptr H.length 0 ∧ s'.t 3 = .ptr (H.length + 1) 0 ∧ s'.t 4 = .ptr (H.length + 2) 0 ∧ s'.t 6 = .ptr (H.length + 3) 0 ∧ s'.t 13 = .int .i64 j ∧ s'.H = H ++ [.row [.str op, .int .i64 k, .int .i64 i, .str t, sliceD nl l, .str who, .str name, sliceD m []], .row [.int .i64 now, sliceD nr rl, sliceD nb al], .row [.int .i64 0, .int .i64 0, .str [], .nils], .row [.int .i64 0, .int .i64 0, .str [], .nils], .row [.int .i64 0, .int .i64 0, .str [], .nils, .int .i64 0, .int .i64 0, .str [], .nils], .row [.int .i64 0, .int .i64 0]] ∧ s'.T = T' ∧ j ≤ al.length ∧ (al.take j).find? (hadP who name) = none) al.length ⟨0, by simp [upd, r2, r3, r4]⟩ (fun i s h => h.2.2.2.2.2.2.2.1) ?_ (XL_mono _)
    rintro j ⟨t', B, T'⟩ ⟨r2, r3, r4, r6, r13, rfl, rfl, hj, hc⟩
    simp only at r2 r3 r4 r6 r13
    by_cases hj2 : j < al.length
    · have d1 : decide ((j : Int) < al.length) = true := by simpa using hj2
      have ex : al[j]? = some al[j] := by simp [hj2]
      obtain ⟨w, nm, k', i', t', nl', l', e, _, _, hv⟩ := hH _ (List.getElem_mem hj2)
      have nx := fun hp => find_take_succ (p := hadP who name) ex hc hp
      have at' := fun hp => find_at (p := hadP who name) ex hc hp
      rw [e] at ex nx at'
      have G : hadP who name (mkH w nm k' i' t' nl' l') = ((w == who) && (nm == name)) := rfl
      rw [G] at nx at'
      have yes : ((w == who) && (nm == name)) = true → o = some (mkV k' i' t' nl' l') := fun h => by rw [← ho]; unfold hadV; rw [at' h]; rfl
      clear at'
      have eL' := (mkV_erase hv.1).1
      simp only [mkH] at ex
      rcases tf (w == who) with q1 | q1
      · rcases tf (nm == name) with q2 | q2
        · have yes := yes (by rw [q1, q2]; rfl)
          subst yes
          simp (config := { contextual := true, maxSteps := 10000000 }) only [r2, r3, r4, r6, r13, d1, ex, q1, q2, eL', g4, g5, φtruR, truV, zeroV, mkV, Option.isSome, go_sem, Nat.reduceAdd, Nat.reduceSub, Nat.reduceMul, Nat.reduceEqDiff, Nat.reduceLeDiff, Nat.reduceLT, Int.reduceToNat, Int.reduceLE, Int.reduceLT, Int.reduceEq, Int.reduceNe, Int.reduceBEq, Int.reduceBNe, Nat.reduceBEq, Nat.reduceBNe, ↓reduceIte, reduceCtorEq, ↓reduceDIte, W_draw]
        · have nx := nx (by rw [q1, q2]; rfl)
          simp (config := { contextual := true, maxSteps := 10000000 }) only [r2, r3, r4, r6, r13, d1, ex, q1, q2, eL', wrap_succ j (by omega), go_sem, Nat.reduceAdd, Nat.reduceSub, Nat.reduceMul, Nat.reduceEqDiff, Nat.reduceLeDiff, Nat.reduceLT, Int.reduceToNat, Int.reduceLE, Int.reduceLT, Int.reduceEq, Int.reduceNe, Int.reduceBEq, Int.reduceBNe, Nat.reduceBEq, Nat.reduceBNe, ↓reduceIte, reduceCtorEq, ↓reduceDIte, W_draw]
          exact ⟨by omega, nx⟩
      · have nx := nx (by rw [q1]; rfl)
        simp (config := { contextual := true, maxSteps := 10000000 }) only [r2, r3, r4, r6, r13, d1, ex, q1, eL', wrap_succ j (by omega), go_sem, Nat.reduceAdd, Nat.reduceSub, Nat.reduceMul, Nat.reduceEqDiff, Nat.reduceLeDiff, Nat.reduceLT, Int.reduceToNat, Int.reduceLE, Int.reduceLT, Int.reduceEq, Int.reduceNe, Int.reduceBEq, Int.reduceBNe, Nat.reduceBEq, Nat.reduceBNe, ↓reduceIte, reduceCtorEq, ↓reduceDIte, W_draw]
        exact ⟨by omega, nx⟩
    · have d1 : decide ((j : Int) < al.length) = false := by simpa using hj2
      have hO : o = none := by
        have : j = al.length := by omega
        subst this; rw [List.take_length] at hc
        rw [← ho]; unfold hadV; rw [hc]; rfl
      subst hO
      simp (config := { contextual := true, maxSteps := 10000000 }) only [r2, r3, r4, r6, r13, d1, g4, g5, φtruR, truV, zeroV, Option.isSome, go_sem, Nat.reduceAdd, Nat.reduceSub, Nat.reduceMul, Nat.reduceEqDiff, Nat.reduceLeDiff, Nat.reduceLT, Int.reduceToNat, Int.reduceLE, Int.reduceLT, Int.reduceEq, Int.reduceNe, Int.reduceBEq, Int.reduceBNe, Nat.reduceBEq, Nat.reduceBNe, ↓reduceIte, reduceCtorEq, ↓reduceDIte, W_draw]
end GP
