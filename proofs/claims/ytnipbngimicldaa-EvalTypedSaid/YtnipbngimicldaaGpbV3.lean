import Derived.Test.YtnipbngimicldaaGpbV2
set_option linter.unusedSimpArgs false
namespace GP
open Go Go.Proofs
set_option maxRecDepth 100000

def orderR (a b : D) : Int := if (vk a != 5) || (vk b != 5) then singleD a b else cmpL singleD (vl a) (vl b)

def φOrderR : List D → Option D
  | [a, b] => if a.isV = true ∧ b.isV = true then some (.int .i64 (orderR a b)) else none
  | _ => none

theorem ok65 : OkAt Try.prog 65 φOrderR := by
  refine ok_of (l := [(38, φsingle), (56, φnumbers)]) (.cons ok38 (.cons ok56 .nil)) fn65 fun args r h => ?_
  unfold φOrderR at h
  split at h
  · split at h
    · rename_i a b hab
      injection h with h; subst h
      refine ⟨by simp, by simp [D.cl], fun H T => ?_⟩
      obtain ⟨ha, hb⟩ := hab
      obtain ⟨k1, i1, s1, n1, xs, rfl, z1, y1, hV1⟩ := isV_elim ha
      obtain ⟨k2, i2, s2, n2, ys, rfl, z2, y2, hV2⟩ := isV_elim hb
      have r1 := erase_of_isV hV1
      have r2 := erase_of_isV hV2
      have q : orderR (mkV k1 i1 s1 n1 xs) (mkV k2 i2 s2 n2 ys) = if (k1 != 5) || (k2 != 5) then singleI k1 i1 s1 k2 i2 s2 else cmpL singleD xs ys := by
        simp only [orderR, singleD, vk_mk, vi_mk, vs_mk, vl_mk]
      rw [q]
      simp (config := { contextual := true, maxSteps := 10000000 }) only [c65, mkV, φsingle, r1, r2, z1, z2, Option.isSome_some, go_sem, Nat.reduceAdd, Nat.reduceSub, Nat.reduceMul, Nat.reduceEqDiff, Nat.reduceLeDiff, Nat.reduceLT, Int.reduceToNat, Int.reduceLE, Int.reduceLT, Int.reduceEq, Int.reduceNe, Int.reduceBEq, Int.reduceBNe, Nat.reduceBEq, Nat.reduceBNe, ↓reduceIte, reduceCtorEq, ↓reduceDIte, W_draw]
      intro q1 q2
      refine W_for (fun j s' => s'.t 2 = .ptr H.length 0 ∧ s'.t 3 = .ptr (H.length + 1) 0 ∧ s'.t 5 = .int .i64 j ∧ s'.H = H ++ [.row [.int .i64 k1, .int .i64 i1, .str s1, sliceD n1 xs], .row [.int .i64 k2, .int .i64 i2, .str s2, sliceD n2 ys]] ∧ s'.T = T ∧ j ≤ xs.length ∧ j ≤ ys.length ∧ cmpL singleD (xs.drop j) (ys.drop j) = cmpL singleD xs ys) xs.length ⟨0, by simp [upd, argT]⟩ (fun i s h => h.2.2.2.2.2.1) ?_ (XL_mono _)
      rintro j ⟨t, H', T'⟩ ⟨h2, h3, h5, rfl, rfl, hj, hj', hc⟩
      simp only at h2 h3 h5
      by_cases ha : j < xs.length
      · have d1 : decide ((j : Int) < xs.length) = true := by simpa using ha
        obtain ⟨k3, i3, s3, n3, l3, e3, hs3, hx3, hV3, eL3⟩ := get_isV hV1 ha
        by_cases hb : j < ys.length
        · have d2 : decide ((j : Int) < ys.length) = true := by simpa using hb
          obtain ⟨k4, i4, s4, n4, l4, e4, hs4, hx4, hV4, eL4⟩ := get_isV hV2 hb
          have x1 : xs[j] = mkV k3 i3 s3 n3 l3 := by rw [List.getElem?_eq_getElem ha] at e3; exact Option.some.inj e3
          have x2 : ys[j] = mkV k4 i4 s4 n4 l4 := by rw [List.getElem?_eq_getElem hb] at e4; exact Option.some.inj e4
          rw [List.drop_eq_getElem_cons ha, List.drop_eq_getElem_cons hb, cmpL, x1, x2] at hc
          have hS : singleD (mkV k3 i3 s3 n3 l3) (mkV k4 i4 s4 n4 l4) = singleI k3 i3 s3 k4 i4 s4 := by simp only [singleD, vk_mk, vi_mk, vs_mk]
          rw [hS] at hc
          simp (config := { contextual := true, maxSteps := 10000000 }) only [h2, h3, h5, d1, d2, e3, e4, mkV, φsingle, eL3, eL4, hs3, hs4, Option.isSome_some, wrap_succ j (by omega), go_sem, Nat.reduceAdd, Nat.reduceSub, Nat.reduceMul, Nat.reduceEqDiff, Nat.reduceLeDiff, Nat.reduceLT, Int.reduceToNat, Int.reduceLE, Int.reduceLT, Int.reduceEq, Int.reduceNe, Int.reduceBEq, Int.reduceBNe, Nat.reduceBEq, Nat.reduceBNe, ↓reduceIte, reduceCtorEq, ↓reduceDIte, W_draw]
          refine ⟨fun q => ?_, fun q => ⟨by omega, by omega, ?_⟩⟩
          · rw [if_pos q] at hc; rw [hc]
          · rw [if_neg (by rw [q]; decide)] at hc; exact hc
        · have d2 : decide ((j : Int) < ys.length) = false := by simpa using hb
          rw [List.drop_eq_getElem_cons ha, List.drop_eq_nil_of_le (by omega : ys.length ≤ j), cmpL] at hc
          have hn : cmpI (xs.length : Int) ys.length = 1 := by
            simp only [cmpI]; rw [if_neg (by omega), if_pos (by omega)]
          simp (config := { contextual := true, maxSteps := 10000000 }) only [h2, h3, h5, d1, d2, e3, mkV, φnumbers, ← hc, hn, go_sem, Nat.reduceAdd, Nat.reduceSub, Nat.reduceMul, Nat.reduceEqDiff, Nat.reduceLeDiff, Nat.reduceLT, Int.reduceToNat, Int.reduceLE, Int.reduceLT, Int.reduceEq, Int.reduceNe, Int.reduceBEq, Int.reduceBNe, Nat.reduceBEq, Nat.reduceBNe, ↓reduceIte, reduceCtorEq, ↓reduceDIte, W_draw]
      · have d1 : decide ((j : Int) < xs.length) = false := by simpa using ha
        rw [List.drop_eq_nil_of_le (by omega : xs.length ≤ j)] at hc
        by_cases hb : j < ys.length
        · rw [List.drop_eq_getElem_cons hb, cmpL] at hc
          have hn : cmpI (xs.length : Int) ys.length = -1 := by
            simp only [cmpI]; rw [if_pos (by omega)]
          simp (config := { contextual := true, maxSteps := 10000000 }) only [h2, h3, h5, d1, mkV, φnumbers, ← hc, hn, go_sem, Nat.reduceAdd, Nat.reduceSub, Nat.reduceMul, Nat.reduceEqDiff, Nat.reduceLeDiff, Nat.reduceLT, Int.reduceToNat, Int.reduceLE, Int.reduceLT, Int.reduceEq, Int.reduceNe, Int.reduceBEq, Int.reduceBNe, Nat.reduceBEq, Nat.reduceBNe, ↓reduceIte, reduceCtorEq, ↓reduceDIte, W_draw]
        · rw [List.drop_eq_nil_of_le (by omega : ys.length ≤ j), cmpL] at hc
          have hn : cmpI (xs.length : Int) ys.length = 0 := by
            simp only [cmpI]; rw [if_neg (by omega), if_neg (by omega)]
          simp (config := { contextual := true, maxSteps := 10000000 }) only [h2, h3, h5, d1, mkV, φnumbers, ← hc, hn, go_sem, Nat.reduceAdd, Nat.reduceSub, Nat.reduceMul, Nat.reduceEqDiff, Nat.reduceLeDiff, Nat.reduceLT, Int.reduceToNat, Int.reduceLE, Int.reduceLT, Int.reduceEq, Int.reduceNe, Int.reduceBEq, Int.reduceBNe, Nat.reduceBEq, Nat.reduceBNe, ↓reduceIte, reduceCtorEq, ↓reduceDIte, W_draw]
    · cases h
  · cases h

def opR (op : List UInt8) (c : Int) : Bool := if op == [61, 61] then c == 0 else if op == [33, 61] then c != 0 else if op == [60] then c == -1 else if op == [60, 61] then c != 1 else if op == [62] then c == 1 else c != -1

def opV (op : List UInt8) (c : Int) : Bool := if op == [61, 61] then c == 0 else if op == [33, 61] then c != 0 else if op == [60] then decide (c < 0) else if op == [60, 61] then decide (c ≤ 0) else if op == [62] then decide (0 < c) else decide (0 ≤ c)

def wrongOp (op : List UInt8) (k1 k2 : Int) : Bool := (k1 == 0) || (k1 != k2) || (((k1 == 1) || (k1 == 5)) && (op != [61, 61]) && (op != [33, 61]))

def φCompareR : List D → Option D
  | [.str op, a, b] => if a.isV = true ∧ b.isV = true then some (if wrongOp op (vk a) (vk b) then .tup [.bool false, .int .i64 6] else .tup [.bool (opR op (orderR a b)), .int .i64 0]) else none
  | _ => none

theorem ok66 : OkAt Try.prog 66 φCompareR := by
  refine ok_of (l := [(65, φOrderR)]) (.cons ok65 .nil) fn66 fun args r h => ?_
  unfold φCompareR at h
  split at h
  · split at h
    · rename_i op a b hab
      injection h with h; subst h
      refine ⟨by simp, by split <;> simp [D.cl, D.clL], fun H T => ?_⟩
      obtain ⟨ha, hb⟩ := hab
      have p : φOrderR [a, b] = some (.int .i64 (orderR a b)) := by simp [φOrderR, ha, hb]
      generalize orderR a b = o at p
      obtain ⟨k1, i1, s1, n1, xs, rfl, z1, y1, hV1⟩ := isV_elim ha
      obtain ⟨k2, i2, s2, n2, ys, rfl, z2, y2, hV2⟩ := isV_elim hb
      have r1 := erase_of_isV hV1
      have r2 := erase_of_isV hV2
      simp only [vk_mk]
      simp only [mkV] at p
      simp (config := { contextual := true, maxSteps := 10000000 }) only [c66, mkV, r1, r2, p, go_sem, Nat.reduceAdd, Nat.reduceSub, Nat.reduceMul, Nat.reduceEqDiff, Nat.reduceLeDiff, Nat.reduceLT, Int.reduceToNat, Int.reduceLE, Int.reduceLT, Int.reduceEq, Int.reduceNe, Int.reduceBEq, Int.reduceBNe, Nat.reduceBEq, Nat.reduceBNe, ↓reduceIte, reduceCtorEq, ↓reduceDIte, W_draw]
      repeat' (first | apply And.intro | intro _)
      all_goals grind [wrongOp, opR]
    · cases h
  · cases h

def idx6 (op : List UInt8) : Int := if op == [61, 61] then 0 else if op == [33, 61] then 1 else if op == [60] then 2 else if op == [60, 61] then 3 else if op == [62] then 4 else if op == [62, 61] then 5 else -1

def six : D := .sl none [.str [61, 61], .str [33, 61], .str [60], .str [60, 61], .str [62], .str [62, 61]]

def good6 (op : List UInt8) : Bool := op == [61, 61] || op == [33, 61] || op == [60] || op == [60, 61] || op == [62] || op == [62, 61]

def φIndex : List D → Option D
  | [.sl none [.str [61, 61], .str [33, 61], .str [60], .str [60, 61], .str [62], .str [62, 61]], .str op] => some (.int .i64 (idx6 op))
  | _ => none

def φContains : List D → Option D
  | [.sl none [.str [61, 61], .str [33, 61], .str [60], .str [60, 61], .str [62], .str [62, 61]], .str op] => some (.bool (good6 op))
  | _ => none

theorem ok88 : OkAt Try.prog 88 φIndex := by
  refine ok_of (l := []) .nil fn88 fun args r h => ?_
  unfold φIndex at h
  split at h
  · rename_i op
    injection h with h; subst h
    refine ⟨by simp, by simp [D.cl], fun H T => ?_⟩
    simp (config := { contextual := true, maxSteps := 10000000 }) only [c88, go_sem, Nat.reduceAdd, Nat.reduceSub, Nat.reduceMul, Nat.reduceEqDiff, Nat.reduceLeDiff, Nat.reduceLT, Int.reduceToNat, Int.reduceLE, Int.reduceLT, Int.reduceEq, Int.reduceNe, Int.reduceBEq, Int.reduceBNe, Nat.reduceBEq, Nat.reduceBNe, ↓reduceIte, reduceCtorEq, ↓reduceDIte, W_draw]
    refine W_for (fun i s => s.t 0 = six ∧ s.t 1 = .str op ∧ s.t 6 = six ∧ s.t 7 = .int .i64 6 ∧ s.t 8 = .int .i64 i ∧ s.H = H ∧ s.T = T ∧ i ≤ 6 ∧ (1 ≤ i → (op == [61, 61]) = false) ∧ (2 ≤ i → (op == [33, 61]) = false) ∧ (3 ≤ i → (op == [60]) = false) ∧ (4 ≤ i → (op == [60, 61]) = false) ∧ (5 ≤ i → (op == [62]) = false) ∧ (6 ≤ i → (op == [62, 61]) = false)) 6 ⟨0, by simp [upd, argT, six]⟩ (fun i s h => h.2.2.2.2.2.2.2.1) ?_ (XL_mono _)
    rintro i ⟨t, H', T'⟩ ⟨h0, h1, h6, h7, h8, rfl, rfl, hi, z1, z2, z3, z4, z5, z6⟩
    simp only at h0 h1 h6 h7 h8
    match i, hi with
    | 0, _ =>
      have w : IntKind.i64.wrap 1 = 1 := by decide
      simp (config := { contextual := true, maxSteps := 10000000 }) only [h0, h1, h6, h7, h8, six, w, Int.reduceAdd, idx6, go_sem, Nat.reduceAdd, Nat.reduceSub, Nat.reduceMul, Nat.reduceEqDiff, Nat.reduceLeDiff, Nat.reduceLT, Int.reduceToNat, Int.reduceLE, Int.reduceLT, Int.reduceEq, Int.reduceNe, Int.reduceBEq, Int.reduceBNe, Nat.reduceBEq, Nat.reduceBNe, ↓reduceIte, reduceCtorEq, ↓reduceDIte, W_draw]
    | 1, _ =>
      have w : IntKind.i64.wrap 2 = 2 := by decide
      simp (config := { contextual := true, maxSteps := 10000000 }) only [h0, h1, h6, h7, h8, six, w, Int.reduceAdd, idx6, z1 (by omega), go_sem, Nat.reduceAdd, Nat.reduceSub, Nat.reduceMul, Nat.reduceEqDiff, Nat.reduceLeDiff, Nat.reduceLT, Int.reduceToNat, Int.reduceLE, Int.reduceLT, Int.reduceEq, Int.reduceNe, Int.reduceBEq, Int.reduceBNe, Nat.reduceBEq, Nat.reduceBNe, ↓reduceIte, reduceCtorEq, ↓reduceDIte, W_draw]
    | 2, _ =>
      have w : IntKind.i64.wrap 3 = 3 := by decide
      simp (config := { contextual := true, maxSteps := 10000000 }) only [h0, h1, h6, h7, h8, six, w, Int.reduceAdd, idx6, z1 (by omega), z2 (by omega), go_sem, Nat.reduceAdd, Nat.reduceSub, Nat.reduceMul, Nat.reduceEqDiff, Nat.reduceLeDiff, Nat.reduceLT, Int.reduceToNat, Int.reduceLE, Int.reduceLT, Int.reduceEq, Int.reduceNe, Int.reduceBEq, Int.reduceBNe, Nat.reduceBEq, Nat.reduceBNe, ↓reduceIte, reduceCtorEq, ↓reduceDIte, W_draw]
    | 3, _ =>
      have w : IntKind.i64.wrap 4 = 4 := by decide
      simp (config := { contextual := true, maxSteps := 10000000 }) only [h0, h1, h6, h7, h8, six, w, Int.reduceAdd, idx6, z1 (by omega), z2 (by omega), z3 (by omega), go_sem, Nat.reduceAdd, Nat.reduceSub, Nat.reduceMul, Nat.reduceEqDiff, Nat.reduceLeDiff, Nat.reduceLT, Int.reduceToNat, Int.reduceLE, Int.reduceLT, Int.reduceEq, Int.reduceNe, Int.reduceBEq, Int.reduceBNe, Nat.reduceBEq, Nat.reduceBNe, ↓reduceIte, reduceCtorEq, ↓reduceDIte, W_draw]
    | 4, _ =>
      have w : IntKind.i64.wrap 5 = 5 := by decide
      simp (config := { contextual := true, maxSteps := 10000000 }) only [h0, h1, h6, h7, h8, six, w, Int.reduceAdd, idx6, z1 (by omega), z2 (by omega), z3 (by omega), z4 (by omega), go_sem, Nat.reduceAdd, Nat.reduceSub, Nat.reduceMul, Nat.reduceEqDiff, Nat.reduceLeDiff, Nat.reduceLT, Int.reduceToNat, Int.reduceLE, Int.reduceLT, Int.reduceEq, Int.reduceNe, Int.reduceBEq, Int.reduceBNe, Nat.reduceBEq, Nat.reduceBNe, ↓reduceIte, reduceCtorEq, ↓reduceDIte, W_draw]
    | 5, _ =>
      have w : IntKind.i64.wrap 6 = 6 := by decide
      simp (config := { contextual := true, maxSteps := 10000000 }) only [h0, h1, h6, h7, h8, six, w, Int.reduceAdd, idx6, z1 (by omega), z2 (by omega), z3 (by omega), z4 (by omega), z5 (by omega), go_sem, Nat.reduceAdd, Nat.reduceSub, Nat.reduceMul, Nat.reduceEqDiff, Nat.reduceLeDiff, Nat.reduceLT, Int.reduceToNat, Int.reduceLE, Int.reduceLT, Int.reduceEq, Int.reduceNe, Int.reduceBEq, Int.reduceBNe, Nat.reduceBEq, Nat.reduceBNe, ↓reduceIte, reduceCtorEq, ↓reduceDIte, W_draw]
    | 6, _ =>
      simp (config := { contextual := true, maxSteps := 10000000 }) only [h0, h1, h6, h7, h8, six, idx6, z1 (by omega), z2 (by omega), z3 (by omega), z4 (by omega), z5 (by omega), z6 (by omega), go_sem, Nat.reduceAdd, Nat.reduceSub, Nat.reduceMul, Nat.reduceEqDiff, Nat.reduceLeDiff, Nat.reduceLT, Int.reduceToNat, Int.reduceLE, Int.reduceLT, Int.reduceEq, Int.reduceNe, Int.reduceBEq, Int.reduceBNe, Nat.reduceBEq, Nat.reduceBNe, ↓reduceIte, reduceCtorEq, ↓reduceDIte, W_draw]
  · cases h

theorem ok73 : OkAt Try.prog 73 φContains := by
  refine ok_of (l := [(88, φIndex)]) (.cons ok88 .nil) fn73 fun args r h => ?_
  unfold φContains at h
  split at h
  · rename_i op
    injection h with h; subst h
    refine ⟨by simp, by simp [D.cl], fun H T => ?_⟩
    have e : decide (0 ≤ idx6 op) = good6 op := by
      unfold idx6 good6
      grind
    simp (config := { contextual := true, maxSteps := 10000000 }) only [c73, φIndex, e, go_sem, Nat.reduceAdd, Nat.reduceSub, Nat.reduceMul, Nat.reduceEqDiff, Nat.reduceLeDiff, Nat.reduceLT, Int.reduceToNat, Int.reduceLE, Int.reduceLT, Int.reduceEq, Int.reduceNe, Int.reduceBEq, Int.reduceBNe, Nat.reduceBEq, Nat.reduceBNe, ↓reduceIte, reduceCtorEq, ↓reduceDIte, W_draw]
  · cases h

theorem plain_facts {k i : Int} {s : List UInt8} {n : Nat} (h : plainB k i s n = true) : n = 0 ∧ (k = 3 → i = 0) ∧ (k ≠ 3 → s = []) ∧ 0 ≤ k ∧ k ≤ 4 := by
  refine ⟨plain_leaf h, ?_, ?_, ?_, ?_⟩ <;> unfold plainB at h <;> grind

theorem cmpI_self (a : Int) : cmpI a a = 0 := by simp [cmpI]

theorem cmpI_ne {a b : Int} (h : a ≠ b) : cmpI a b ≠ 0 := by unfold cmpI; split <;> (try split) <;> omega

theorem or3_eq {a b : D} (ha : one1 a = true) (hb : one1 b = true) : or3 (cmpI (vk a) (vk b)) (cmpI (vi a) (vi b)) (cmpS (vs a) (vs b)) = singleD a b := by
  obtain ⟨_, a1, a2, _⟩ := plain_facts ha
  obtain ⟨_, b1, b2, _⟩ := plain_facts hb
  simp only [or3, singleD, singleI]
  by_cases hk : vk a = vk b
  · by_cases h3 : vk a = 3
    · have e1 := a1 h3
      have e2 := b1 (by omega)
      simp [hk, cmpI_self, e1, e2, show vk b = 3 by omega]
    · have e1 := a2 h3
      have e2 := b2 (by omega)
      have h3' : ¬ vk b = 3 := by omega
      simp only [hk, cmpI_self, e1, e2, cmpS]
      simp [h3']
      intro h; rw [h]
  · have := cmpI_ne hk
    simp [hk, this]

theorem ord_single {a b : D} (ha : one1 a = true) (hb : one1 b = true) (f : D → D → Int) : ordW f a b = singleD a b := by
  have la : vl a = [] := List.length_eq_zero_iff.1 (plain_facts ha).1
  have lb : vl b = [] := List.length_eq_zero_iff.1 (plain_facts hb).1
  unfold ordW
  rw [or3_eq ha hb, la, lb]
  simp only [cmpL]
  split
  · rfl
  · rename_i h; simpa using Eq.symm (show singleD a b = 0 by simpa using h)

theorem okEl_same {xs : List D} {i : Nat} (hp : 0 < i → okEl ord0 xs (i - 1) = true) : okEl ord0 xs i = okEl singleD xs i := by
  unfold okEl
  cases hx : xs[i]? with
  | none => rfl
  | some x =>
    simp only
    by_cases h0 : i = 0
    · simp [h0]
    · have hq := hp (by omega)
      unfold okEl at hq
      cases hy : xs[i - 1]? with
      | none => rfl
      | some y =>
        rw [hy] at hq
        simp only [Bool.and_eq_true] at hq
        by_cases h1 : one1 x = true
        · have : ord0 y x = singleD y x := ord_single hq.1.1.1 h1 f0
          simp only [this]
        · simp [h1]

theorem adj_same (xs : List D) : ∀ n, (List.range n).all (okEl ord0 xs) = (List.range n).all (okEl singleD xs)
  | 0 => rfl
  | n + 1 => by
    rw [all_range_succ, all_range_succ, ← adj_same xs n]
    cases hq : (List.range n).all (okEl ord0 xs) with
    | false => rfl
    | true =>
      simp only [Bool.true_and]
      exact okEl_same fun h0 => List.all_eq_true.1 hq (n - 1) (by simp; omega)

theorem formed_same (d : D) : formedV d = formedB d := by
  unfold formedV formedB
  have : adjB ord0 (vl d) = adjB singleD (vl d) := adj_same _ _
  rw [this]
  grind

theorem el_one {xs : List D} (h : adjB singleD xs = true) : ∀ x ∈ xs, one1 x = true := by
  intro x hx
  obtain ⟨i, hi, rfl⟩ := List.getElem_of_mem hx
  have := List.all_eq_true.1 h i (by simpa using hi)
  unfold okEl at this
  simp only [List.getElem?_eq_getElem hi, Bool.and_eq_true] at this
  exact this.1.1.1

theorem cmpL_same {f g : D → D → Int} : ∀ {xs ys : List D}, (∀ x ∈ xs, ∀ y ∈ ys, f x y = g x y) → cmpL f xs ys = cmpL g xs ys
  | [], [], _ => rfl
  | [], _ :: _, _ => rfl
  | _ :: _, [], _ => rfl
  | x :: xs, y :: ys, h => by
    simp only [cmpL]
    rw [h x (by simp) y (by simp), cmpL_same fun a ha b hb => h a (by simp [ha]) b (by simp [hb])]

theorem order_same {a b : D} (ha : formedB a = true) (hb : formedB b = true) (hk : vk a = vk b) : ordW ord0 a b = orderR a b := by
  unfold formedB at ha hb
  by_cases h5 : vk a = 5
  · have h5' : vk b = 5 := by omega
    simp only [h5, bne_self_eq_false, Bool.false_eq_true, if_false] at ha
    simp only [h5', bne_self_eq_false, Bool.false_eq_true, if_false] at hb
    split at ha
    · cases ha
    · rename_i qa
      split at hb
      · cases hb
      · rename_i qb
        simp only [Bool.or_eq_true, not_or, bne_iff_ne, ne_eq, Decidable.not_not] at qa qb
        have e := cmpL_same (f := ord0) (g := singleD) (xs := vl a) (ys := vl b) fun x hx y hy => ord_single (el_one ha x hx) (el_one hb y hy) f0
        simp [ordW, orderR, h5, h5', qa.1.1, qb.1.1, qa.1.2, qb.1.2, or3, cmpI_self, cmpS, e]
  · have h5' : ¬ vk b = 5 := by omega
    have oa : one1 a = true := by simpa [h5] using ha
    have ob : one1 b = true := by simpa [h5'] using hb
    rw [ord_single oa ob]
    simp [orderR, h5]

def Tri (c : Int) : Prop := c = -1 ∨ c = 0 ∨ c = 1

theorem cmpI_tri (a b : Int) : Tri (cmpI a b) := by unfold cmpI Tri; split <;> (try split) <;> simp

theorem cmpS_tri : ∀ (a b : List UInt8), Tri (cmpS a b)
  | [], [] => by simp [cmpS, Tri]
  | [], _ :: _ => by simp [cmpS, Tri]
  | _ :: _, [] => by simp [cmpS, Tri]
  | x :: a, y :: b => by
    simp only [cmpS]
    split
    · simp [Tri]
    · split
      · simp [Tri]
      · exact cmpS_tri a b

theorem single_tri (a b : D) : Tri (singleD a b) := by
  unfold singleD singleI
  split
  · exact cmpI_tri _ _
  · split
    · exact cmpS_tri _ _
    · exact cmpI_tri _ _

theorem cmpL_tri {f : D → D → Int} (h : ∀ a b, Tri (f a b)) : ∀ (xs ys : List D), Tri (cmpL f xs ys)
  | [], [] => by simp [cmpL, Tri]
  | [], _ :: _ => by simp [cmpL, Tri]
  | _ :: _, [] => by simp [cmpL, Tri]
  | x :: xs, y :: ys => by
    simp only [cmpL]
    split
    · exact h x y
    · exact cmpL_tri h xs ys

theorem order_tri (a b : D) : Tri (orderR a b) := by
  unfold orderR
  split
  · exact single_tri _ _
  · exact cmpL_tri single_tri _ _

theorem op_same {op : List UInt8} {c : Int} (h : Tri c) : opV op c = opR op c := by
  unfold Tri at h
  rcases h with rfl | rfl | rfl <;> simp [opV, opR]

theorem formed_leaf {d : D} (h : formedB d = true) : (vl d).all leaf = true := by
  unfold formedB at h
  split at h
  · rw [List.length_eq_zero_iff.1 (plain_facts h).1]; rfl
  · split at h
    · cases h
    · refine List.all_eq_true.2 fun x hx => ?_
      have := el_one h x hx
      simp [leaf, List.length_eq_zero_iff.1 (plain_facts this).1]

def cmpV (op : List UInt8) (a b : D) : D :=
  if !(formedB a) || !(formedB b) || !(good6 op) then .tup [.bool false, .int .i64 1] else
  if wrongOp op (vk a) (vk b) then .tup [.bool false, .int .i64 6] else .tup [.bool (opV op (ordW ord0 a b)), .int .i64 0]

def φCompareV : List D → Option D
  | [.str op, a, b] => if a.isV = true ∧ b.isV = true then some (cmpV op a b) else none
  | _ => none

theorem ok81 : OkAt Try.prog 81 φCompareV := by
  refine ok_of (l := [(40, φFormed), (73, φContains), (59, φOrd leaf ord0)]) (.cons ok40 (.cons ok73 (.cons ok59b .nil))) fn81 fun args r h => ?_
  unfold φCompareV at h
  split at h
  · split at h
    · rename_i op a b hab
      injection h with h; subst h
      refine ⟨by simp, by unfold cmpV; split <;> (try split) <;> simp [D.cl, D.clL], fun H T => ?_⟩
      obtain ⟨ha, hb⟩ := hab
      have pa : φFormed [a] = some (.bool (formedB a)) := by simp [φFormed, ha, formed_same]
      have pb : φFormed [b] = some (.bool (formedB b)) := by simp [φFormed, hb, formed_same]
      have pc : formedB a = true → formedB b = true → φOrd leaf ord0 [a, b] = some (.int .i64 (ordW ord0 a b)) := fun h1 h2 => by simp [φOrd, ha, hb, formed_leaf h1, formed_leaf h2]
      have E : cmpV op a b = if !(formedB a) || !(formedB b) || !(good6 op) then .tup [.bool false, .int .i64 1] else
  if wrongOp op (vk a) (vk b) then .tup [.bool false, .int .i64 6] else .tup [.bool (opV op (ordW ord0 a b)), .int .i64 0] := rfl
      rw [E]
      generalize ordW ord0 a b = o at pc
      generalize formedB a = fa at pa pc
      generalize formedB b = fb at pb pc
      obtain ⟨k1, i1, s1, n1, xs, rfl, z1, y1, hV1⟩ := isV_elim ha
      obtain ⟨k2, i2, s2, n2, ys, rfl, z2, y2, hV2⟩ := isV_elim hb
      have r1 := erase_of_isV hV1
      have r2 := erase_of_isV hV2
      simp only [vk_mk]
      simp only [mkV] at pa pb pc
      cases fa with
      | false => simp (config := { contextual := true, maxSteps := 10000000 }) only [c81, mkV, r1, r2, pa, pb, go_sem, Nat.reduceAdd, Nat.reduceSub, Nat.reduceMul, Nat.reduceEqDiff, Nat.reduceLeDiff, Nat.reduceLT, Int.reduceToNat, Int.reduceLE, Int.reduceLT, Int.reduceEq, Int.reduceNe, Int.reduceBEq, Int.reduceBNe, Nat.reduceBEq, Nat.reduceBNe, ↓reduceIte, reduceCtorEq, ↓reduceDIte, W_draw]
      | true =>
        cases fb with
        | false => simp (config := { contextual := true, maxSteps := 10000000 }) only [c81, mkV, r1, r2, pa, pb, go_sem, Nat.reduceAdd, Nat.reduceSub, Nat.reduceMul, Nat.reduceEqDiff, Nat.reduceLeDiff, Nat.reduceLT, Int.reduceToNat, Int.reduceLE, Int.reduceLT, Int.reduceEq, Int.reduceNe, Int.reduceBEq, Int.reduceBNe, Nat.reduceBEq, Nat.reduceBNe, ↓reduceIte, reduceCtorEq, ↓reduceDIte, W_draw]
        | true =>
          have pc := pc rfl rfl
          cases hg : good6 op with
          | false => simp (config := { contextual := true, maxSteps := 10000000 }) only [c81, mkV, r1, r2, pa, pb, φContains, hg, fit_eq, go_sem, Nat.reduceAdd, Nat.reduceSub, Nat.reduceMul, Nat.reduceEqDiff, Nat.reduceLeDiff, Nat.reduceLT, Int.reduceToNat, Int.reduceLE, Int.reduceLT, Int.reduceEq, Int.reduceNe, Int.reduceBEq, Int.reduceBNe, Nat.reduceBEq, Nat.reduceBNe, ↓reduceIte, reduceCtorEq, ↓reduceDIte, W_draw]
          | true =>
            simp (config := { contextual := true, maxSteps := 10000000 }) only [c81, mkV, r1, r2, pa, pb, pc, φContains, hg, fit_eq, go_sem, Nat.reduceAdd, Nat.reduceSub, Nat.reduceMul, Nat.reduceEqDiff, Nat.reduceLeDiff, Nat.reduceLT, Int.reduceToNat, Int.reduceLE, Int.reduceLT, Int.reduceEq, Int.reduceNe, Int.reduceBEq, Int.reduceBNe, Nat.reduceBEq, Nat.reduceBNe, ↓reduceIte, reduceCtorEq, ↓reduceDIte, W_draw]
            repeat' (first | apply And.intro | intro _)
            all_goals grind [wrongOp, opV]
    · cases h
  · cases h
end GP
