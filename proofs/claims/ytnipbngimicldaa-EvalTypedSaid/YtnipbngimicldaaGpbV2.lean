import Derived.Test.YtnipbngimicldaaGpbV1
set_option linter.unusedSimpArgs false
namespace GP
open Go Go.Proofs
set_option maxRecDepth 100000

theorem wrap_pred (n : Nat) (h : n < 2 ^ 61) (h0 : 0 < n) : IntKind.i64.wrap ((n : Int) - 1) = ((n - 1 : Nat) : Int) := by
  rw [wrap_of _ (by omega) (by omega)]; omega

theorem all_range_succ {p : Nat → Bool} (i : Nat) : (List.range (i + 1)).all p = ((List.range i).all p && p i) := by
  rw [List.range_succ]; simp

theorem range_false_of {p : Nat → Bool} {i m : Nat} (hp : p i = false) (him : i < m) : (List.range m).all p = false := by
  cases hq : (List.range m).all p with
  | false => rfl
  | true => rw [List.all_eq_true.1 hq i (by simpa using him)] at hp; cases hp

def one1 (d : D) : Bool := plainB (vk d) (vi d) (vs d) (vl d).length

def vk0 : List D → Int
  | x :: _ => vk x
  | [] => 0

/-- Of a bag's element: it is plain, of a kind, of the first one's kind, and behind the one before. -/
def okEl (cmp : D → D → Int) (xs : List D) (i : Nat) : Bool := match xs[i]? with
  | none => true
  | some x => one1 x && (vk x != 0) && (vk x == vk0 xs) && (i == 0 || (match xs[i - 1]? with | some y => decide (cmp y x < 0) | none => false))

def adjB (cmp : D → D → Int) (xs : List D) : Bool := (List.range xs.length).all (okEl cmp xs)

def singleD (a b : D) : Int := singleI (vk a) (vi a) (vs a) (vk b) (vi b) (vs b)

/-- Formed, as the chapter says. -/
def formedB (d : D) : Bool := if vk d != 5 then one1 d else if (vi d != 0) || (vs d != []) || decide ((16 : Int) < (vl d).length) then false else adjB singleD (vl d)

def φformed : List D → Option D
  | [d] => if d.isV = true then some (.bool (formedB d)) else none
  | _ => none

theorem vk0_get {xs : List D} {k i : Int} {s : List UInt8} {n : Bool} {l : List D} (h : xs[0]? = some (mkV k i s n l)) : vk0 xs = k := by
  cases xs with
  | nil => simp at h
  | cons x xs => simp at h; subst h; rfl

theorem erase_of_isV {l : List D} (h : ∀ x ∈ l, x.isV = true) : D.eraseL l = l := isVs_erase (isVs_iff.2 h)

theorem get_isV {xs : List D} (h : ∀ x ∈ xs, x.isV = true) {i : Nat} (hi : i < xs.length) : ∃ k i' s n l, xs[i]? = some (mkV k i' s n l) ∧ s.length ≤ 2 ^ 47 ∧ l.length ≤ 2 ^ 47 ∧ (∀ x ∈ l, x.isV = true) ∧ D.eraseL l = l := by
  obtain ⟨k, i', s, n, l, he, h1, h2, h3⟩ := isV_elim (h _ (List.getElem_mem hi))
  exact ⟨k, i', s, n, l, by rw [← he]; simp [hi], h1, h2, h3, erase_of_isV h3⟩

theorem ok18 : OkAt Try.prog 18 φformed := by
  refine ok_of (l := [(37, φone), (38, φsingle)]) (.cons ok37 (.cons ok38 .nil)) fn18 fun args r h => ?_
  unfold φformed at h
  split at h
  · split at h
    · rename_i d hd
      injection h with h; subst h
      refine ⟨by simp, by simp [D.cl], fun H T => ?_⟩
      obtain ⟨k, i, s, n, xs, rfl, hs, hx, hV⟩ := isV_elim hd
      have eL := erase_of_isV hV
      have F : formedB (mkV k i s n xs) = if k != 5 then plainB k i s xs.length else if (i != 0) || (s != []) || decide ((16 : Int) < xs.length) then false else adjB singleD xs := by simp only [formedB, one1, vk_mk, vi_mk, vs_mk, vl_mk]
      rw [F]
      simp (config := { contextual := true, maxSteps := 10000000 }) only [c18, mkV, φone, eL, go_sem, Nat.reduceAdd, Nat.reduceSub, Nat.reduceMul, Nat.reduceEqDiff, Nat.reduceLeDiff, Nat.reduceLT, Int.reduceToNat, Int.reduceLE, Int.reduceLT, Int.reduceEq, Int.reduceNe, Int.reduceBEq, Int.reduceBNe, Nat.reduceBEq, Nat.reduceBNe, ↓reduceIte, reduceCtorEq, ↓reduceDIte, W_draw]
      intro q1 q2 q3 q4
      refine W_for (fun j s' => s'.t 1 = .ptr H.length 0 ∧ s'.t 3 = .int .i64 j ∧ s'.H = H ++ [.row [.int .i64 k, .int .i64 i, .str s, sliceD n xs]] ∧ s'.T = T ∧ j ≤ xs.length ∧ (List.range j).all (okEl singleD xs) = true) xs.length ⟨0, by simp [upd, argT]⟩ (fun i s h => h.2.2.2.2.1) ?_ (XL_mono _)
      rintro j ⟨t, H', T'⟩ ⟨h1, h3, rfl, rfl, hj, hc⟩
      simp only at h1 h3
      by_cases ha : j < xs.length
      · have d1 : decide ((j : Int) < xs.length) = true := by simpa using ha
        obtain ⟨k1, i1, s1, n1, l1, e1, hs1, hx1, hV1, eL1⟩ := get_isV hV ha
        obtain ⟨k0, i0, s0, n0, l0, e0, _⟩ := get_isV hV (show 0 < xs.length by omega)
        have fk := vk0_get e0
        by_cases hj0 : 0 < j
        · obtain ⟨k2, i2, s2, n2, l2, e2, hs2, hx2, hV2, eL2⟩ := get_isV hV (show j - 1 < xs.length by omega)
          have d2 : decide ((0 : Int) < j) = true := by simpa using hj0
          have G : okEl singleD xs j = (plainB k1 i1 s1 l1.length && (k1 != 0) && (k1 == k0) && decide (singleI k2 i2 s2 k1 i1 s1 < 0)) := by
            have : (j == 0) = false := by simp; omega
            simp only [okEl, e1, e2, fk, one1, singleD, vk_mk, vi_mk, vs_mk, vl_mk, this, Bool.false_or]
          have bad : okEl singleD xs j = false → adjB singleD xs = false := fun h => range_false_of h ha
          simp (config := { contextual := true, maxSteps := 10000000 }) only [h1, h3, d1, d2, e0, e1, e2, mkV, φone, φsingle, eL1, eL2, wrap_pred j (by omega) hj0, wrap_succ j (by omega), hs1, hs2, Option.isSome_some, go_sem, Nat.reduceAdd, Nat.reduceSub, Nat.reduceMul, Nat.reduceEqDiff, Nat.reduceLeDiff, Nat.reduceLT, Int.reduceToNat, Int.reduceLE, Int.reduceLT, Int.reduceEq, Int.reduceNe, Int.reduceBEq, Int.reduceBNe, Nat.reduceBEq, Nat.reduceBNe, ↓reduceIte, reduceCtorEq, ↓reduceDIte, W_draw]
          refine ⟨fun q => ?_, fun p1 => ⟨fun q => ?_, fun p2 => ⟨fun q => ?_, fun p3 => ⟨fun q => ?_, fun p4 => ⟨by omega, ?_⟩⟩⟩⟩⟩
          · rw [bad (by rw [G]; grind)]
          · rw [bad (by rw [G]; grind)]
          · rw [bad (by rw [G]; grind)]
          · rw [bad (by rw [G]; grind)]
          · rw [List.all_append, hc]
            simp only [List.all_cons, List.all_nil, G]
            grind
        · have d2 : decide ((0 : Int) < j) = false := by simpa using hj0
          have G : okEl singleD xs j = (plainB k1 i1 s1 l1.length && (k1 != 0) && (k1 == k0)) := by
            have : (j == 0) = true := by simp; omega
            simp only [okEl, e1, fk, one1, singleD, vk_mk, vi_mk, vs_mk, vl_mk, this, Bool.true_or, Bool.and_true]
          have bad : okEl singleD xs j = false → adjB singleD xs = false := fun h => range_false_of h ha
          simp (config := { contextual := true, maxSteps := 10000000 }) only [h1, h3, d1, d2, e0, e1, mkV, φone, φsingle, eL1, wrap_succ j (by omega), hs1, Option.isSome_some, go_sem, Nat.reduceAdd, Nat.reduceSub, Nat.reduceMul, Nat.reduceEqDiff, Nat.reduceLeDiff, Nat.reduceLT, Int.reduceToNat, Int.reduceLE, Int.reduceLT, Int.reduceEq, Int.reduceNe, Int.reduceBEq, Int.reduceBNe, Nat.reduceBEq, Nat.reduceBNe, ↓reduceIte, reduceCtorEq, ↓reduceDIte, W_draw]
          refine ⟨fun q => ?_, fun p1 => ⟨fun q => ?_, fun p2 => ⟨fun q => ?_, fun p3 => ⟨by omega, ?_⟩⟩⟩⟩
          · rw [bad (by rw [G]; grind)]
          · rw [bad (by rw [G]; grind)]
          · rw [bad (by rw [G]; grind)]
          · rw [List.all_append, hc]
            simp only [List.all_cons, List.all_nil, G]
            grind
      · have d1 : decide ((j : Int) < xs.length) = false := by simpa using ha
        have hA : adjB singleD xs = true := by
          have : j = xs.length := by omega
          subst this; exact hc
        simp (config := { contextual := true, maxSteps := 10000000 }) only [h1, h3, d1, mkV, hA, go_sem, Nat.reduceAdd, Nat.reduceSub, Nat.reduceMul, Nat.reduceEqDiff, Nat.reduceLeDiff, Nat.reduceLT, Int.reduceToNat, Int.reduceLE, Int.reduceLT, Int.reduceEq, Int.reduceNe, Int.reduceBEq, Int.reduceBNe, Nat.reduceBEq, Nat.reduceBNe, ↓reduceIte, reduceCtorEq, ↓reduceDIte, W_draw]
    · cases h
  · cases h

theorem putRow_app (n off : Nat) (v : D) (M : Hp) : ∀ (L : Hp) (i : Nat), putRow n off v (L ++ M) (L.length + i) = (putRow n off v M i).map (L ++ ·)
  | [], i => by simp
  | x :: L, i => by
    have e : (x :: L).length + i = (L.length + i) + 1 := by simp; omega
    rw [e, List.cons_append, putRow_s, putRow_app n off v M L i]
    cases putRow n off v M i <;> simp

@[go_sem] theorem putRow_app' (n off : Nat) (v : D) (L M : Hp) (i : Nat) : putRow n off v (L ++ M) (L.length + i) = (putRow n off v M i).map (L ++ ·) := putRow_app n off v M L i

@[go_sem] theorem putRow_app0 (n off : Nat) (v : D) (L M : Hp) : putRow n off v (L ++ M) L.length = (putRow n off v M 0).map (L ++ ·) := putRow_app n off v M L 0

def or3 (a b c : Int) : Int := if a != 0 then a else if b != 0 then b else c

def φOr : List D → Option D
  | [.sl none [.int .i64 a, .int .i64 b, .int .i64 c]] => some (.int .i64 (or3 a b c))
  | _ => none

theorem ok82 : OkAt Try.prog 82 φOr := by
  refine ok_of (l := []) .nil fn82 fun args r h => ?_
  unfold φOr at h
  split at h
  · injection h with h; subst h
    rename_i a b c
    refine ⟨by simp, by simp [D.cl], fun H T => ?_⟩
    simp (config := { contextual := true, maxSteps := 10000000 }) only [c82, go_sem, Nat.reduceAdd, Nat.reduceSub, Nat.reduceMul, Nat.reduceEqDiff, Nat.reduceLeDiff, Nat.reduceLT, Int.reduceToNat, Int.reduceLE, Int.reduceLT, Int.reduceEq, Int.reduceNe, Int.reduceBEq, Int.reduceBNe, Nat.reduceBEq, Nat.reduceBNe, ↓reduceIte, reduceCtorEq, ↓reduceDIte, W_draw]
    refine W_for (fun i s => s.t 3 = .int .i64 0 ∧ s.t 6 = .sl none [.int .i64 a, .int .i64 b, .int .i64 c] ∧ s.t 7 = .int .i64 3 ∧ s.t 8 = .int .i64 i ∧ s.H = H ∧ s.T = T ∧ i ≤ 3 ∧ (1 ≤ i → a = 0) ∧ (2 ≤ i → b = 0) ∧ (3 ≤ i → c = 0)) 3 ⟨0, by simp [upd, argT]⟩ (fun i s h => h.2.2.2.2.2.2.1) ?_ (XL_mono _)
    rintro i ⟨t, H', T'⟩ ⟨h3, h6, h7, h8, rfl, rfl, hi, z1, z2, z3⟩
    simp only at h3 h6 h7 h8
    have w1 : IntKind.i64.wrap 1 = 1 := by decide
    have w2 : IntKind.i64.wrap 2 = 2 := by decide
    have w3 : IntKind.i64.wrap 3 = 3 := by decide
    match i, hi with
    | 0, _ =>
      simp (config := { contextual := true, maxSteps := 10000000 }) only [h3, h6, h7, h8, or3, w1, Int.reduceAdd, go_sem, Nat.reduceAdd, Nat.reduceSub, Nat.reduceMul, Nat.reduceEqDiff, Nat.reduceLeDiff, Nat.reduceLT, Int.reduceToNat, Int.reduceLE, Int.reduceLT, Int.reduceEq, Int.reduceNe, Int.reduceBEq, Int.reduceBNe, Nat.reduceBEq, Nat.reduceBNe, ↓reduceIte, reduceCtorEq, ↓reduceDIte, W_draw]
      grind
    | 1, _ =>
      have := z1 (by omega); subst this
      simp (config := { contextual := true, maxSteps := 10000000 }) only [h3, h6, h7, h8, or3, w2, Int.reduceAdd, go_sem, Nat.reduceAdd, Nat.reduceSub, Nat.reduceMul, Nat.reduceEqDiff, Nat.reduceLeDiff, Nat.reduceLT, Int.reduceToNat, Int.reduceLE, Int.reduceLT, Int.reduceEq, Int.reduceNe, Int.reduceBEq, Int.reduceBNe, Nat.reduceBEq, Nat.reduceBNe, ↓reduceIte, reduceCtorEq, ↓reduceDIte, W_draw]
      grind
    | 2, _ =>
      have := z1 (by omega); subst this
      have := z2 (by omega); subst this
      simp (config := { contextual := true, maxSteps := 10000000 }) only [h3, h6, h7, h8, or3, w3, Int.reduceAdd, go_sem, Nat.reduceAdd, Nat.reduceSub, Nat.reduceMul, Nat.reduceEqDiff, Nat.reduceLeDiff, Nat.reduceLT, Int.reduceToNat, Int.reduceLE, Int.reduceLT, Int.reduceEq, Int.reduceNe, Int.reduceBEq, Int.reduceBNe, Nat.reduceBEq, Nat.reduceBNe, ↓reduceIte, reduceCtorEq, ↓reduceDIte, W_draw]
      grind
    | 3, _ =>
      have := z1 (by omega); subst this
      have := z2 (by omega); subst this
      have := z3 (by omega); subst this
      simp (config := { contextual := true, maxSteps := 10000000 }) only [h3, h6, h7, h8, or3, go_sem, Nat.reduceAdd, Nat.reduceSub, Nat.reduceMul, Nat.reduceEqDiff, Nat.reduceLeDiff, Nat.reduceLT, Int.reduceToNat, Int.reduceLE, Int.reduceLT, Int.reduceEq, Int.reduceNe, Int.reduceBEq, Int.reduceBNe, Nat.reduceBEq, Nat.reduceBNe, ↓reduceIte, reduceCtorEq, ↓reduceDIte, W_draw]
  · cases h

def cmpL (f : D → D → Int) : List D → List D → Int
  | [], [] => 0
  | [], _ :: _ => -1
  | _ :: _, [] => 1
  | x :: xs, y :: ys => if f x y != 0 then f x y else cmpL f xs ys

def φCF (dom : D → Bool) (f : D → D → Int) : List D → Option D
  | [l1, l2, .fn 59 [] []] => if isSl l1 = true ∧ isSl l2 = true ∧ D.isVs (elems l1) = true ∧ D.isVs (elems l2) = true ∧ (elems l1).all dom = true ∧ (elems l2).all dom = true ∧ (elems l1).length ≤ 2 ^ 47 ∧ (elems l2).length ≤ 2 ^ 47 then some (.int .i64 (cmpL f (elems l1) (elems l2))) else none
  | _ => none

theorem ok86 {φ : List D → Option D} (h13 : OkAt Try.prog 59 φ) {dom : D → Bool} {f : D → D → Int} (hφ : ∀ x y, x.isV = true → y.isV = true → dom x = true → dom y = true → φ [x, y] = some (.int .i64 (f x y))) : OkAt Try.prog 86 (φCF dom f) := by
  refine ok_of (l := [(59, φ)]) (.cons h13 .nil) fn86 fun args r h => ?_
  unfold φCF at h
  split at h
  · split at h
    · rename_i l1 l2 hl
      injection h with h; subst h
      refine ⟨by simp, by simp [D.cl], fun H T => ?_⟩
      obtain ⟨g1, g2, g3, g4, g5, g6, g7, g8⟩ := hl
      obtain ⟨b1, hb1⟩ := isSl_elim g1
      obtain ⟨b2, hb2⟩ := isSl_elim g2
      generalize elems l1 = xs at *
      generalize elems l2 = ys at *
      subst hb1; subst hb2
      have hV1 := isVs_iff.1 g3
      have hV2 := isVs_iff.1 g4
      simp (config := { contextual := true, maxSteps := 10000000 }) only [c86, go_sem, Nat.reduceAdd, Nat.reduceSub, Nat.reduceMul, Nat.reduceEqDiff, Nat.reduceLeDiff, Nat.reduceLT, Int.reduceToNat, Int.reduceLE, Int.reduceLT, Int.reduceEq, Int.reduceNe, Int.reduceBEq, Int.reduceBNe, Nat.reduceBEq, Nat.reduceBNe, ↓reduceIte, reduceCtorEq, ↓reduceDIte, W_draw]
      refine W_for (fun i s => s.t 0 = sliceD b1 xs ∧ s.t 1 = sliceD b2 ys ∧ s.t 2 = .fn 59 [] [] ∧ s.t 11 = sliceD b1 xs ∧ s.t 12 = .int .i64 xs.length ∧ s.t 13 = .int .i64 i ∧ (∃ L, s.H = H ++ L) ∧ s.T = T ∧ i ≤ xs.length ∧ i ≤ ys.length ∧ cmpL f (xs.drop i) (ys.drop i) = cmpL f xs ys) xs.length ⟨0, by simp [upd, argT]⟩ (fun i s h => h.2.2.2.2.2.2.2.2.1) ?_ (XL_mono _)
      rintro i ⟨t, H', T'⟩ ⟨h0, h1, h2, h11, h12, h13, ⟨L, rfl⟩, rfl, hi, hj, hc⟩
      simp only at h0 h1 h2 h11 h12 h13
      by_cases ha : i < xs.length
      · have d1 : decide ((i : Int) < xs.length) = true := by simpa using ha
        obtain ⟨k1, i1, s1, n1, q1, e1, _, _, v1, r1⟩ := get_isV hV1 ha
        by_cases hb : i < ys.length
        · have d2 : decide ((ys.length : Int) ≤ i) = false := by simp; omega
          obtain ⟨k2, i2, s2, n2, q2, e2, _, _, v2, r2⟩ := get_isV hV2 hb
          have x1 : xs[i] = mkV k1 i1 s1 n1 q1 := by rw [List.getElem?_eq_getElem ha] at e1; exact Option.some.inj e1
          have x2 : ys[i] = mkV k2 i2 s2 n2 q2 := by rw [List.getElem?_eq_getElem hb] at e2; exact Option.some.inj e2
          have p := hφ _ _ (hV1 _ (List.getElem_mem ha)) (hV2 _ (List.getElem_mem hb)) (List.all_eq_true.1 g5 _ (List.getElem_mem ha)) (List.all_eq_true.1 g6 _ (List.getElem_mem hb))
          rw [List.drop_eq_getElem_cons ha, List.drop_eq_getElem_cons hb, cmpL] at hc
          rw [x1, x2] at p hc
          generalize f (mkV k1 i1 s1 n1 q1) (mkV k2 i2 s2 n2 q2) = F at p hc
          simp only [mkV] at p
          simp (config := { contextual := true, maxSteps := 10000000 }) only [h0, h1, h2, h11, h12, h13, d1, d2, e1, e2, mkV, p, r1, r2, wrap_succ i (by omega), go_sem, Nat.reduceAdd, Nat.reduceSub, Nat.reduceMul, Nat.reduceEqDiff, Nat.reduceLeDiff, Nat.reduceLT, Int.reduceToNat, Int.reduceLE, Int.reduceLT, Int.reduceEq, Int.reduceNe, Int.reduceBEq, Int.reduceBNe, Nat.reduceBEq, Nat.reduceBNe, ↓reduceIte, reduceCtorEq, ↓reduceDIte, W_draw]
          refine ⟨fun q => ?_, fun q => ⟨⟨_, rfl⟩, by omega, by omega, ?_⟩⟩
          · rw [if_pos q] at hc; rw [hc]
          · rw [if_neg (by rw [q]; decide)] at hc; exact hc
        · have d2 : decide ((ys.length : Int) ≤ i) = true := by simp; omega
          rw [List.drop_eq_getElem_cons ha, List.drop_eq_nil_of_le (by omega : ys.length ≤ i), cmpL] at hc
          simp (config := { contextual := true, maxSteps := 10000000 }) only [h0, h1, h2, h11, h12, h13, d1, d2, e1, mkV, ← hc, go_sem, Nat.reduceAdd, Nat.reduceSub, Nat.reduceMul, Nat.reduceEqDiff, Nat.reduceLeDiff, Nat.reduceLT, Int.reduceToNat, Int.reduceLE, Int.reduceLT, Int.reduceEq, Int.reduceNe, Int.reduceBEq, Int.reduceBNe, Nat.reduceBEq, Nat.reduceBNe, ↓reduceIte, reduceCtorEq, ↓reduceDIte, W_draw]
      · have d1 : decide ((i : Int) < xs.length) = false := by simpa using ha
        rw [List.drop_eq_nil_of_le (by omega : xs.length ≤ i)] at hc
        by_cases hb : i < ys.length
        · have d2 : decide ((xs.length : Int) < ys.length) = true := by simp; omega
          rw [List.drop_eq_getElem_cons hb, cmpL] at hc
          simp (config := { contextual := true, maxSteps := 10000000 }) only [h0, h1, h2, h11, h12, h13, d1, d2, ← hc, go_sem, Nat.reduceAdd, Nat.reduceSub, Nat.reduceMul, Nat.reduceEqDiff, Nat.reduceLeDiff, Nat.reduceLT, Int.reduceToNat, Int.reduceLE, Int.reduceLT, Int.reduceEq, Int.reduceNe, Int.reduceBEq, Int.reduceBNe, Nat.reduceBEq, Nat.reduceBNe, ↓reduceIte, reduceCtorEq, ↓reduceDIte, W_draw]
        · have d2 : decide ((xs.length : Int) < ys.length) = false := by simp; omega
          rw [List.drop_eq_nil_of_le (by omega : ys.length ≤ i), cmpL] at hc
          simp (config := { contextual := true, maxSteps := 10000000 }) only [h0, h1, h2, h11, h12, h13, d1, d2, ← hc, go_sem, Nat.reduceAdd, Nat.reduceSub, Nat.reduceMul, Nat.reduceEqDiff, Nat.reduceLeDiff, Nat.reduceLT, Int.reduceToNat, Int.reduceLE, Int.reduceLT, Int.reduceEq, Int.reduceNe, Int.reduceBEq, Int.reduceBNe, Nat.reduceBEq, Nat.reduceBNe, ↓reduceIte, reduceCtorEq, ↓reduceDIte, W_draw]
    · cases h
  · cases h

def ordW (f : D → D → Int) (a b : D) : Int :=
  if or3 (cmpI (vk a) (vk b)) (cmpI (vi a) (vi b)) (cmpS (vs a) (vs b)) != 0 then or3 (cmpI (vk a) (vk b)) (cmpI (vi a) (vi b)) (cmpS (vs a) (vs b)) else cmpL f (vl a) (vl b)

def φOrd (dom : D → Bool) (f : D → D → Int) : List D → Option D
  | [a, b] => if a.isV = true ∧ b.isV = true ∧ (vl a).all dom = true ∧ (vl b).all dom = true then some (.int .i64 (ordW f a b)) else none
  | _ => none

theorem ok59 {dom : D → Bool} {f : D → D → Int} (h38 : OkAt Try.prog 86 (φCF dom f)) : OkAt Try.prog 59 (φOrd dom f) := by
  refine ok_of (l := [(83, φnumbers), (84, φnumbers), (85, φcmp), (82, φOr), (86, φCF dom f)]) (.cons ok83 (.cons ok84 (.cons ok85 (.cons ok82 (.cons h38 .nil))))) fn59 fun args r h => ?_
  unfold φOrd at h
  split at h
  · split at h
    · rename_i a b hab
      injection h with h; subst h
      refine ⟨by simp, by simp [D.cl], fun H T => ?_⟩
      obtain ⟨ha, hb, hda, hdb⟩ := hab
      obtain ⟨k1, i1, s1, n1, l1, rfl, z1, y1, hV1⟩ := isV_elim ha
      obtain ⟨k2, i2, s2, n2, l2, rfl, z2, y2, hV2⟩ := isV_elim hb
      simp only [vl_mk] at hda hdb
      have r1 := erase_of_isV hV1
      have r2 := erase_of_isV hV2
      have p : φCF dom f [sliceD n1 l1, sliceD n2 l2, .fn 59 [] []] = some (.int .i64 (cmpL f l1 l2)) := by
        simp only [φCF, isSl_sliceD, elems_sliceD, isVs_iff.2 hV1, isVs_iff.2 hV2, hda, hdb, y1, y2, and_self, if_true]
      have q : ordW f (mkV k1 i1 s1 n1 l1) (mkV k2 i2 s2 n2 l2) = if or3 (cmpI k1 k2) (cmpI i1 i2) (cmpS s1 s2) != 0 then or3 (cmpI k1 k2) (cmpI i1 i2) (cmpS s1 s2) else cmpL f l1 l2 := by
        simp only [ordW, vk_mk, vi_mk, vs_mk, vl_mk]
      rw [q]
      simp (config := { contextual := true, maxSteps := 10000000 }) only [c59, mkV, φnumbers, φcmp, φOr, r1, r2, p, fit_eq, go_sem, Nat.reduceAdd, Nat.reduceSub, Nat.reduceMul, Nat.reduceEqDiff, Nat.reduceLeDiff, Nat.reduceLT, Int.reduceToNat, Int.reduceLE, Int.reduceLT, Int.reduceEq, Int.reduceNe, Int.reduceBEq, Int.reduceBNe, Nat.reduceBEq, Nat.reduceBNe, ↓reduceIte, reduceCtorEq, ↓reduceDIte, W_draw]
    · cases h
  · cases h

theorem ok59none : OkAt Try.prog 59 (fun _ => none) := fun _ _ h => by cases h

def dom0 (_ : D) : Bool := false

def f0 (_ _ : D) : Int := 0

def ord0 := ordW f0

theorem ok59a : OkAt Try.prog 59 (φOrd dom0 f0) := ok59 (ok86 ok59none (fun _ _ _ _ h => by cases h))

def leaf (d : D) : Bool := (vl d).isEmpty

theorem ord_leaf {x y : D} (hx : x.isV = true) (hy : y.isV = true) (h1 : leaf x = true) (h2 : leaf y = true) : φOrd dom0 f0 [x, y] = some (.int .i64 (ord0 x y)) := by
  simp only [leaf, List.isEmpty_iff] at h1 h2
  simp [φOrd, hx, hy, h1, h2, ord0]

theorem ok59b : OkAt Try.prog 59 (φOrd leaf ord0) := ok59 (ok86 ok59a (fun _ _ hx hy h1 h2 => ord_leaf hx hy h1 h2))

/-- Formed, as the program says. -/
def formedV (d : D) : Bool := if vk d != 5 then one1 d else if adjB ord0 (vl d) then (vi d == 0) && (vs d == []) && decide (((vl d).length : Int) ≤ 16) else false

def φFormed : List D → Option D
  | [d] => if d.isV = true then some (.bool (formedV d)) else none
  | _ => none

theorem plain_leaf {k i : Int} {s : List UInt8} {n : Nat} (h : plainB k i s n = true) : n = 0 := by
  unfold plainB at h
  by_cases hn : (0 : Int) < n
  · simp [hn] at h
    exact h.1
  · omega

theorem ok40 : OkAt Try.prog 40 φFormed := by
  refine ok_of (l := [(58, φplain), (59, φOrd dom0 f0)]) (.cons ok58 (.cons ok59a .nil)) fn40 fun args r h => ?_
  unfold φFormed at h
  split at h
  · split at h
    · rename_i d hd
      injection h with h; subst h
      refine ⟨by simp, by simp [D.cl], fun H T => ?_⟩
      obtain ⟨k, i, s, n, xs, rfl, hs, hx, hV⟩ := isV_elim hd
      have eL := erase_of_isV hV
      have F : formedV (mkV k i s n xs) = if k != 5 then plainB k i s xs.length else if adjB ord0 xs then (i == 0) && (s == []) && decide ((xs.length : Int) ≤ 16) else false := by simp only [formedV, one1, vk_mk, vi_mk, vs_mk, vl_mk]
      rw [F]
      simp (config := { contextual := true, maxSteps := 10000000 }) only [c40, mkV, φplain, eL, go_sem, Nat.reduceAdd, Nat.reduceSub, Nat.reduceMul, Nat.reduceEqDiff, Nat.reduceLeDiff, Nat.reduceLT, Int.reduceToNat, Int.reduceLE, Int.reduceLT, Int.reduceEq, Int.reduceNe, Int.reduceBEq, Int.reduceBNe, Nat.reduceBEq, Nat.reduceBNe, ↓reduceIte, reduceCtorEq, ↓reduceDIte, W_draw]
      intro q1
      refine W_for (fun j s' => s'.t 1 = .ptr H.length 0 ∧ s'.t 11 = sliceD n xs ∧ s'.t 12 = .int .i64 xs.length ∧ s'.t 13 = .int .i64 j ∧ (∃ L, s'.H = H ++ .row [.int .i64 k, .int .i64 i, .str s, sliceD n xs] :: L) ∧ s'.T = T ∧ j ≤ xs.length ∧ (List.range j).all (okEl ord0 xs) = true) xs.length ⟨0, by simp [upd, argT]⟩ (fun i s h => h.2.2.2.2.2.2.1) ?_ (XL_mono _)
      rintro j ⟨t, H', T'⟩ ⟨h1, h11, h12, h13, ⟨L, rfl⟩, rfl, hj, hc⟩
      simp only at h1 h11 h12 h13
      by_cases ha : j < xs.length
      · have d1 : decide ((j : Int) < xs.length) = true := by simpa using ha
        obtain ⟨k1, i1, s1, n1, l1, e1, hs1, hx1, hV1, eL1⟩ := get_isV hV ha
        obtain ⟨k0, i0, s0, n0, l0, e0, _⟩ := get_isV hV (show 0 < xs.length by omega)
        have fk := vk0_get e0
        have bad : okEl ord0 xs j = false → adjB ord0 xs = false := fun h => range_false_of h ha
        by_cases hj0 : 0 < j
        · obtain ⟨k2, i2, s2, n2, l2, e2, hs2, hx2, hV2, eL2⟩ := get_isV hV (show j - 1 < xs.length by omega)
          have d2 : decide ((0 : Int) < j) = true := by simpa using hj0
          have pv : okEl ord0 xs (j - 1) = true := List.all_eq_true.1 hc (j - 1) (by simp; omega)
          have lf2 : l2 = [] := by
            simp only [okEl, e2, one1, vk_mk, vi_mk, vs_mk, vl_mk, Bool.and_eq_true] at pv
            exact List.length_eq_zero_iff.1 (plain_leaf pv.1.1.1)
          subst lf2
          generalize ho : ord0 (mkV k2 i2 s2 n2 []) (mkV k1 i1 s1 n1 l1) = o
          have G : okEl ord0 xs j = (plainB k1 i1 s1 l1.length && (k1 != 0) && (k1 == k0) && decide (o < 0)) := by
            have : (j == 0) = false := by simp; omega
            simp only [okEl, e1, e2, fk, one1, ho, vk_mk, vi_mk, vs_mk, vl_mk, this, Bool.false_or]
          by_cases hp : plainB k1 i1 s1 l1.length = true
          · have lf1 : l1 = [] := List.length_eq_zero_iff.1 (plain_leaf hp)
            subst lf1
            have p := ord_leaf (x := mkV k2 i2 s2 n2 []) (y := mkV k1 i1 s1 n1 []) (isV_mk hs2 (by simp) (by simp)) (isV_mk hs1 (by simp) (by simp)) (by simp [leaf, vl_mk]) (by simp [leaf, vl_mk])
            rw [ho] at p
            simp only [mkV] at p
            simp only [List.length_nil] at hp G
            simp (config := { contextual := true, maxSteps := 10000000 }) only [h1, h11, h12, h13, d1, d2, e0, e1, e2, mkV, φplain, p, hp, wrap_pred j (by omega) hj0, wrap_succ j (by omega), go_sem, Nat.reduceAdd, Nat.reduceSub, Nat.reduceMul, Nat.reduceEqDiff, Nat.reduceLeDiff, Nat.reduceLT, Int.reduceToNat, Int.reduceLE, Int.reduceLT, Int.reduceEq, Int.reduceNe, Int.reduceBEq, Int.reduceBNe, Nat.reduceBEq, Nat.reduceBNe, ↓reduceIte, reduceCtorEq, ↓reduceDIte, W_draw]
            refine ⟨fun q => ?_, fun p2 => ⟨fun q => ?_, fun p3 => ⟨fun q => ?_, fun p4 => ⟨⟨_, rfl⟩, by omega, ?_⟩⟩⟩⟩
            · rw [bad (by rw [G]; grind)]; rfl
            · rw [bad (by rw [G]; grind)]; rfl
            · rw [bad (by rw [G]; grind)]; rfl
            · rw [List.all_append, hc]
              simp only [List.all_cons, List.all_nil, G]
              grind
          · have hp' : plainB k1 i1 s1 l1.length = false := by simpa using hp
            have hb := bad (by rw [G, hp']; rfl)
            simp (config := { contextual := true, maxSteps := 10000000 }) only [h1, h11, h12, h13, d1, d2, e0, e1, e2, mkV, φplain, hp', eL1, hb, go_sem, Nat.reduceAdd, Nat.reduceSub, Nat.reduceMul, Nat.reduceEqDiff, Nat.reduceLeDiff, Nat.reduceLT, Int.reduceToNat, Int.reduceLE, Int.reduceLT, Int.reduceEq, Int.reduceNe, Int.reduceBEq, Int.reduceBNe, Nat.reduceBEq, Nat.reduceBNe, ↓reduceIte, reduceCtorEq, ↓reduceDIte, W_draw]
        · have d2 : decide ((0 : Int) < j) = false := by simpa using hj0
          have G : okEl ord0 xs j = (plainB k1 i1 s1 l1.length && (k1 != 0) && (k1 == k0)) := by
            have : (j == 0) = true := by simp; omega
            simp only [okEl, e1, fk, one1, vk_mk, vi_mk, vs_mk, vl_mk, this, Bool.true_or, Bool.and_true]
          simp (config := { contextual := true, maxSteps := 10000000 }) only [h1, h11, h12, h13, d1, d2, e0, e1, mkV, φplain, eL1, wrap_succ j (by omega), go_sem, Nat.reduceAdd, Nat.reduceSub, Nat.reduceMul, Nat.reduceEqDiff, Nat.reduceLeDiff, Nat.reduceLT, Int.reduceToNat, Int.reduceLE, Int.reduceLT, Int.reduceEq, Int.reduceNe, Int.reduceBEq, Int.reduceBNe, Nat.reduceBEq, Nat.reduceBNe, ↓reduceIte, reduceCtorEq, ↓reduceDIte, W_draw]
          refine ⟨fun q => ?_, fun p1 => ⟨fun q => ?_, fun p2 => ⟨fun q => ?_, fun p3 => ⟨⟨_, rfl⟩, by omega, ?_⟩⟩⟩⟩
          · rw [bad (by rw [G]; grind)]; rfl
          · rw [bad (by rw [G]; grind)]; rfl
          · rw [bad (by rw [G]; grind)]; rfl
          · rw [List.all_append, hc]
            simp only [List.all_cons, List.all_nil, G]
            grind
      · have d1 : decide ((j : Int) < xs.length) = false := by simpa using ha
        have hA : adjB ord0 xs = true := by
          have : j = xs.length := by omega
          subst this; exact hc
        simp (config := { contextual := true, maxSteps := 10000000 }) only [h1, h11, h12, h13, d1, mkV, hA, go_sem, Nat.reduceAdd, Nat.reduceSub, Nat.reduceMul, Nat.reduceEqDiff, Nat.reduceLeDiff, Nat.reduceLT, Int.reduceToNat, Int.reduceLE, Int.reduceLT, Int.reduceEq, Int.reduceNe, Int.reduceBEq, Int.reduceBNe, Nat.reduceBEq, Nat.reduceBNe, ↓reduceIte, reduceCtorEq, ↓reduceDIte, W_draw]
    · cases h
  · cases h
end GP
