import Derived.Test.YtoobncfcgknecaaGpF8
set_option linter.unusedSimpArgs false
namespace GP
open Go Go.Proofs
set_option maxRecDepth 10000

theorem wrap_pred (n : Nat) (h : n < 2 ^ 61) (h0 : 0 < n) : IntKind.i64.wrap ((n : Int) - 1) = ((n - 1 : Nat) : Int) := by
  rw [wrap_of _ (by omega) (by omega)]; omega

theorem all_range_succ {p : Nat → Bool} (i : Nat) : (List.range (i + 1)).all p = ((List.range i).all p && p i) := by
  rw [List.range_succ]; simp
theorem range_false_of {p : Nat → Bool} {i m : Nat} (hp : p i = false) (him : i < m) : (List.range m).all p = false := by
  cases hq : (List.range m).all p with
  | false => rfl
  | true => rw [List.all_eq_true.1 hq i (by simpa using him)] at hp; cases hp

def one1 (d : D) : Bool := plainB (vk d) (vi d) (vs d) (vl d).length
def vk0 : List D → Int
  | x :: _ => vk x
  | [] => 0
/-- Of a bag's element: it is plain, of a kind, of the first one's kind, and behind the one before. -/
def okEl (cmp : D → D → Int) (xs : List D) (i : Nat) : Bool := match xs[i]? with
  | none => true
  | some x => one1 x && (vk x != 0) && (vk x == vk0 xs) && (i == 0 || (match xs[i - 1]? with | some y => decide (cmp y x < 0) | none => false))
def adjB (cmp : D → D → Int) (xs : List D) : Bool := (List.range xs.length).all (okEl cmp xs)

def singleD (a b : D) : Int := singleI (vk a) (vi a) (vs a) (vk b) (vi b) (vs b)

/-- Formed, as the chapter says. -/
def formedB (d : D) : Bool := if vk d != 5 then one1 d else if (vi d != 0) || (vs d != []) || decide ((16 : Int) < (vl d).length) then false else adjB singleD (vl d)
def φformed : List D → Option D
  | [d] => if d.isV = true then some (.bool (formedB d)) else none
  | _ => none

theorem vk0_get {xs : List D} {k i : Int} {s : List UInt8} {n : Bool} {l : List D} (h : xs[0]? = some (mkV k i s n l)) : vk0 xs = k := by
  cases xs with
  | nil => simp at h
  | cons x xs => simp at h; subst h; rfl

theorem erase_of_isV {l : List D} (h : ∀ x ∈ l, x.isV = true) : D.eraseL l = l := isVs_erase (isVs_iff.2 h)

theorem get_isV {xs : List D} (h : ∀ x ∈ xs, x.isV = true) {i : Nat} (hi : i < xs.length) : ∃ k i' s n l, xs[i]? = some (mkV k i' s n l) ∧ s.length ≤ 2 ^ 47 ∧ l.length ≤ 2 ^ 47 ∧ (∀ x ∈ l, x.isV = true) ∧ D.eraseL l = l := by
  obtain ⟨k, i', s, n, l, he, h1, h2, h3⟩ := isV_elim (h _ (List.getElem_mem hi))
  exact ⟨k, i', s, n, l, by rw [← he]; simp [hi], h1, h2, h3, erase_of_isV h3⟩

theorem ok12 : OkAt Try.prog 12 φformed := by
  refine ok_of (l := [(32, φone), (33, φsingle)]) (.cons ok32 (.cons ok33 .nil)) fn12 fun args r h => ?_
  unfold φformed at h
  split at h
  · split at h
    · rename_i d hd
      injection h with h; subst h
      refine ⟨by simp, by simp [D.cl], fun H T => ?_⟩
      obtain ⟨k, i, s, n, xs, rfl, hs, hx, hV⟩ := isV_elim hd
      have eL := erase_of_isV hV
      have F : formedB (mkV k i s n xs) = if k != 5 then plainB k i s xs.length else if (i != 0) || (s != []) || decide ((16 : Int) < xs.length) then false else adjB singleD xs := by simp only [formedB, one1, vk_mk, vi_mk, vs_mk, vl_mk]
      rw [F]
      simp (config := { contextual := true, maxSteps := 10000000 }) only [c12, mkV, φone, eL, go_sem, List.map_cons, List.map_nil, List.append_assoc, List.cons_append, List.nil_append, List.append_nil, List.length_append, List.length_cons, List.length_nil, List.take_zero, List.take_succ_cons, List.take_nil, List.drop_zero, List.drop_succ_cons, List.drop_nil, Nat.zero_add, Nat.add_zero, Nat.reduceAdd, Nat.reduceSub, Nat.reduceMul, Nat.reduceEqDiff, Nat.reduceLeDiff, Nat.reduceLT, Int.reduceToNat, Int.reduceLE, Int.reduceLT, Int.reduceEq, Int.reduceNe, Int.reduceBEq, Int.reduceBNe, Nat.reduceBEq, Nat.reduceBNe, ↓reduceIte, reduceCtorEq, ↓reduceDIte, Option.map_some, Option.map_none, true_and, and_true, false_and, and_false, and_self, W_draw, condK_b, WIk_bt, WIk_bf, Bool.true_eq_false, Bool.false_eq_true, Bool.not_true, Bool.not_false, Bool.not_eq_true', Bool.not_eq_false', Bool.true_and, Bool.and_true, Bool.false_and, Bool.and_false, Bool.true_or, Bool.or_true, Bool.false_or, Bool.or_false, Bool.bne_true, Bool.bne_false, Bool.true_bne, Bool.false_bne, Bool.true_beq, Bool.false_beq, Bool.not_not, decide_true, decide_false, false_implies, true_implies, implies_true, forall_const, List.all_cons, List.all_nil, beq_self_eq_true, bne_self_eq_false, Nat.zero_le, Nat.le_refl, List.getElem?_cons_zero, List.getElem?_cons_succ, List.isEmpty_nil, List.isEmpty_cons, Int.cast_ofNat_Int, Int.toNat_zero]
      intro q1 q2 q3 q4
      refine W_for (fun j s' => s'.t 1 = .ptr H.length 0 ∧ s'.t 3 = .int .i64 j ∧ s'.H = H ++ [.row [.int .i64 k, .int .i64 i, .str s, sliceD n xs]] ∧ s'.T = T ∧ j ≤ xs.length ∧ (List.range j).all (okEl singleD xs) = true) xs.length ⟨0, by simp [upd, argT]⟩ (fun i s h => h.2.2.2.2.1) ?_ (XL_mono _)
      rintro j ⟨t, H', T'⟩ ⟨h1, h3, rfl, rfl, hj, hc⟩
      simp only at h1 h3
      by_cases ha : j < xs.length
      · have d1 : decide ((j : Int) < xs.length) = true := by simpa using ha
        obtain ⟨k1, i1, s1, n1, l1, e1, hs1, hx1, hV1, eL1⟩ := get_isV hV ha
        obtain ⟨k0, i0, s0, n0, l0, e0, _⟩ := get_isV hV (show 0 < xs.length by omega)
        have fk := vk0_get e0
        by_cases hj0 : 0 < j
        · obtain ⟨k2, i2, s2, n2, l2, e2, hs2, hx2, hV2, eL2⟩ := get_isV hV (show j - 1 < xs.length by omega)
          have d2 : decide ((0 : Int) < j) = true := by simpa using hj0
          have G : okEl singleD xs j = (plainB k1 i1 s1 l1.length && (k1 != 0) && (k1 == k0) && decide (singleI k2 i2 s2 k1 i1 s1 < 0)) := by
            have : (j == 0) = false := by simp; omega
            simp only [okEl, e1, e2, fk, one1, singleD, vk_mk, vi_mk, vs_mk, vl_mk, this, Bool.false_or]
          have bad : okEl singleD xs j = false → adjB singleD xs = false := fun h => range_false_of h ha
          simp (config := { contextual := true, maxSteps := 10000000 }) only [h1, h3, d1, d2, e0, e1, e2, mkV, φone, φsingle, eL1, eL2, wrap_pred j (by omega) hj0, wrap_succ j (by omega), hs1, hs2, Option.isSome_some, go_sem, List.map_cons, List.map_nil, List.append_assoc, List.cons_append, List.nil_append, List.append_nil, List.length_append, List.length_cons, List.length_nil, List.take_zero, List.take_succ_cons, List.take_nil, List.drop_zero, List.drop_succ_cons, List.drop_nil, Nat.zero_add, Nat.add_zero, Nat.reduceAdd, Nat.reduceSub, Nat.reduceMul, Nat.reduceEqDiff, Nat.reduceLeDiff, Nat.reduceLT, Int.reduceToNat, Int.reduceLE, Int.reduceLT, Int.reduceEq, Int.reduceNe, Int.reduceBEq, Int.reduceBNe, Nat.reduceBEq, Nat.reduceBNe, ↓reduceIte, reduceCtorEq, ↓reduceDIte, Option.map_some, Option.map_none, true_and, and_true, false_and, and_false, and_self, W_draw, condK_b, WIk_bt, WIk_bf, Bool.true_eq_false, Bool.false_eq_true, Bool.not_true, Bool.not_false, Bool.not_eq_true', Bool.not_eq_false', Bool.true_and, Bool.and_true, Bool.false_and, Bool.and_false, Bool.true_or, Bool.or_true, Bool.false_or, Bool.or_false, Bool.bne_true, Bool.bne_false, Bool.true_bne, Bool.false_bne, Bool.true_beq, Bool.false_beq, Bool.not_not, decide_true, decide_false, false_implies, true_implies, implies_true, forall_const, List.all_cons, List.all_nil, beq_self_eq_true, bne_self_eq_false, Nat.zero_le, Nat.le_refl, List.getElem?_cons_zero, List.getElem?_cons_succ, List.isEmpty_nil, List.isEmpty_cons, Int.cast_ofNat_Int, Int.toNat_zero]
          refine ⟨fun q => ?_, fun p1 => ⟨fun q => ?_, fun p2 => ⟨fun q => ?_, fun p3 => ⟨fun q => ?_, fun p4 => ⟨by omega, ?_⟩⟩⟩⟩⟩
          · rw [bad (by rw [G]; grind)]
          · rw [bad (by rw [G]; grind)]
          · rw [bad (by rw [G]; grind)]
          · rw [bad (by rw [G]; grind)]
          · rw [List.all_append, hc]
            simp only [List.all_cons, List.all_nil, G]
            grind
        · have d2 : decide ((0 : Int) < j) = false := by simpa using hj0
          have G : okEl singleD xs j = (plainB k1 i1 s1 l1.length && (k1 != 0) && (k1 == k0)) := by
            have : (j == 0) = true := by simp; omega
            simp only [okEl, e1, fk, one1, singleD, vk_mk, vi_mk, vs_mk, vl_mk, this, Bool.true_or, Bool.and_true]
          have bad : okEl singleD xs j = false → adjB singleD xs = false := fun h => range_false_of h ha
          simp (config := { contextual := true, maxSteps := 10000000 }) only [h1, h3, d1, d2, e0, e1, mkV, φone, φsingle, eL1, wrap_succ j (by omega), hs1, Option.isSome_some, go_sem, List.map_cons, List.map_nil, List.append_assoc, List.cons_append, List.nil_append, List.append_nil, List.length_append, List.length_cons, List.length_nil, List.take_zero, List.take_succ_cons, List.take_nil, List.drop_zero, List.drop_succ_cons, List.drop_nil, Nat.zero_add, Nat.add_zero, Nat.reduceAdd, Nat.reduceSub, Nat.reduceMul, Nat.reduceEqDiff, Nat.reduceLeDiff, Nat.reduceLT, Int.reduceToNat, Int.reduceLE, Int.reduceLT, Int.reduceEq, Int.reduceNe, Int.reduceBEq, Int.reduceBNe, Nat.reduceBEq, Nat.reduceBNe, ↓reduceIte, reduceCtorEq, ↓reduceDIte, Option.map_some, Option.map_none, true_and, and_true, false_and, and_false, and_self, W_draw, condK_b, WIk_bt, WIk_bf, Bool.true_eq_false, Bool.false_eq_true, Bool.not_true, Bool.not_false, Bool.not_eq_true', Bool.not_eq_false', Bool.true_and, Bool.and_true, Bool.false_and, Bool.and_false, Bool.true_or, Bool.or_true, Bool.false_or, Bool.or_false, Bool.bne_true, Bool.bne_false, Bool.true_bne, Bool.false_bne, Bool.true_beq, Bool.false_beq, Bool.not_not, decide_true, decide_false, false_implies, true_implies, implies_true, forall_const, List.all_cons, List.all_nil, beq_self_eq_true, bne_self_eq_false, Nat.zero_le, Nat.le_refl, List.getElem?_cons_zero, List.getElem?_cons_succ, List.isEmpty_nil, List.isEmpty_cons, Int.cast_ofNat_Int, Int.toNat_zero]
          refine ⟨fun q => ?_, fun p1 => ⟨fun q => ?_, fun p2 => ⟨fun q => ?_, fun p3 => ⟨by omega, ?_⟩⟩⟩⟩
          · rw [bad (by rw [G]; grind)]
          · rw [bad (by rw [G]; grind)]
          · rw [bad (by rw [G]; grind)]
          · rw [List.all_append, hc]
            simp only [List.all_cons, List.all_nil, G]
            grind
      · have d1 : decide ((j : Int) < xs.length) = false := by simpa using ha
        have hA : adjB singleD xs = true := by
          have : j = xs.length := by omega
          subst this; exact hc
        simp (config := { contextual := true, maxSteps := 10000000 }) only [h1, h3, d1, mkV, hA, go_sem, List.map_cons, List.map_nil, List.append_assoc, List.cons_append, List.nil_append, List.append_nil, List.length_append, List.length_cons, List.length_nil, List.take_zero, List.take_succ_cons, List.take_nil, List.drop_zero, List.drop_succ_cons, List.drop_nil, Nat.zero_add, Nat.add_zero, Nat.reduceAdd, Nat.reduceSub, Nat.reduceMul, Nat.reduceEqDiff, Nat.reduceLeDiff, Nat.reduceLT, Int.reduceToNat, Int.reduceLE, Int.reduceLT, Int.reduceEq, Int.reduceNe, Int.reduceBEq, Int.reduceBNe, Nat.reduceBEq, Nat.reduceBNe, ↓reduceIte, reduceCtorEq, ↓reduceDIte, Option.map_some, Option.map_none, true_and, and_true, false_and, and_false, and_self, W_draw, condK_b, WIk_bt, WIk_bf, Bool.true_eq_false, Bool.false_eq_true, Bool.not_true, Bool.not_false, Bool.not_eq_true', Bool.not_eq_false', Bool.true_and, Bool.and_true, Bool.false_and, Bool.and_false, Bool.true_or, Bool.or_true, Bool.false_or, Bool.or_false, Bool.bne_true, Bool.bne_false, Bool.true_bne, Bool.false_bne, Bool.true_beq, Bool.false_beq, Bool.not_not, decide_true, decide_false, false_implies, true_implies, implies_true, forall_const, List.all_cons, List.all_nil, beq_self_eq_true, bne_self_eq_false, Nat.zero_le, Nat.le_refl, List.getElem?_cons_zero, List.getElem?_cons_succ, List.isEmpty_nil, List.isEmpty_cons, Int.cast_ofNat_Int, Int.toNat_zero]
    · cases h
  · cases h
end GP
