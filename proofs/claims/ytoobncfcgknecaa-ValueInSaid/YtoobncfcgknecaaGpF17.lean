/- ValueIn returns true for every input, and its arguments read behind the call as before. No condition beyond the row's own. -/
import Derived.Test.YtoobncfcgknecaaGpF16
import Derived.Test.YtoobncfcgknecaaGpF14
set_option linter.unusedSimpArgs false
namespace GP
open Go Go.Proofs Go.Proofs.Ytoobncfcgknecaa
open Go.ChangeShapes Go.WideShapes Go.ChangeAt Go.RowKit
set_option maxRecDepth 100000

theorem any_take_succ {p : D → Bool} {xs : List D} {i : Nat} {e : D} (h : xs[i]? = some e) : (xs.take (i + 1)).any p = ((xs.take i).any p || p e) := by
  rw [List.take_add_one, h]; simp

theorem main5 (v bag : D) (ha : v.isV = true) (hb : bag.isV = true) (H : Hp) (T : Tk) : W (Snd Try.prog) c5 (endQ [.inl 4] (fun r _ _ => r = .bool true)) ⟨argT [v, bag], H, T⟩ := by
  refine W_mono (X := XL [(9, φawake), (10, φtwo), (19, φIn), (12, φformed), (14, φOrderR)]) (Ok.X (.cons ok9 (.cons ok10 (.cons ok19 (.cons ok12 (.cons ok14 .nil)))))) (fun _ _ h => h) ?_
  obtain ⟨x, y, hx⟩ : ∃ x y, inV v bag = .tup [.bool x, .int .i64 y] := by
    unfold inV
    split
    · exact ⟨_, _, rfl⟩
    · split
      · exact ⟨_, _, rfl⟩
      · split
        · exact ⟨_, _, rfl⟩
        · exact ⟨_, _, rfl⟩
  have F1 : (formedB v && formedB bag) = false → x = false ∧ y = 1 := by
    intro h
    unfold inV at hx
    rw [if_pos (by grind)] at hx
    simp at hx
    grind
  have F2 : (formedB v && formedB bag) = true → ((vk bag != 5) || (vk v == 0) || (vk v == 5)) = true → x = false ∧ y = 6 := by
    intro h h'
    unfold inV at hx
    rw [if_neg (by grind), if_pos h'] at hx
    simp at hx
    grind
  have F3 : (formedB v && formedB bag) = true → ((vk bag != 5) || (vk v == 0) || (vk v == 5)) = false → (decide ((0 : Int) < (vl bag).length) && (vk0 (vl bag) != vk v)) = true → x = false ∧ y = 6 := by
    intro h h' h''
    unfold inV at hx
    rw [if_neg (by grind), if_neg (by grind), if_pos h''] at hx
    simp at hx
    grind
  have F4 : (formedB v && formedB bag) = true → ((vk bag != 5) || (vk v == 0) || (vk v == 5)) = false → (decide ((0 : Int) < (vl bag).length) && (vk0 (vl bag) != vk v)) = false → x = ((vl bag).any fun e => orderR e v == 0) ∧ y = 0 := by
    intro h h' h''
    unfold inV at hx
    rw [if_neg (by grind), if_neg (by grind), if_neg (by grind)] at hx
    simp only [D.tup.injEq, List.cons.injEq, D.bool.injEq, D.int.injEq, and_true, true_and] at hx
    refine ⟨?_, hx.2.symm⟩
    rw [← hx.1]
    simp only [Bool.and_eq_true] at h
    simp only [Bool.or_eq_false_iff, bne_eq_false_iff_eq, beq_eq_false_iff_ne] at h'
    have hv1 : one1 v = true := by
      have := h.1
      unfold formedB at this
      simpa [h'.2] using this
    have hel : ∀ e ∈ vl bag, one1 e = true := by
      have hq := h.2
      unfold formedB at hq
      simp only [h'.1.1, bne_self_eq_false, Bool.false_eq_true, if_false] at hq
      split at hq
      · cases hq
      · exact el_one hq
    have hs : ∀ e ∈ vl bag, same0 e v = (orderR e v == 0) := fun e he => by
      have h1 : orderR e v = singleD e v := by simp [orderR, h'.2]
      rw [h1]
      simp only [same0, ord_single (hel e he) hv1]
    rw [Bool.eq_iff_iff]
    simp only [List.any_eq_true]
    constructor
    · rintro ⟨e, he, h1⟩; exact ⟨e, he, by rw [← hs e he]; exact h1⟩
    · rintro ⟨e, he, h1⟩; exact ⟨e, he, by rw [hs e he]; exact h1⟩
  have p2 : φtwo [v, bag] = some (.bool (fewB [v, bag] 2)) := by simp [φtwo, ha, hb]
  have p3 : φIn [v, bag] = some (.tup [.bool x, .int .i64 y]) := by simp [φIn, ha, hb, hx]
  have p4 : φformed [v] = some (.bool (formedB v)) := by simp [φformed, ha]
  have p5 : φformed [bag] = some (.bool (formedB bag)) := by simp [φformed, hb]
  have p6 : ∀ e, e.isV = true → φOrderR [e, v] = some (.int .i64 (orderR e v)) := fun e he => by simp [φOrderR, he, ha]
  clear hx
  generalize formedB v = fa at *
  generalize formedB bag = fb at *
  generalize fewB [v, bag] 2 = fw at *
  generalize hOR : (fun e => orderR e v) = oR at *
  have hOR' : ∀ e, orderR e v = oR e := fun e => congrFun hOR e
  simp only [hOR'] at F4 p6
  clear hOR hOR'
  obtain ⟨k1, i1, s1, n1, xs, rfl, z1, y1, hV1⟩ := isV_elim ha
  obtain ⟨k2, i2, s2, n2, ys, rfl, z2, y2, hV2⟩ := isV_elim hb
  have r1 := erase_of_isV hV1
  have r2 := erase_of_isV hV2
  simp only [vk_mk, vl_mk] at F2 F3 F4
  simp only [mkV] at p2 p3 p4 p5
  cases fw with
  | false => simp (config := { contextual := true, maxSteps := 10000000 }) only [c5, mkV, φawake, r1, r2, p2, go_sem, List.map_cons, List.map_nil, List.append_assoc, List.cons_append, List.nil_append, List.append_nil, List.length_append, List.length_cons, List.length_nil, List.take_zero, List.take_succ_cons, List.take_nil, List.drop_zero, List.drop_succ_cons, List.drop_nil, Nat.zero_add, Nat.add_zero, Nat.reduceAdd, Nat.reduceSub, Nat.reduceMul, Nat.reduceEqDiff, Nat.reduceLeDiff, Nat.reduceLT, Int.reduceToNat, Int.reduceLE, Int.reduceLT, Int.reduceEq, Int.reduceNe, Int.reduceBEq, Int.reduceBNe, Nat.reduceBEq, Nat.reduceBNe, ↓reduceIte, reduceCtorEq, ↓reduceDIte, Option.map_some, Option.map_none, true_and, and_true, false_and, and_false, and_self, W_draw, condK_b, WIk_bt, WIk_bf, Bool.true_eq_false, Bool.false_eq_true, Bool.not_true, Bool.not_false, Bool.not_eq_true', Bool.not_eq_false', Bool.true_and, Bool.and_true, Bool.false_and, Bool.and_false, Bool.true_or, Bool.or_true, Bool.false_or, Bool.or_false, Bool.bne_true, Bool.bne_false, Bool.true_bne, Bool.false_bne, Bool.true_beq, Bool.false_beq, Bool.not_not, decide_true, decide_false, false_implies, true_implies, implies_true, forall_const, List.all_cons, List.all_nil, beq_self_eq_true, bne_self_eq_false, Nat.zero_le, Nat.le_refl, List.getElem?_cons_zero, List.getElem?_cons_succ, List.isEmpty_nil, List.isEmpty_cons, Int.cast_ofNat_Int, Int.toNat_zero]
  | true =>
    cases hff : (fa && fb) with
    | false =>
      have f1 := F1 hff
      simp (config := { contextual := true, maxSteps := 10000000 }) only [c5, mkV, φawake, r1, r2, p2, p3, p4, p5, go_sem, List.map_cons, List.map_nil, List.append_assoc, List.cons_append, List.nil_append, List.append_nil, List.length_append, List.length_cons, List.length_nil, List.take_zero, List.take_succ_cons, List.take_nil, List.drop_zero, List.drop_succ_cons, List.drop_nil, Nat.zero_add, Nat.add_zero, Nat.reduceAdd, Nat.reduceSub, Nat.reduceMul, Nat.reduceEqDiff, Nat.reduceLeDiff, Nat.reduceLT, Int.reduceToNat, Int.reduceLE, Int.reduceLT, Int.reduceEq, Int.reduceNe, Int.reduceBEq, Int.reduceBNe, Nat.reduceBEq, Nat.reduceBNe, ↓reduceIte, reduceCtorEq, ↓reduceDIte, Option.map_some, Option.map_none, true_and, and_true, false_and, and_false, and_self, W_draw, condK_b, WIk_bt, WIk_bf, Bool.true_eq_false, Bool.false_eq_true, Bool.not_true, Bool.not_false, Bool.not_eq_true', Bool.not_eq_false', Bool.true_and, Bool.and_true, Bool.false_and, Bool.and_false, Bool.true_or, Bool.or_true, Bool.false_or, Bool.or_false, Bool.bne_true, Bool.bne_false, Bool.true_bne, Bool.false_bne, Bool.true_beq, Bool.false_beq, Bool.not_not, decide_true, decide_false, false_implies, true_implies, implies_true, forall_const, List.all_cons, List.all_nil, beq_self_eq_true, bne_self_eq_false, Nat.zero_le, Nat.le_refl, List.getElem?_cons_zero, List.getElem?_cons_succ, List.isEmpty_nil, List.isEmpty_cons, Int.cast_ofNat_Int, Int.toNat_zero]
      repeat' (first | apply And.intro | intro _)
      all_goals grind
    | true =>
      have pfa : fa = true := by simp only [Bool.and_eq_true] at hff; exact hff.1
      have pfb : fb = true := by simp only [Bool.and_eq_true] at hff; exact hff.2
      subst pfa; subst pfb
      cases h1 : ((k2 != 5) || (k1 == 0) || (k1 == 5)) with
      | true =>
        have f2 := F2 rfl h1
        obtain ⟨rfl, rfl⟩ := f2
        cases hk2 : (k2 != 5) with
        | true =>
          simp (config := { contextual := true, maxSteps := 10000000 }) only [c5, mkV, φawake, r1, r2, p2, p3, p4, p5, hk2, go_sem, List.map_cons, List.map_nil, List.append_assoc, List.cons_append, List.nil_append, List.append_nil, List.length_append, List.length_cons, List.length_nil, List.take_zero, List.take_succ_cons, List.take_nil, List.drop_zero, List.drop_succ_cons, List.drop_nil, Nat.zero_add, Nat.add_zero, Nat.reduceAdd, Nat.reduceSub, Nat.reduceMul, Nat.reduceEqDiff, Nat.reduceLeDiff, Nat.reduceLT, Int.reduceToNat, Int.reduceLE, Int.reduceLT, Int.reduceEq, Int.reduceNe, Int.reduceBEq, Int.reduceBNe, Nat.reduceBEq, Nat.reduceBNe, ↓reduceIte, reduceCtorEq, ↓reduceDIte, Option.map_some, Option.map_none, true_and, and_true, false_and, and_false, and_self, W_draw, condK_b, WIk_bt, WIk_bf, Bool.true_eq_false, Bool.false_eq_true, Bool.not_true, Bool.not_false, Bool.not_eq_true', Bool.not_eq_false', Bool.true_and, Bool.and_true, Bool.false_and, Bool.and_false, Bool.true_or, Bool.or_true, Bool.false_or, Bool.or_false, Bool.bne_true, Bool.bne_false, Bool.true_bne, Bool.false_bne, Bool.true_beq, Bool.false_beq, Bool.not_not, decide_true, decide_false, false_implies, true_implies, implies_true, forall_const, List.all_cons, List.all_nil, beq_self_eq_true, bne_self_eq_false, Nat.zero_le, Nat.le_refl, List.getElem?_cons_zero, List.getElem?_cons_succ, List.isEmpty_nil, List.isEmpty_cons, Int.cast_ofNat_Int, Int.toNat_zero]
        | false =>
          cases hk0 : (k1 == 0) with
          | true => simp (config := { contextual := true, maxSteps := 10000000 }) only [c5, mkV, φawake, r1, r2, p2, p3, p4, p5, hk2, hk0, go_sem, List.map_cons, List.map_nil, List.append_assoc, List.cons_append, List.nil_append, List.append_nil, List.length_append, List.length_cons, List.length_nil, List.take_zero, List.take_succ_cons, List.take_nil, List.drop_zero, List.drop_succ_cons, List.drop_nil, Nat.zero_add, Nat.add_zero, Nat.reduceAdd, Nat.reduceSub, Nat.reduceMul, Nat.reduceEqDiff, Nat.reduceLeDiff, Nat.reduceLT, Int.reduceToNat, Int.reduceLE, Int.reduceLT, Int.reduceEq, Int.reduceNe, Int.reduceBEq, Int.reduceBNe, Nat.reduceBEq, Nat.reduceBNe, ↓reduceIte, reduceCtorEq, ↓reduceDIte, Option.map_some, Option.map_none, true_and, and_true, false_and, and_false, and_self, W_draw, condK_b, WIk_bt, WIk_bf, Bool.true_eq_false, Bool.false_eq_true, Bool.not_true, Bool.not_false, Bool.not_eq_true', Bool.not_eq_false', Bool.true_and, Bool.and_true, Bool.false_and, Bool.and_false, Bool.true_or, Bool.or_true, Bool.false_or, Bool.or_false, Bool.bne_true, Bool.bne_false, Bool.true_bne, Bool.false_bne, Bool.true_beq, Bool.false_beq, Bool.not_not, decide_true, decide_false, false_implies, true_implies, implies_true, forall_const, List.all_cons, List.all_nil, beq_self_eq_true, bne_self_eq_false, Nat.zero_le, Nat.le_refl, List.getElem?_cons_zero, List.getElem?_cons_succ, List.isEmpty_nil, List.isEmpty_cons, Int.cast_ofNat_Int, Int.toNat_zero]
          | false =>
            have hk5 : (k1 == 5) = true := by rw [hk2, hk0] at h1; simpa using h1
            simp (config := { contextual := true, maxSteps := 10000000 }) only [c5, mkV, φawake, r1, r2, p2, p3, p4, p5, hk2, hk0, hk5, go_sem, List.map_cons, List.map_nil, List.append_assoc, List.cons_append, List.nil_append, List.append_nil, List.length_append, List.length_cons, List.length_nil, List.take_zero, List.take_succ_cons, List.take_nil, List.drop_zero, List.drop_succ_cons, List.drop_nil, Nat.zero_add, Nat.add_zero, Nat.reduceAdd, Nat.reduceSub, Nat.reduceMul, Nat.reduceEqDiff, Nat.reduceLeDiff, Nat.reduceLT, Int.reduceToNat, Int.reduceLE, Int.reduceLT, Int.reduceEq, Int.reduceNe, Int.reduceBEq, Int.reduceBNe, Nat.reduceBEq, Nat.reduceBNe, ↓reduceIte, reduceCtorEq, ↓reduceDIte, Option.map_some, Option.map_none, true_and, and_true, false_and, and_false, and_self, W_draw, condK_b, WIk_bt, WIk_bf, Bool.true_eq_false, Bool.false_eq_true, Bool.not_true, Bool.not_false, Bool.not_eq_true', Bool.not_eq_false', Bool.true_and, Bool.and_true, Bool.false_and, Bool.and_false, Bool.true_or, Bool.or_true, Bool.false_or, Bool.or_false, Bool.bne_true, Bool.bne_false, Bool.true_bne, Bool.false_bne, Bool.true_beq, Bool.false_beq, Bool.not_not, decide_true, decide_false, false_implies, true_implies, implies_true, forall_const, List.all_cons, List.all_nil, beq_self_eq_true, bne_self_eq_false, Nat.zero_le, Nat.le_refl, List.getElem?_cons_zero, List.getElem?_cons_succ, List.isEmpty_nil, List.isEmpty_cons, Int.cast_ofNat_Int, Int.toNat_zero]
      | false =>
        simp only [Bool.or_eq_false_iff] at h1
        obtain ⟨⟨hk2, hk0⟩, hk5⟩ := h1
        have h1 : ((k2 != 5) || (k1 == 0) || (k1 == 5)) = false := by rw [hk2, hk0, hk5]; rfl
        cases hd : decide ((0 : Int) < ys.length) with
        | true =>
          obtain ⟨k0, i0, s0, n0, l0, e0, _⟩ := get_isV hV2 (show 0 < ys.length by simp at hd; omega)
          have fk := vk0_get e0
          cases hkk : (k0 != k1) with
          | true =>
            have f3 := F3 rfl h1 (by rw [hd, fk, hkk]; rfl)
            obtain ⟨rfl, rfl⟩ := f3
            simp (config := { contextual := true, maxSteps := 10000000 }) only [c5, mkV, φawake, r1, r2, p2, p3, p4, p5, hk2, hk0, hk5, hd, e0, hkk, go_sem, List.map_cons, List.map_nil, List.append_assoc, List.cons_append, List.nil_append, List.append_nil, List.length_append, List.length_cons, List.length_nil, List.take_zero, List.take_succ_cons, List.take_nil, List.drop_zero, List.drop_succ_cons, List.drop_nil, Nat.zero_add, Nat.add_zero, Nat.reduceAdd, Nat.reduceSub, Nat.reduceMul, Nat.reduceEqDiff, Nat.reduceLeDiff, Nat.reduceLT, Int.reduceToNat, Int.reduceLE, Int.reduceLT, Int.reduceEq, Int.reduceNe, Int.reduceBEq, Int.reduceBNe, Nat.reduceBEq, Nat.reduceBNe, ↓reduceIte, reduceCtorEq, ↓reduceDIte, Option.map_some, Option.map_none, true_and, and_true, false_and, and_false, and_self, W_draw, condK_b, WIk_bt, WIk_bf, Bool.true_eq_false, Bool.false_eq_true, Bool.not_true, Bool.not_false, Bool.not_eq_true', Bool.not_eq_false', Bool.true_and, Bool.and_true, Bool.false_and, Bool.and_false, Bool.true_or, Bool.or_true, Bool.false_or, Bool.or_false, Bool.bne_true, Bool.bne_false, Bool.true_bne, Bool.false_bne, Bool.true_beq, Bool.false_beq, Bool.not_not, decide_true, decide_false, false_implies, true_implies, implies_true, forall_const, List.all_cons, List.all_nil, beq_self_eq_true, bne_self_eq_false, Nat.zero_le, Nat.le_refl, List.getElem?_cons_zero, List.getElem?_cons_succ, List.isEmpty_nil, List.isEmpty_cons, Int.cast_ofNat_Int, Int.toNat_zero]
          | false =>
            have f4 := F4 rfl h1 (by rw [hd, fk, hkk]; rfl)
            obtain ⟨rfl, rfl⟩ := f4
            simp (config := { contextual := true, maxSteps := 10000000 }) only [c5, mkV, φawake, r1, r2, p2, p3, p4, p5, hk2, hk0, hk5, hd, e0, hkk, go_sem, List.map_cons, List.map_nil, List.append_assoc, List.cons_append, List.nil_append, List.append_nil, List.length_append, List.length_cons, List.length_nil, List.take_zero, List.take_succ_cons, List.take_nil, List.drop_zero, List.drop_succ_cons, List.drop_nil, Nat.zero_add, Nat.add_zero, Nat.reduceAdd, Nat.reduceSub, Nat.reduceMul, Nat.reduceEqDiff, Nat.reduceLeDiff, Nat.reduceLT, Int.reduceToNat, Int.reduceLE, Int.reduceLT, Int.reduceEq, Int.reduceNe, Int.reduceBEq, Int.reduceBNe, Nat.reduceBEq, Nat.reduceBNe, ↓reduceIte, reduceCtorEq, ↓reduceDIte, Option.map_some, Option.map_none, true_and, and_true, false_and, and_false, and_self, W_draw, condK_b, WIk_bt, WIk_bf, Bool.true_eq_false, Bool.false_eq_true, Bool.not_true, Bool.not_false, Bool.not_eq_true', Bool.not_eq_false', Bool.true_and, Bool.and_true, Bool.false_and, Bool.and_false, Bool.true_or, Bool.or_true, Bool.false_or, Bool.or_false, Bool.bne_true, Bool.bne_false, Bool.true_bne, Bool.false_bne, Bool.true_beq, Bool.false_beq, Bool.not_not, decide_true, decide_false, false_implies, true_implies, implies_true, forall_const, List.all_cons, List.all_nil, beq_self_eq_true, bne_self_eq_false, Nat.zero_le, Nat.le_refl, List.getElem?_cons_zero, List.getElem?_cons_succ, List.isEmpty_nil, List.isEmpty_cons, Int.cast_ofNat_Int, Int.toNat_zero]
            refine W_for (fun i s => s.t 2 = .ptr H.length 0 ∧ s.t 3 = .ptr (H.length + 1) 0 ∧ s.t 5 = .bool (ys.any fun e => oR e == 0) ∧ s.t 6 = .int .i64 0 ∧ s.t 7 = .bool ((ys.take i).any fun e => oR e == 0) ∧ s.t 8 = .int .i64 i ∧ s.H = H ++ [.row [.int .i64 k1, .int .i64 i1, .str s1, sliceD n1 xs], .row [.int .i64 k2, .int .i64 i2, .str s2, sliceD n2 ys]] ∧ s.T = T ∧ i ≤ ys.length) ys.length ⟨0, by simp [upd, argT]⟩ (fun i s h => h.2.2.2.2.2.2.2.2) ?_ (XL_mono _)
            rintro i ⟨t, H', T'⟩ ⟨h2, h3, h5, h6, h7, h8, rfl, rfl, hi⟩
            simp only at h2 h3 h5 h6 h7 h8
            by_cases ha : i < ys.length
            · have d1 : decide ((i : Int) < ys.length) = true := by simpa using ha
              obtain ⟨k4, i4, s4, n4, l4, e4, _, _, v4, r4⟩ := get_isV hV2 ha
              have p := p6 _ (hV2 _ (List.mem_of_getElem? e4))
              have nx := any_take_succ (p := fun e => oR e == 0) e4
              generalize oR (mkV k4 i4 s4 n4 l4) = o at p nx
              generalize hq : (ys.take i).any (fun e => oR e == 0) = q at h7 nx
              simp only [mkV] at p
              cases q with
              | true =>
                simp (config := { contextual := true, maxSteps := 10000000 }) only [h2, h3, h5, h6, h7, h8, d1, e4, mkV, r1, r4, p, wrap_succ i (by omega), go_sem, List.map_cons, List.map_nil, List.append_assoc, List.cons_append, List.nil_append, List.append_nil, List.length_append, List.length_cons, List.length_nil, List.take_zero, List.take_succ_cons, List.take_nil, List.drop_zero, List.drop_succ_cons, List.drop_nil, Nat.zero_add, Nat.add_zero, Nat.reduceAdd, Nat.reduceSub, Nat.reduceMul, Nat.reduceEqDiff, Nat.reduceLeDiff, Nat.reduceLT, Int.reduceToNat, Int.reduceLE, Int.reduceLT, Int.reduceEq, Int.reduceNe, Int.reduceBEq, Int.reduceBNe, Nat.reduceBEq, Nat.reduceBNe, ↓reduceIte, reduceCtorEq, ↓reduceDIte, Option.map_some, Option.map_none, true_and, and_true, false_and, and_false, and_self, W_draw, condK_b, WIk_bt, WIk_bf, Bool.true_eq_false, Bool.false_eq_true, Bool.not_true, Bool.not_false, Bool.not_eq_true', Bool.not_eq_false', Bool.true_and, Bool.and_true, Bool.false_and, Bool.and_false, Bool.true_or, Bool.or_true, Bool.false_or, Bool.or_false, Bool.bne_true, Bool.bne_false, Bool.true_bne, Bool.false_bne, Bool.true_beq, Bool.false_beq, Bool.not_not, decide_true, decide_false, false_implies, true_implies, implies_true, forall_const, List.all_cons, List.all_nil, beq_self_eq_true, bne_self_eq_false, Nat.zero_le, Nat.le_refl, List.getElem?_cons_zero, List.getElem?_cons_succ, List.isEmpty_nil, List.isEmpty_cons, Int.cast_ofNat_Int, Int.toNat_zero]
                exact ⟨by rw [nx]; simp, by omega⟩
              | false =>
                simp (config := { contextual := true, maxSteps := 10000000 }) only [h2, h3, h5, h6, h7, h8, d1, e4, mkV, r1, r4, p, wrap_succ i (by omega), go_sem, List.map_cons, List.map_nil, List.append_assoc, List.cons_append, List.nil_append, List.append_nil, List.length_append, List.length_cons, List.length_nil, List.take_zero, List.take_succ_cons, List.take_nil, List.drop_zero, List.drop_succ_cons, List.drop_nil, Nat.zero_add, Nat.add_zero, Nat.reduceAdd, Nat.reduceSub, Nat.reduceMul, Nat.reduceEqDiff, Nat.reduceLeDiff, Nat.reduceLT, Int.reduceToNat, Int.reduceLE, Int.reduceLT, Int.reduceEq, Int.reduceNe, Int.reduceBEq, Int.reduceBNe, Nat.reduceBEq, Nat.reduceBNe, ↓reduceIte, reduceCtorEq, ↓reduceDIte, Option.map_some, Option.map_none, true_and, and_true, false_and, and_false, and_self, W_draw, condK_b, WIk_bt, WIk_bf, Bool.true_eq_false, Bool.false_eq_true, Bool.not_true, Bool.not_false, Bool.not_eq_true', Bool.not_eq_false', Bool.true_and, Bool.and_true, Bool.false_and, Bool.and_false, Bool.true_or, Bool.or_true, Bool.false_or, Bool.or_false, Bool.bne_true, Bool.bne_false, Bool.true_bne, Bool.false_bne, Bool.true_beq, Bool.false_beq, Bool.not_not, decide_true, decide_false, false_implies, true_implies, implies_true, forall_const, List.all_cons, List.all_nil, beq_self_eq_true, bne_self_eq_false, Nat.zero_le, Nat.le_refl, List.getElem?_cons_zero, List.getElem?_cons_succ, List.isEmpty_nil, List.isEmpty_cons, Int.cast_ofNat_Int, Int.toNat_zero]
                exact ⟨by rw [nx]; simp, by omega⟩
            · have d1 : decide ((i : Int) < ys.length) = false := by simpa using ha
              have hq : (ys.take i) = ys := List.take_of_length_le (by omega)
              rw [hq] at h7
              simp (config := { contextual := true, maxSteps := 10000000 }) only [h2, h3, h5, h6, h7, h8, d1, mkV, go_sem, List.map_cons, List.map_nil, List.append_assoc, List.cons_append, List.nil_append, List.append_nil, List.length_append, List.length_cons, List.length_nil, List.take_zero, List.take_succ_cons, List.take_nil, List.drop_zero, List.drop_succ_cons, List.drop_nil, Nat.zero_add, Nat.add_zero, Nat.reduceAdd, Nat.reduceSub, Nat.reduceMul, Nat.reduceEqDiff, Nat.reduceLeDiff, Nat.reduceLT, Int.reduceToNat, Int.reduceLE, Int.reduceLT, Int.reduceEq, Int.reduceNe, Int.reduceBEq, Int.reduceBNe, Nat.reduceBEq, Nat.reduceBNe, ↓reduceIte, reduceCtorEq, ↓reduceDIte, Option.map_some, Option.map_none, true_and, and_true, false_and, and_false, and_self, W_draw, condK_b, WIk_bt, WIk_bf, Bool.true_eq_false, Bool.false_eq_true, Bool.not_true, Bool.not_false, Bool.not_eq_true', Bool.not_eq_false', Bool.true_and, Bool.and_true, Bool.false_and, Bool.and_false, Bool.true_or, Bool.or_true, Bool.false_or, Bool.or_false, Bool.bne_true, Bool.bne_false, Bool.true_bne, Bool.false_bne, Bool.true_beq, Bool.false_beq, Bool.not_not, decide_true, decide_false, false_implies, true_implies, implies_true, forall_const, List.all_cons, List.all_nil, beq_self_eq_true, bne_self_eq_false, Nat.zero_le, Nat.le_refl, List.getElem?_cons_zero, List.getElem?_cons_succ, List.isEmpty_nil, List.isEmpty_cons, Int.cast_ofNat_Int, Int.toNat_zero]
        | false =>
          have f4 := F4 rfl h1 (by rw [hd]; rfl)
          obtain ⟨rfl, rfl⟩ := f4
          simp (config := { contextual := true, maxSteps := 10000000 }) only [c5, mkV, φawake, r1, r2, p2, p3, p4, p5, hk2, hk0, hk5, hd, go_sem, List.map_cons, List.map_nil, List.append_assoc, List.cons_append, List.nil_append, List.append_nil, List.length_append, List.length_cons, List.length_nil, List.take_zero, List.take_succ_cons, List.take_nil, List.drop_zero, List.drop_succ_cons, List.drop_nil, Nat.zero_add, Nat.add_zero, Nat.reduceAdd, Nat.reduceSub, Nat.reduceMul, Nat.reduceEqDiff, Nat.reduceLeDiff, Nat.reduceLT, Int.reduceToNat, Int.reduceLE, Int.reduceLT, Int.reduceEq, Int.reduceNe, Int.reduceBEq, Int.reduceBNe, Nat.reduceBEq, Nat.reduceBNe, ↓reduceIte, reduceCtorEq, ↓reduceDIte, Option.map_some, Option.map_none, true_and, and_true, false_and, and_false, and_self, W_draw, condK_b, WIk_bt, WIk_bf, Bool.true_eq_false, Bool.false_eq_true, Bool.not_true, Bool.not_false, Bool.not_eq_true', Bool.not_eq_false', Bool.true_and, Bool.and_true, Bool.false_and, Bool.and_false, Bool.true_or, Bool.or_true, Bool.false_or, Bool.or_false, Bool.bne_true, Bool.bne_false, Bool.true_bne, Bool.false_bne, Bool.true_beq, Bool.false_beq, Bool.not_not, decide_true, decide_false, false_implies, true_implies, implies_true, forall_const, List.all_cons, List.all_nil, beq_self_eq_true, bne_self_eq_false, Nat.zero_le, Nat.le_refl, List.getElem?_cons_zero, List.getElem?_cons_succ, List.isEmpty_nil, List.isEmpty_cons, Int.cast_ofNat_Int, Int.toNat_zero]
          refine W_for (fun i s => s.t 2 = .ptr H.length 0 ∧ s.t 3 = .ptr (H.length + 1) 0 ∧ s.t 5 = .bool (ys.any fun e => oR e == 0) ∧ s.t 6 = .int .i64 0 ∧ s.t 7 = .bool ((ys.take i).any fun e => oR e == 0) ∧ s.t 8 = .int .i64 i ∧ s.H = H ++ [.row [.int .i64 k1, .int .i64 i1, .str s1, sliceD n1 xs], .row [.int .i64 k2, .int .i64 i2, .str s2, sliceD n2 ys]] ∧ s.T = T ∧ i ≤ ys.length) ys.length ⟨0, by simp [upd, argT]⟩ (fun i s h => h.2.2.2.2.2.2.2.2) ?_ (XL_mono _)
          rintro i ⟨t, H', T'⟩ ⟨h2, h3, h5, h6, h7, h8, rfl, rfl, hi⟩
          simp only at h2 h3 h5 h6 h7 h8
          by_cases ha : i < ys.length
          · have d1 : decide ((i : Int) < ys.length) = true := by simpa using ha
            obtain ⟨k4, i4, s4, n4, l4, e4, _, _, v4, r4⟩ := get_isV hV2 ha
            have p := p6 _ (hV2 _ (List.mem_of_getElem? e4))
            have nx := any_take_succ (p := fun e => oR e == 0) e4
            generalize oR (mkV k4 i4 s4 n4 l4) = o at p nx
            generalize hq : (ys.take i).any (fun e => oR e == 0) = q at h7 nx
            simp only [mkV] at p
            cases q with
            | true =>
              simp (config := { contextual := true, maxSteps := 10000000 }) only [h2, h3, h5, h6, h7, h8, d1, e4, mkV, r1, r4, p, wrap_succ i (by omega), go_sem, List.map_cons, List.map_nil, List.append_assoc, List.cons_append, List.nil_append, List.append_nil, List.length_append, List.length_cons, List.length_nil, List.take_zero, List.take_succ_cons, List.take_nil, List.drop_zero, List.drop_succ_cons, List.drop_nil, Nat.zero_add, Nat.add_zero, Nat.reduceAdd, Nat.reduceSub, Nat.reduceMul, Nat.reduceEqDiff, Nat.reduceLeDiff, Nat.reduceLT, Int.reduceToNat, Int.reduceLE, Int.reduceLT, Int.reduceEq, Int.reduceNe, Int.reduceBEq, Int.reduceBNe, Nat.reduceBEq, Nat.reduceBNe, ↓reduceIte, reduceCtorEq, ↓reduceDIte, Option.map_some, Option.map_none, true_and, and_true, false_and, and_false, and_self, W_draw, condK_b, WIk_bt, WIk_bf, Bool.true_eq_false, Bool.false_eq_true, Bool.not_true, Bool.not_false, Bool.not_eq_true', Bool.not_eq_false', Bool.true_and, Bool.and_true, Bool.false_and, Bool.and_false, Bool.true_or, Bool.or_true, Bool.false_or, Bool.or_false, Bool.bne_true, Bool.bne_false, Bool.true_bne, Bool.false_bne, Bool.true_beq, Bool.false_beq, Bool.not_not, decide_true, decide_false, false_implies, true_implies, implies_true, forall_const, List.all_cons, List.all_nil, beq_self_eq_true, bne_self_eq_false, Nat.zero_le, Nat.le_refl, List.getElem?_cons_zero, List.getElem?_cons_succ, List.isEmpty_nil, List.isEmpty_cons, Int.cast_ofNat_Int, Int.toNat_zero]
              exact ⟨by rw [nx]; simp, by omega⟩
            | false =>
              simp (config := { contextual := true, maxSteps := 10000000 }) only [h2, h3, h5, h6, h7, h8, d1, e4, mkV, r1, r4, p, wrap_succ i (by omega), go_sem, List.map_cons, List.map_nil, List.append_assoc, List.cons_append, List.nil_append, List.append_nil, List.length_append, List.length_cons, List.length_nil, List.take_zero, List.take_succ_cons, List.take_nil, List.drop_zero, List.drop_succ_cons, List.drop_nil, Nat.zero_add, Nat.add_zero, Nat.reduceAdd, Nat.reduceSub, Nat.reduceMul, Nat.reduceEqDiff, Nat.reduceLeDiff, Nat.reduceLT, Int.reduceToNat, Int.reduceLE, Int.reduceLT, Int.reduceEq, Int.reduceNe, Int.reduceBEq, Int.reduceBNe, Nat.reduceBEq, Nat.reduceBNe, ↓reduceIte, reduceCtorEq, ↓reduceDIte, Option.map_some, Option.map_none, true_and, and_true, false_and, and_false, and_self, W_draw, condK_b, WIk_bt, WIk_bf, Bool.true_eq_false, Bool.false_eq_true, Bool.not_true, Bool.not_false, Bool.not_eq_true', Bool.not_eq_false', Bool.true_and, Bool.and_true, Bool.false_and, Bool.and_false, Bool.true_or, Bool.or_true, Bool.false_or, Bool.or_false, Bool.bne_true, Bool.bne_false, Bool.true_bne, Bool.false_bne, Bool.true_beq, Bool.false_beq, Bool.not_not, decide_true, decide_false, false_implies, true_implies, implies_true, forall_const, List.all_cons, List.all_nil, beq_self_eq_true, bne_self_eq_false, Nat.zero_le, Nat.le_refl, List.getElem?_cons_zero, List.getElem?_cons_succ, List.isEmpty_nil, List.isEmpty_cons, Int.cast_ofNat_Int, Int.toNat_zero]
              exact ⟨by rw [nx]; simp, by omega⟩
          · have d1 : decide ((i : Int) < ys.length) = false := by simpa using ha
            have hq : (ys.take i) = ys := List.take_of_length_le (by omega)
            rw [hq] at h7
            simp (config := { contextual := true, maxSteps := 10000000 }) only [h2, h3, h5, h6, h7, h8, d1, mkV, go_sem, List.map_cons, List.map_nil, List.append_assoc, List.cons_append, List.nil_append, List.append_nil, List.length_append, List.length_cons, List.length_nil, List.take_zero, List.take_succ_cons, List.take_nil, List.drop_zero, List.drop_succ_cons, List.drop_nil, Nat.zero_add, Nat.add_zero, Nat.reduceAdd, Nat.reduceSub, Nat.reduceMul, Nat.reduceEqDiff, Nat.reduceLeDiff, Nat.reduceLT, Int.reduceToNat, Int.reduceLE, Int.reduceLT, Int.reduceEq, Int.reduceNe, Int.reduceBEq, Int.reduceBNe, Nat.reduceBEq, Nat.reduceBNe, ↓reduceIte, reduceCtorEq, ↓reduceDIte, Option.map_some, Option.map_none, true_and, and_true, false_and, and_false, and_self, W_draw, condK_b, WIk_bt, WIk_bf, Bool.true_eq_false, Bool.false_eq_true, Bool.not_true, Bool.not_false, Bool.not_eq_true', Bool.not_eq_false', Bool.true_and, Bool.and_true, Bool.false_and, Bool.and_false, Bool.true_or, Bool.or_true, Bool.false_or, Bool.or_false, Bool.bne_true, Bool.bne_false, Bool.true_bne, Bool.false_bne, Bool.true_beq, Bool.false_beq, Bool.not_not, decide_true, decide_false, false_implies, true_implies, implies_true, forall_const, List.all_cons, List.all_nil, beq_self_eq_true, bne_self_eq_false, Nat.zero_le, Nat.le_refl, List.getElem?_cons_zero, List.getElem?_cons_succ, List.isEmpty_nil, List.isEmpty_cons, Int.cast_ofNat_Int, Int.toNat_zero]

theorem args5 (W : World) : Args Try.prog W Try.f5.params.toList (fun l => ∃ x xs, l = x :: xs ∧ x.isV = true ∧ ∃ y ys, xs = y :: ys ∧ y.isV = true ∧ ys = []) := by
  rw [Try.params5]
  exact .cons (argV W) (.cons (argV W) .nil)

theorem lifted5 (os : Os) (started : os.Started) (H : Type) (enc : TypeId × Value → H) :
    ReturnsInHanded {} Try.checked os 5 .any (Rows.valueInSpec.pre6 enc Try.prog Try.f5 Rows.valueInRow.domain false) (Rows.valueInSpec.post enc Try.prog Try.f5 false true false false) := by
  refine returnsInHanded_of_change_sized (C := Try.checked) own6 started (by kernel_rfl) Try.func5
    (ChangeSpec.witness6 (enc := enc) (C := Try.checked) false ⟨#[], #[.agg #[.int .i64 0, .int .i64 0, .string ⟨#[]⟩, .slice none 0 0], .agg #[.int .i64 0, .int .i64 0, .string ⟨#[]⟩, .slice none 0 0]], []⟩ 8 (by kernel_rfl) (by kernel_rfl) (by kernel_rfl) (by kernel_rfl)) ?_
  intro W base args ds gs before hval hW hcnd hsz _
  refine law_contract laid6 rowed6 full6 ?_ rfl (tb := 4) ?_ Try.underlying4 hval hW hsz ?_ (args5 W) fn5 ?_ ?_
  · rw [Try.params5]; exact of_decide_eq_true (by kernel_rfl)
  · kernel_rfl
  · intro l hl
    rw [Try.params5] at hl
    match l, hl with
    | [a, b], _ => rfl
  · rw [Try.params5]; decide
  · rintro xs ⟨x', xs2, rfl, hx', y, ys, rfl, hy, rfl⟩
    exact main5 x' y hx' hy [] []

theorem over5 : Rows.valueInRow.holds Try.pinned (OpenSpec.ofChange Rows.valueInSpec) :=
  OpenClaim.holds_of_wide 5 Try.f5 rfl rfl rfl rfl rfl rfl rfl ⟨rfl, rfl, rfl, rfl, rfl⟩ rfl rfl rfl rfl rfl (by kernel_rfl) Try.func5 (by kernel_rfl)
    (of_decide_eq_true (by kernel_rfl)) (by unfold Func.isWrapper; first | (rw [if_pos (by decide +kernel)]; kernel_rfl) | (rw [if_neg (by decide +kernel)]; exact ⟨rfl, rfl⟩))
    (fun os started H enc _ => lifted5 os started H enc)
end GP
namespace Go.Proofs.Ytoobncfcgknecaa
theorem valueIn_holds : Rows.ValueInSaid := GP.over5
#print axioms valueIn_holds
end Go.Proofs.Ytoobncfcgknecaa
