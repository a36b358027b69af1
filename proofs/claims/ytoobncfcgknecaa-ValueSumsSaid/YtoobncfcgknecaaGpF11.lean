import Derived.Test.YtoobncfcgknecaaGpF10
set_option linter.unusedSimpArgs false
namespace GP
open Go Go.Proofs
set_option maxRecDepth 10000

def ordW (f : D → D → Int) (a b : D) : Int :=
  if or3 (cmpI (vk a) (vk b)) (cmpI (vi a) (vi b)) (cmpS (vs a) (vs b)) != 0 then or3 (cmpI (vk a) (vk b)) (cmpI (vi a) (vi b)) (cmpS (vs a) (vs b)) else cmpL f (vl a) (vl b)
def φOrd (dom : D → Bool) (f : D → D → Int) : List D → Option D
  | [a, b] => if a.isV = true ∧ b.isV = true ∧ (vl a).all dom = true ∧ (vl b).all dom = true then some (.int .i64 (ordW f a b)) else none
  | _ => none

theorem ok13 {dom : D → Bool} {f : D → D → Int} (h38 : OkAt Try.prog 38 (φCF dom f)) : OkAt Try.prog 13 (φOrd dom f) := by
  refine ok_of (l := [(35, φnumbers), (36, φnumbers), (37, φcmp), (34, φOr), (38, φCF dom f)]) (.cons ok35 (.cons ok36 (.cons ok37 (.cons ok34 (.cons h38 .nil))))) fn13 fun args r h => ?_
  unfold φOrd at h
  split at h
  · split at h
    · rename_i a b hab
      injection h with h; subst h
      refine ⟨by simp, by simp [D.cl], fun H T => ?_⟩
      obtain ⟨ha, hb, hda, hdb⟩ := hab
      obtain ⟨k1, i1, s1, n1, l1, rfl, z1, y1, hV1⟩ := isV_elim ha
      obtain ⟨k2, i2, s2, n2, l2, rfl, z2, y2, hV2⟩ := isV_elim hb
      simp only [vl_mk] at hda hdb
      have r1 := erase_of_isV hV1
      have r2 := erase_of_isV hV2
      have p : φCF dom f [sliceD n1 l1, sliceD n2 l2, .fn 13 [] []] = some (.int .i64 (cmpL f l1 l2)) := by
        simp only [φCF, isSl_sliceD, elems_sliceD, isVs_iff.2 hV1, isVs_iff.2 hV2, hda, hdb, y1, y2, and_self, if_true]
      have q : ordW f (mkV k1 i1 s1 n1 l1) (mkV k2 i2 s2 n2 l2) = if or3 (cmpI k1 k2) (cmpI i1 i2) (cmpS s1 s2) != 0 then or3 (cmpI k1 k2) (cmpI i1 i2) (cmpS s1 s2) else cmpL f l1 l2 := by
        simp only [ordW, vk_mk, vi_mk, vs_mk, vl_mk]
      rw [q]
      simp (config := { contextual := true, maxSteps := 10000000 }) only [c13, mkV, φnumbers, φcmp, φOr, r1, r2, p, fit_eq, go_sem, List.map_cons, List.map_nil, List.append_assoc, List.cons_append, List.nil_append, List.append_nil, List.length_append, List.length_cons, List.length_nil, List.take_zero, List.take_succ_cons, List.take_nil, List.drop_zero, List.drop_succ_cons, List.drop_nil, Nat.zero_add, Nat.add_zero, Nat.reduceAdd, Nat.reduceSub, Nat.reduceMul, Nat.reduceEqDiff, Nat.reduceLeDiff, Nat.reduceLT, Int.reduceToNat, Int.reduceLE, Int.reduceLT, Int.reduceEq, Int.reduceNe, Int.reduceBEq, Int.reduceBNe, Nat.reduceBEq, Nat.reduceBNe, ↓reduceIte, reduceCtorEq, ↓reduceDIte, Option.map_some, Option.map_none, true_and, and_true, false_and, and_false, and_self, W_draw, condK_b, WIk_bt, WIk_bf, Bool.true_eq_false, Bool.false_eq_true, Bool.not_true, Bool.not_false, Bool.not_eq_true', Bool.not_eq_false', Bool.true_and, Bool.and_true, Bool.false_and, Bool.and_false, Bool.true_or, Bool.or_true, Bool.false_or, Bool.or_false, Bool.bne_true, Bool.bne_false, Bool.true_bne, Bool.false_bne, Bool.true_beq, Bool.false_beq, Bool.not_not, decide_true, decide_false, false_implies, true_implies, implies_true, forall_const, List.all_cons, List.all_nil, beq_self_eq_true, bne_self_eq_false, Nat.zero_le, Nat.le_refl, List.getElem?_cons_zero, List.getElem?_cons_succ, List.isEmpty_nil, List.isEmpty_cons, Int.cast_ofNat_Int, Int.toNat_zero]
    · cases h
  · cases h

theorem ok13none : OkAt Try.prog 13 (fun _ => none) := fun _ _ h => by cases h
def dom0 (_ : D) : Bool := false
def f0 (_ _ : D) : Int := 0
def ord0 := ordW f0
theorem ok13a : OkAt Try.prog 13 (φOrd dom0 f0) := ok13 (ok38 ok13none (fun _ _ _ _ h => by cases h))
def leaf (d : D) : Bool := (vl d).isEmpty
theorem ord_leaf {x y : D} (hx : x.isV = true) (hy : y.isV = true) (h1 : leaf x = true) (h2 : leaf y = true) : φOrd dom0 f0 [x, y] = some (.int .i64 (ord0 x y)) := by
  simp only [leaf, List.isEmpty_iff] at h1 h2
  simp [φOrd, hx, hy, h1, h2, ord0]
theorem ok13b : OkAt Try.prog 13 (φOrd leaf ord0) := ok13 (ok38 ok13a (fun _ _ hx hy h1 h2 => ord_leaf hx hy h1 h2))

/-- Formed, as the program says. -/
def formedV (d : D) : Bool := if vk d != 5 then one1 d else if adjB ord0 (vl d) then (vi d == 0) && (vs d == []) && decide (((vl d).length : Int) ≤ 16) else false
def φFormed : List D → Option D
  | [d] => if d.isV = true then some (.bool (formedV d)) else none
  | _ => none

theorem plain_leaf {k i : Int} {s : List UInt8} {n : Nat} (h : plainB k i s n = true) : n = 0 := by
  unfold plainB at h
  by_cases hn : (0 : Int) < n
  · simp [hn] at h
    exact h.1
  · omega

theorem ok11 : OkAt Try.prog 11 φFormed := by
  refine ok_of (l := [(31, φplain), (13, φOrd dom0 f0)]) (.cons ok31 (.cons ok13a .nil)) fn11 fun args r h => ?_
  unfold φFormed at h
  split at h
  · split at h
    · rename_i d hd
      injection h with h; subst h
      refine ⟨by simp, by simp [D.cl], fun H T => ?_⟩
      obtain ⟨k, i, s, n, xs, rfl, hs, hx, hV⟩ := isV_elim hd
      have eL := erase_of_isV hV
      have F : formedV (mkV k i s n xs) = if k != 5 then plainB k i s xs.length else if adjB ord0 xs then (i == 0) && (s == []) && decide ((xs.length : Int) ≤ 16) else false := by simp only [formedV, one1, vk_mk, vi_mk, vs_mk, vl_mk]
      rw [F]
      simp (config := { contextual := true, maxSteps := 10000000 }) only [c11, mkV, φplain, eL, go_sem, List.map_cons, List.map_nil, List.append_assoc, List.cons_append, List.nil_append, List.append_nil, List.length_append, List.length_cons, List.length_nil, List.take_zero, List.take_succ_cons, List.take_nil, List.drop_zero, List.drop_succ_cons, List.drop_nil, Nat.zero_add, Nat.add_zero, Nat.reduceAdd, Nat.reduceSub, Nat.reduceMul, Nat.reduceEqDiff, Nat.reduceLeDiff, Nat.reduceLT, Int.reduceToNat, Int.reduceLE, Int.reduceLT, Int.reduceEq, Int.reduceNe, Int.reduceBEq, Int.reduceBNe, Nat.reduceBEq, Nat.reduceBNe, ↓reduceIte, reduceCtorEq, ↓reduceDIte, Option.map_some, Option.map_none, true_and, and_true, false_and, and_false, and_self, W_draw, condK_b, WIk_bt, WIk_bf, Bool.true_eq_false, Bool.false_eq_true, Bool.not_true, Bool.not_false, Bool.not_eq_true', Bool.not_eq_false', Bool.true_and, Bool.and_true, Bool.false_and, Bool.and_false, Bool.true_or, Bool.or_true, Bool.false_or, Bool.or_false, Bool.bne_true, Bool.bne_false, Bool.true_bne, Bool.false_bne, Bool.true_beq, Bool.false_beq, Bool.not_not, decide_true, decide_false, false_implies, true_implies, implies_true, forall_const, List.all_cons, List.all_nil, beq_self_eq_true, bne_self_eq_false, Nat.zero_le, Nat.le_refl, List.getElem?_cons_zero, List.getElem?_cons_succ, List.isEmpty_nil, List.isEmpty_cons, Int.cast_ofNat_Int, Int.toNat_zero]
      intro q1
      refine W_for (fun j s' => s'.t 1 = .ptr H.length 0 ∧ s'.t 11 = sliceD n xs ∧ s'.t 12 = .int .i64 xs.length ∧ s'.t 13 = .int .i64 j ∧ (∃ L, s'.H = H ++ .row [.int .i64 k, .int .i64 i, .str s, sliceD n xs] :: L) ∧ s'.T = T ∧ j ≤ xs.length ∧ (List.range j).all (okEl ord0 xs) = true) xs.length ⟨0, by simp [upd, argT]⟩ (fun i s h => h.2.2.2.2.2.2.1) ?_ (XL_mono _)
      rintro j ⟨t, H', T'⟩ ⟨h1, h11, h12, h13, ⟨L, rfl⟩, rfl, hj, hc⟩
      simp only at h1 h11 h12 h13
      by_cases ha : j < xs.length
      · have d1 : decide ((j : Int) < xs.length) = true := by simpa using ha
        obtain ⟨k1, i1, s1, n1, l1, e1, hs1, hx1, hV1, eL1⟩ := get_isV hV ha
        obtain ⟨k0, i0, s0, n0, l0, e0, _⟩ := get_isV hV (show 0 < xs.length by omega)
        have fk := vk0_get e0
        have bad : okEl ord0 xs j = false → adjB ord0 xs = false := fun h => range_false_of h ha
        by_cases hj0 : 0 < j
        · obtain ⟨k2, i2, s2, n2, l2, e2, hs2, hx2, hV2, eL2⟩ := get_isV hV (show j - 1 < xs.length by omega)
          have d2 : decide ((0 : Int) < j) = true := by simpa using hj0
          have pv : okEl ord0 xs (j - 1) = true := List.all_eq_true.1 hc (j - 1) (by simp; omega)
          have lf2 : l2 = [] := by
            simp only [okEl, e2, one1, vk_mk, vi_mk, vs_mk, vl_mk, Bool.and_eq_true] at pv
            exact List.length_eq_zero_iff.1 (plain_leaf pv.1.1.1)
          subst lf2
          generalize ho : ord0 (mkV k2 i2 s2 n2 []) (mkV k1 i1 s1 n1 l1) = o
          have G : okEl ord0 xs j = (plainB k1 i1 s1 l1.length && (k1 != 0) && (k1 == k0) && decide (o < 0)) := by
            have : (j == 0) = false := by simp; omega
            simp only [okEl, e1, e2, fk, one1, ho, vk_mk, vi_mk, vs_mk, vl_mk, this, Bool.false_or]
          by_cases hp : plainB k1 i1 s1 l1.length = true
          · have lf1 : l1 = [] := List.length_eq_zero_iff.1 (plain_leaf hp)
            subst lf1
            have p := ord_leaf (x := mkV k2 i2 s2 n2 []) (y := mkV k1 i1 s1 n1 []) (isV_mk hs2 (by simp) (by simp)) (isV_mk hs1 (by simp) (by simp)) (by simp [leaf, vl_mk]) (by simp [leaf, vl_mk])
            rw [ho] at p
            simp only [mkV] at p
            simp only [List.length_nil] at hp G
            simp (config := { contextual := true, maxSteps := 10000000 }) only [h1, h11, h12, h13, d1, d2, e0, e1, e2, mkV, φplain, p, hp, wrap_pred j (by omega) hj0, wrap_succ j (by omega), go_sem, List.map_cons, List.map_nil, List.append_assoc, List.cons_append, List.nil_append, List.append_nil, List.length_append, List.length_cons, List.length_nil, List.take_zero, List.take_succ_cons, List.take_nil, List.drop_zero, List.drop_succ_cons, List.drop_nil, Nat.zero_add, Nat.add_zero, Nat.reduceAdd, Nat.reduceSub, Nat.reduceMul, Nat.reduceEqDiff, Nat.reduceLeDiff, Nat.reduceLT, Int.reduceToNat, Int.reduceLE, Int.reduceLT, Int.reduceEq, Int.reduceNe, Int.reduceBEq, Int.reduceBNe, Nat.reduceBEq, Nat.reduceBNe, ↓reduceIte, reduceCtorEq, ↓reduceDIte, Option.map_some, Option.map_none, true_and, and_true, false_and, and_false, and_self, W_draw, condK_b, WIk_bt, WIk_bf, Bool.true_eq_false, Bool.false_eq_true, Bool.not_true, Bool.not_false, Bool.not_eq_true', Bool.not_eq_false', Bool.true_and, Bool.and_true, Bool.false_and, Bool.and_false, Bool.true_or, Bool.or_true, Bool.false_or, Bool.or_false, Bool.bne_true, Bool.bne_false, Bool.true_bne, Bool.false_bne, Bool.true_beq, Bool.false_beq, Bool.not_not, decide_true, decide_false, false_implies, true_implies, implies_true, forall_const, List.all_cons, List.all_nil, beq_self_eq_true, bne_self_eq_false, Nat.zero_le, Nat.le_refl, List.getElem?_cons_zero, List.getElem?_cons_succ, List.isEmpty_nil, List.isEmpty_cons, Int.cast_ofNat_Int, Int.toNat_zero]
            refine ⟨fun q => ?_, fun p2 => ⟨fun q => ?_, fun p3 => ⟨fun q => ?_, fun p4 => ⟨⟨_, rfl⟩, by omega, ?_⟩⟩⟩⟩
            · rw [bad (by rw [G]; grind)]; rfl
            · rw [bad (by rw [G]; grind)]; rfl
            · rw [bad (by rw [G]; grind)]; rfl
            · rw [List.all_append, hc]
              simp only [List.all_cons, List.all_nil, G]
              grind
          · have hp' : plainB k1 i1 s1 l1.length = false := by simpa using hp
            have hb := bad (by rw [G, hp']; rfl)
            simp (config := { contextual := true, maxSteps := 10000000 }) only [h1, h11, h12, h13, d1, d2, e0, e1, e2, mkV, φplain, hp', eL1, hb, go_sem, List.map_cons, List.map_nil, List.append_assoc, List.cons_append, List.nil_append, List.append_nil, List.length_append, List.length_cons, List.length_nil, List.take_zero, List.take_succ_cons, List.take_nil, List.drop_zero, List.drop_succ_cons, List.drop_nil, Nat.zero_add, Nat.add_zero, Nat.reduceAdd, Nat.reduceSub, Nat.reduceMul, Nat.reduceEqDiff, Nat.reduceLeDiff, Nat.reduceLT, Int.reduceToNat, Int.reduceLE, Int.reduceLT, Int.reduceEq, Int.reduceNe, Int.reduceBEq, Int.reduceBNe, Nat.reduceBEq, Nat.reduceBNe, ↓reduceIte, reduceCtorEq, ↓reduceDIte, Option.map_some, Option.map_none, true_and, and_true, false_and, and_false, and_self, W_draw, condK_b, WIk_bt, WIk_bf, Bool.true_eq_false, Bool.false_eq_true, Bool.not_true, Bool.not_false, Bool.not_eq_true', Bool.not_eq_false', Bool.true_and, Bool.and_true, Bool.false_and, Bool.and_false, Bool.true_or, Bool.or_true, Bool.false_or, Bool.or_false, Bool.bne_true, Bool.bne_false, Bool.true_bne, Bool.false_bne, Bool.true_beq, Bool.false_beq, Bool.not_not, decide_true, decide_false, false_implies, true_implies, implies_true, forall_const, List.all_cons, List.all_nil, beq_self_eq_true, bne_self_eq_false, Nat.zero_le, Nat.le_refl, List.getElem?_cons_zero, List.getElem?_cons_succ, List.isEmpty_nil, List.isEmpty_cons, Int.cast_ofNat_Int, Int.toNat_zero]
        · have d2 : decide ((0 : Int) < j) = false := by simpa using hj0
          have G : okEl ord0 xs j = (plainB k1 i1 s1 l1.length && (k1 != 0) && (k1 == k0)) := by
            have : (j == 0) = true := by simp; omega
            simp only [okEl, e1, fk, one1, vk_mk, vi_mk, vs_mk, vl_mk, this, Bool.true_or, Bool.and_true]
          simp (config := { contextual := true, maxSteps := 10000000 }) only [h1, h11, h12, h13, d1, d2, e0, e1, mkV, φplain, eL1, wrap_succ j (by omega), go_sem, List.map_cons, List.map_nil, List.append_assoc, List.cons_append, List.nil_append, List.append_nil, List.length_append, List.length_cons, List.length_nil, List.take_zero, List.take_succ_cons, List.take_nil, List.drop_zero, List.drop_succ_cons, List.drop_nil, Nat.zero_add, Nat.add_zero, Nat.reduceAdd, Nat.reduceSub, Nat.reduceMul, Nat.reduceEqDiff, Nat.reduceLeDiff, Nat.reduceLT, Int.reduceToNat, Int.reduceLE, Int.reduceLT, Int.reduceEq, Int.reduceNe, Int.reduceBEq, Int.reduceBNe, Nat.reduceBEq, Nat.reduceBNe, ↓reduceIte, reduceCtorEq, ↓reduceDIte, Option.map_some, Option.map_none, true_and, and_true, false_and, and_false, and_self, W_draw, condK_b, WIk_bt, WIk_bf, Bool.true_eq_false, Bool.false_eq_true, Bool.not_true, Bool.not_false, Bool.not_eq_true', Bool.not_eq_false', Bool.true_and, Bool.and_true, Bool.false_and, Bool.and_false, Bool.true_or, Bool.or_true, Bool.false_or, Bool.or_false, Bool.bne_true, Bool.bne_false, Bool.true_bne, Bool.false_bne, Bool.true_beq, Bool.false_beq, Bool.not_not, decide_true, decide_false, false_implies, true_implies, implies_true, forall_const, List.all_cons, List.all_nil, beq_self_eq_true, bne_self_eq_false, Nat.zero_le, Nat.le_refl, List.getElem?_cons_zero, List.getElem?_cons_succ, List.isEmpty_nil, List.isEmpty_cons, Int.cast_ofNat_Int, Int.toNat_zero]
          refine ⟨fun q => ?_, fun p1 => ⟨fun q => ?_, fun p2 => ⟨fun q => ?_, fun p3 => ⟨⟨_, rfl⟩, by omega, ?_⟩⟩⟩⟩
          · rw [bad (by rw [G]; grind)]; rfl
          · rw [bad (by rw [G]; grind)]; rfl
          · rw [bad (by rw [G]; grind)]; rfl
          · rw [List.all_append, hc]
            simp only [List.all_cons, List.all_nil, G]
            grind
      · have d1 : decide ((j : Int) < xs.length) = false := by simpa using ha
        have hA : adjB ord0 xs = true := by
          have : j = xs.length := by omega
          subst this; exact hc
        simp (config := { contextual := true, maxSteps := 10000000 }) only [h1, h11, h12, h13, d1, mkV, hA, go_sem, List.map_cons, List.map_nil, List.append_assoc, List.cons_append, List.nil_append, List.append_nil, List.length_append, List.length_cons, List.length_nil, List.take_zero, List.take_succ_cons, List.take_nil, List.drop_zero, List.drop_succ_cons, List.drop_nil, Nat.zero_add, Nat.add_zero, Nat.reduceAdd, Nat.reduceSub, Nat.reduceMul, Nat.reduceEqDiff, Nat.reduceLeDiff, Nat.reduceLT, Int.reduceToNat, Int.reduceLE, Int.reduceLT, Int.reduceEq, Int.reduceNe, Int.reduceBEq, Int.reduceBNe, Nat.reduceBEq, Nat.reduceBNe, ↓reduceIte, reduceCtorEq, ↓reduceDIte, Option.map_some, Option.map_none, true_and, and_true, false_and, and_false, and_self, W_draw, condK_b, WIk_bt, WIk_bf, Bool.true_eq_false, Bool.false_eq_true, Bool.not_true, Bool.not_false, Bool.not_eq_true', Bool.not_eq_false', Bool.true_and, Bool.and_true, Bool.false_and, Bool.and_false, Bool.true_or, Bool.or_true, Bool.false_or, Bool.or_false, Bool.bne_true, Bool.bne_false, Bool.true_bne, Bool.false_bne, Bool.true_beq, Bool.false_beq, Bool.not_not, decide_true, decide_false, false_implies, true_implies, implies_true, forall_const, List.all_cons, List.all_nil, beq_self_eq_true, bne_self_eq_false, Nat.zero_le, Nat.le_refl, List.getElem?_cons_zero, List.getElem?_cons_succ, List.isEmpty_nil, List.isEmpty_cons, Int.cast_ofNat_Int, Int.toNat_zero]
    · cases h
  · cases h
end GP
