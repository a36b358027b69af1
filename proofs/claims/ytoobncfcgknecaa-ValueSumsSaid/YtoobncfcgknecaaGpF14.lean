/- ValueCompares returns true for every input, and its arguments read behind the call as before. No condition beyond the row's own. -/
import Derived.Test.YtoobncfcgknecaaGpF13
import Derived.Test.YtoobncfcgknecaaRows
import Derived.JoinedOf
set_option linter.unusedSimpArgs false
namespace GP
open Go Go.Proofs Go.Proofs.Ytoobncfcgknecaa
open Go.ChangeShapes Go.WideShapes Go.ChangeAt Go.RowKit
set_option maxRecDepth 100000

theorem main6 (op : List UInt8) (a b : D) (ha : a.isV = true) (hb : b.isV = true) (H : Hp) (T : Tk) : W (Snd Try.prog) c6 (endQ [.inl 6] (fun r _ _ => r = .bool true)) ⟨argT [.str op, a, b], H, T⟩ := by
  refine W_mono (X := XL [(9, φawake), (10, φtwo), (20, φCompareV), (12, φformed), (21, φCompareR)]) (Ok.X (.cons ok9 (.cons ok10 (.cons ok20 (.cons ok12 (.cons ok21 .nil)))))) (fun _ _ h => h) ?_
  obtain ⟨x, y, hx⟩ : ∃ x y, cmpV op a b = .tup [.bool x, .int .i64 y] := by
    unfold cmpV
    split
    · exact ⟨_, _, rfl⟩
    · split
      · exact ⟨_, _, rfl⟩
      · exact ⟨_, _, rfl⟩
  obtain ⟨x', y', hx'⟩ : ∃ x y, (if wrongOp op (vk a) (vk b) then D.tup [.bool false, .int .i64 6] else .tup [.bool (opR op (orderR a b)), .int .i64 0]) = .tup [.bool x, .int .i64 y] := by
    split
    · exact ⟨_, _, rfl⟩
    · exact ⟨_, _, rfl⟩
  have F1 : (formedB a && formedB b && good6 op) = false → x = false ∧ y = 1 := by
    intro h
    unfold cmpV at hx
    rw [if_pos (by grind)] at hx
    simp at hx
    grind
  have F2 : (formedB a && formedB b && good6 op) = true → x = x' ∧ y = y' := by
    intro h
    unfold cmpV at hx
    simp only [Bool.and_eq_true] at h
    rw [if_neg (by rw [h.1.1, h.1.2, h.2]; decide)] at hx
    by_cases hw : wrongOp op (vk a) (vk b) = true
    · rw [if_pos hw] at hx hx'
      rw [hx] at hx'
      simp at hx'
      exact ⟨hx'.1, hx'.2⟩
    · rw [if_neg hw] at hx hx'
      have hk : vk a = vk b := by
        unfold wrongOp at hw
        simp only [Bool.or_eq_true, not_or, bne_iff_ne, ne_eq, Decidable.not_not] at hw
        exact hw.1.2
      rw [order_same h.1.1 h.1.2 hk, op_same (order_tri a b)] at hx
      rw [hx] at hx'
      simp at hx'
      exact ⟨hx'.1, hx'.2⟩
  have p2 : φtwo [a, b] = some (.bool (fewB [a, b] 2)) := by simp [φtwo, ha, hb]
  have p3 : φCompareV [.str op, a, b] = some (.tup [.bool x, .int .i64 y]) := by simp [φCompareV, ha, hb, hx]
  have p4 : φformed [a] = some (.bool (formedB a)) := by simp [φformed, ha]
  have p5 : φformed [b] = some (.bool (formedB b)) := by simp [φformed, hb]
  have p6 : φCompareR [.str op, a, b] = some (.tup [.bool x', .int .i64 y']) := by simp [φCompareR, ha, hb, hx']
  clear hx hx'
  generalize formedB a = fa at *
  generalize formedB b = fb at *
  generalize fewB [a, b] 2 = fw at *
  obtain ⟨k1, i1, s1, n1, xs, rfl, z1, y1, hV1⟩ := isV_elim ha
  obtain ⟨k2, i2, s2, n2, ys, rfl, z2, y2, hV2⟩ := isV_elim hb
  have r1 := erase_of_isV hV1
  have r2 := erase_of_isV hV2
  simp only [mkV] at p2 p3 p4 p5 p6
  unfold good6 at F1 F2
  cases fw with
  | false => simp (config := { contextual := true, maxSteps := 10000000 }) only [c6, mkV, φawake, r1, r2, p2, go_sem, List.map_cons, List.map_nil, List.append_assoc, List.cons_append, List.nil_append, List.append_nil, List.length_append, List.length_cons, List.length_nil, List.take_zero, List.take_succ_cons, List.take_nil, List.drop_zero, List.drop_succ_cons, List.drop_nil, Nat.zero_add, Nat.add_zero, Nat.reduceAdd, Nat.reduceSub, Nat.reduceMul, Nat.reduceEqDiff, Nat.reduceLeDiff, Nat.reduceLT, Int.reduceToNat, Int.reduceLE, Int.reduceLT, Int.reduceEq, Int.reduceNe, Int.reduceBEq, Int.reduceBNe, Nat.reduceBEq, Nat.reduceBNe, ↓reduceIte, reduceCtorEq, ↓reduceDIte, Option.map_some, Option.map_none, true_and, and_true, false_and, and_false, and_self, W_draw, condK_b, WIk_bt, WIk_bf, Bool.true_eq_false, Bool.false_eq_true, Bool.not_true, Bool.not_false, Bool.not_eq_true', Bool.not_eq_false', Bool.true_and, Bool.and_true, Bool.false_and, Bool.and_false, Bool.true_or, Bool.or_true, Bool.false_or, Bool.or_false, Bool.bne_true, Bool.bne_false, Bool.true_bne, Bool.false_bne, Bool.true_beq, Bool.false_beq, Bool.not_not, decide_true, decide_false, false_implies, true_implies, implies_true, forall_const, List.all_cons, List.all_nil, beq_self_eq_true, bne_self_eq_false, Nat.zero_le, Nat.le_refl, List.getElem?_cons_zero, List.getElem?_cons_succ, List.isEmpty_nil, List.isEmpty_cons, Int.cast_ofNat_Int, Int.toNat_zero]
  | true =>
    simp (config := { contextual := true, maxSteps := 10000000 }) only [c6, mkV, φawake, r1, r2, p2, p3, p4, p5, p6, go_sem, List.map_cons, List.map_nil, List.append_assoc, List.cons_append, List.nil_append, List.append_nil, List.length_append, List.length_cons, List.length_nil, List.take_zero, List.take_succ_cons, List.take_nil, List.drop_zero, List.drop_succ_cons, List.drop_nil, Nat.zero_add, Nat.add_zero, Nat.reduceAdd, Nat.reduceSub, Nat.reduceMul, Nat.reduceEqDiff, Nat.reduceLeDiff, Nat.reduceLT, Int.reduceToNat, Int.reduceLE, Int.reduceLT, Int.reduceEq, Int.reduceNe, Int.reduceBEq, Int.reduceBNe, Nat.reduceBEq, Nat.reduceBNe, ↓reduceIte, reduceCtorEq, ↓reduceDIte, Option.map_some, Option.map_none, true_and, and_true, false_and, and_false, and_self, W_draw, condK_b, WIk_bt, WIk_bf, Bool.true_eq_false, Bool.false_eq_true, Bool.not_true, Bool.not_false, Bool.not_eq_true', Bool.not_eq_false', Bool.true_and, Bool.and_true, Bool.false_and, Bool.and_false, Bool.true_or, Bool.or_true, Bool.false_or, Bool.or_false, Bool.bne_true, Bool.bne_false, Bool.true_bne, Bool.false_bne, Bool.true_beq, Bool.false_beq, Bool.not_not, decide_true, decide_false, false_implies, true_implies, implies_true, forall_const, List.all_cons, List.all_nil, beq_self_eq_true, bne_self_eq_false, Nat.zero_le, Nat.le_refl, List.getElem?_cons_zero, List.getElem?_cons_succ, List.isEmpty_nil, List.isEmpty_cons, Int.cast_ofNat_Int, Int.toNat_zero]
    repeat' (first | apply And.intro | intro _)
    all_goals grind

theorem cells24 : Try.prog.cellsOf 24 = 4 := by kernel_rfl
theorem cells3 : Try.prog.cellsOf 3 = 1 := by kernel_rfl
theorem cells2 : Try.prog.cellsOf 2 = 1 := by kernel_rfl
theorem cells9 : Try.prog.cellsOf 9 = 1 := by kernel_rfl
theorem cells22 : Try.prog.cellsOf 22 = 1 := by kernel_rfl
theorem bytes24 : 1 ≤ Try.prog.bytesOf 24 := of_decide_eq_true (by kernel_rfl)

def isL (ds : List D) : Prop := ∃ l, ds = [l] ∧ (l = .nils ∨ ∃ xs, l = .sl none xs ∧ xs.length ≤ 2 ^ 47 ∧ ∀ x ∈ xs, x.isV = true)
theorem rdV (W : World) : ∀ fuel, Rds Try.prog W 24 (fun ds => (D.agg ds).isV = true) fuel ∧ Rds Try.prog W 22 isL fuel
  | 0 => ⟨fun _ _ _ _ _ h _ => by simp [DataW.trod] at h, fun _ _ _ _ _ h _ => by simp [DataW.trod] at h⟩
  | fuel + 1 => by
    obtain ⟨h24, h22⟩ := rdV W fuel
    refine ⟨?_, ?_⟩
    · refine (rds_struct (P := Try.prog) (w := W) (φs := [fun ds => ∃ n, ds = [.int .i64 n] ∧ IntKind.i64.min ≤ n ∧ n ≤ IntKind.i64.max, fun ds => ∃ n, ds = [.int .i64 n] ∧ IntKind.i64.min ≤ n ∧ n ≤ IntKind.i64.max, fun ds => ∃ l, ds = [.str l] ∧ l.length ≤ 2 ^ 47, isL]) Try.underlying24 rfl ?_ ?_ ?_).imp ?_
      · simp only [FldsOf, cells3, cells2, cells9, and_self, and_true, Nat.zero_add, Nat.reduceAdd]
      · simp only [List.map_cons, List.map_nil, cells3, cells2, cells9, cells22, cells24]; rfl
      · intro i f φ e1 e2
        match i with
        | 0 => simp at e1 e2; subst e1; subst e2; exact rds_int Try.underlying3 fuel
        | 1 => simp at e1 e2; subst e1; subst e2; exact rds_int Try.underlying2 fuel
        | 2 => simp at e1 e2; subst e1; subst e2; exact rds_string Try.underlying9 fuel
        | 3 => simp at e1 e2; subst e1; subst e2; exact h22
        | i + 4 => simp at e1
      · rintro ds ⟨x1, y1, rfl, ⟨k, rfl, _⟩, x2, y2, rfl, ⟨i, rfl, _⟩, x3, y3, rfl, ⟨s, rfl, hs⟩, x4, y4, rfl, ⟨l, rfl, hl⟩, rfl⟩
        rcases hl with rfl | ⟨xs, rfl, h1, h2⟩
        · simp [D.isV, hs]
        · simp [D.isV, hs, h1, isVs_iff.2 h2]
    · refine (rds_slice (P := Try.prog) (w := W) (mk := D.agg) (fun _ => rfl) (sz := 4) (by decide) Try.underlying22 cells24 bytes24 h24).imp ?_
      rintro ds (rfl | ⟨xs, rfl, h1, h2⟩)
      · exact ⟨_, rfl, .inl rfl⟩
      · refine ⟨_, rfl, .inr ⟨_, rfl, by simpa using h1, fun x hx => ?_⟩⟩
        obtain ⟨y, hy, rfl⟩ := List.mem_map.1 hx
        exact (h2 y hy).1

theorem argV (W : World) : Arg Try.prog W 24 (fun x => x.isV = true) := by
  intro H enc v d ps base h1 h2 h3
  obtain ⟨x, k1, ds, rfl, k2⟩ := arg_struct Try.underlying24 (fun f => (rdV W f).1) H enc v d ps base h1 h2 h3
  exact ⟨_, k1, k2⟩

theorem own6 : ownKnob Try.prog.godebug = none := by kernel_rfl
theorem laid6 : laidOutB Try.prog = true := by kernel_rfl
theorem rowed6 : mapsRowed Try.prog = true := by kernel_rfl
theorem full6 : ((List.range Try.prog.types.size).all fun t => match Try.prog.underlying t with | some (.slice e) => decide (0 < Try.prog.cellsOf e) | _ => true) = true := by kernel_rfl

theorem args6 (W : World) : Args Try.prog W Try.f6.params.toList (fun l => ∃ x xs, l = x :: xs ∧ (∃ s, [x] = [.str s] ∧ s.length ≤ 2 ^ 47) ∧ ∃ x' xs', xs = x' :: xs' ∧ x'.isV = true ∧ ∃ y ys, xs' = y :: ys ∧ y.isV = true ∧ ys = []) := by
  rw [Try.params6]
  exact .cons (arg_one Try.underlying9 rfl fun f => rds_string Try.underlying9 f) (.cons (argV W) (.cons (argV W) .nil))

theorem lifted6 (os : Os) (started : os.Started) (H : Type) (enc : TypeId × Value → H) :
    ReturnsInHanded {} Try.checked os 6 .any (Rows.valueComparesSpec.pre6 enc Try.prog Try.f6 Rows.valueComparesRow.domain false) (Rows.valueComparesSpec.post enc Try.prog Try.f6 false true false false) := by
  refine returnsInHanded_of_change_sized (C := Try.checked) own6 started (by kernel_rfl) Try.func6
    (ChangeSpec.witness6 (enc := enc) (C := Try.checked) false ⟨#[], #[.string ⟨#[]⟩, .agg #[.int .i64 0, .int .i64 0, .string ⟨#[]⟩, .slice none 0 0], .agg #[.int .i64 0, .int .i64 0, .string ⟨#[]⟩, .slice none 0 0]], []⟩ 8 (by kernel_rfl) (by kernel_rfl) (by kernel_rfl) (by kernel_rfl)) ?_
  intro W base args ds gs before hval hW hcnd hsz _
  refine law_contract laid6 rowed6 full6 ?_ rfl (tb := 4) ?_ Try.underlying4 hval hW hsz ?_ (args6 W) fn6 ?_ ?_
  · rw [Try.params6]; exact of_decide_eq_true (by kernel_rfl)
  · kernel_rfl
  · intro l hl
    rw [Try.params6] at hl
    match l, hl with
    | [a, b, c], _ => rfl
  · rw [Try.params6]; decide
  · rintro xs ⟨x, xs1, rfl, ⟨s, hs, hl⟩, x', xs2, rfl, hx', y, ys, rfl, hy, rfl⟩
    injection hs with hs
    subst hs
    exact main6 s x' y hx' hy [] []

theorem over6 : Rows.valueComparesRow.holds Try.pinned (OpenSpec.ofChange Rows.valueComparesSpec) :=
  OpenClaim.holds_of_wide 6 Try.f6 rfl rfl rfl rfl rfl rfl rfl ⟨rfl, rfl, rfl, rfl, rfl⟩ rfl rfl rfl rfl rfl (by kernel_rfl) Try.func6 (by kernel_rfl)
    (of_decide_eq_true (by kernel_rfl)) (by unfold Func.isWrapper; first | (rw [if_pos (by decide +kernel)]; kernel_rfl) | (rw [if_neg (by decide +kernel)]; exact ⟨rfl, rfl⟩))
    (fun os started H enc _ => lifted6 os started H enc)
end GP
namespace Go.Proofs.Ytoobncfcgknecaa
theorem valueCompares_holds : Rows.ValueComparesSaid := GP.over6
#print axioms valueCompares_holds
end Go.Proofs.Ytoobncfcgknecaa
