import Derived.Test.YtoobncfcgknecaaGpF15
set_option linter.unusedSimpArgs false
namespace GP
open Go Go.Proofs
set_option maxRecDepth 10000

/-- In, as the program says. -/
def inV (v bag : D) : D :=
  if !(formedB v) || !(formedB bag) then .tup [.bool false, .int .i64 1] else
  if (vk bag != 5) || (vk v == 0) || (vk v == 5) then .tup [.bool false, .int .i64 6] else
  if decide ((0 : Int) < (vl bag).length) && (vk0 (vl bag) != vk v) then .tup [.bool false, .int .i64 6] else
  .tup [.bool ((vl bag).any fun x => same0 x v), .int .i64 0]
def φIn : List D → Option D
  | [v, bag] => if v.isV = true ∧ bag.isV = true then some (inV v bag) else none
  | _ => none

theorem flat_of {d : D} (h : d.isV = true) (hf : formedB d = true) : flat d = true := by
  simp only [flat, h, formed_leaf hf, Bool.and_self]

theorem M40 : MonoH [(40, φIn2 fun p l => .bool (l.any p))] := .cons (monoIn2 _) .nil

theorem ok19 : OkAt Try.prog 19 φIn := by
  have hX : ∀ f args H T Q Q', (∀ r H T, Q r H T → Q' r H T) → XM [(11, φFormed)] [(40, φIn2 fun p l => .bool (l.any p))] f args H T Q → Snd Try.prog f args H T Q' := XM.X (.cons ok11 .nil) (.cons ok40 .nil)
  intro args r hr args' he H T Q hQ
  have main : args.length ≤ 48 ∧ r.cl 0 0 = true ∧ W (XM [(11, φFormed)] [(40, φIn2 fun p l => .bool (l.any p))]) c19 (endQ [.inl 4, .inl 5] (Leaves r H T)) ⟨argT args, H, T⟩ := by
    unfold φIn at hr
    split at hr
    · split at hr
      · rename_i v bag hab
        injection hr with hr; subst hr
        obtain ⟨ha, hb⟩ := hab
        refine ⟨by simp, by unfold inV; split <;> (try split) <;> (try split) <;> simp [D.cl, D.clL], ?_⟩
        have pa : φFormed [v] = some (.bool (formedB v)) := by simp [φFormed, ha, formed_same]
        have pb : φFormed [bag] = some (.bool (formedB bag)) := by simp [φFormed, hb, formed_same]
        have E : inV v bag = if !(formedB v) || !(formedB bag) then .tup [.bool false, .int .i64 1] else
            if (vk bag != 5) || (vk v == 0) || (vk v == 5) then .tup [.bool false, .int .i64 6] else
            if decide ((0 : Int) < (vl bag).length) && (vk0 (vl bag) != vk v) then .tup [.bool false, .int .i64 6] else
            .tup [.bool ((vl bag).any fun x => same0 x v), .int .i64 0] := rfl
        rw [E]
        have hfv : formedB v = true → flat v = true := flat_of ha
        have hfb : formedB bag = true → (vk bag == 5) = true → (vl bag).all flat = true := fun h h5 => by
          refine List.all_eq_true.2 fun x hx => ?_
          have hxV : x.isV = true := by
            obtain ⟨k2, i2, s2, n2, ys, rfl, _, _, hV2⟩ := isV_elim hb
            rw [vl_mk] at hx; exact hV2 x hx
          have h1 : one1 x = true := by
            unfold formedB at h
            have h5' : vk bag = 5 := by simpa using h5
            simp only [h5', bne_self_eq_false, Bool.false_eq_true, if_false] at h
            split at h
            · cases h
            · exact el_one h x hx
          have : vl x = [] := List.length_eq_zero_iff.1 (plain_facts h1).1
          simp [flat, hxV, this]
        generalize formedB v = fa at pa hfv
        generalize formedB bag = fb at pb hfb
        obtain ⟨k1, i1, s1, n1, xs, rfl, z1, y1, hV1⟩ := isV_elim ha
        obtain ⟨k2, i2, s2, n2, ys, rfl, z2, y2, hV2⟩ := isV_elim hb
        have r1 := erase_of_isV hV1
        have r2 := erase_of_isV hV2
        simp only [vk_mk, vl_mk] at hfb ⊢
        have pc : fa = true → fb = true → (k2 != 5) = false → ∀ L, φIn2 (fun p l => .bool (l.any p)) (H ++ .row [.int .i64 k1, .int .i64 i1, .str s1, sliceD n1 xs] :: L) [sliceD n2 ys, .fn 41 [] [.ptr H.length 0]] = some (.bool (ys.any fun x => same0 x (mkV k1 i1 s1 n1 xs))) := by
          intro h1 h2 h3 L
          have hrow : rowV (H ++ .row [.int .i64 k1, .int .i64 i1, .str s1, sliceD n1 xs] :: L) H.length = some (mkV k1 i1 s1 n1 xs) := by
            unfold rowV
            rw [List.getElem?_append_right (Nat.le_refl _), Nat.sub_self]
            have := hfv h1
            simp only [mkV] at this ⊢
            simp only [List.getElem?_cons_zero, this, if_true]
          have h5 : (k2 == 5) = true := by simpa using h3
          simp only [φIn2, hrow, isSl_sliceD, elems_sliceD, hfb h2 h5, y2, and_self, if_true]
        generalize (ys.any fun x => same0 x (mkV k1 i1 s1 n1 xs)) = res at pc ⊢
        clear E hQ he hX
        simp only [mkV] at pa pb pc
        cases fa with
        | false => simp (config := { contextual := true, maxSteps := 10000000 }) only [c19, mkV, r1, r2, pa, pb, pcallH M40, orK_s, orK_n, lookH_cons, lookH_nil, go_sem, List.map_cons, List.map_nil, List.append_assoc, List.cons_append, List.nil_append, List.append_nil, List.length_append, List.length_cons, List.length_nil, List.take_zero, List.take_succ_cons, List.take_nil, List.drop_zero, List.drop_succ_cons, List.drop_nil, Nat.zero_add, Nat.add_zero, Nat.reduceAdd, Nat.reduceSub, Nat.reduceMul, Nat.reduceEqDiff, Nat.reduceLeDiff, Nat.reduceLT, Int.reduceToNat, Int.reduceLE, Int.reduceLT, Int.reduceEq, Int.reduceNe, Int.reduceBEq, Int.reduceBNe, Nat.reduceBEq, Nat.reduceBNe, ↓reduceIte, reduceCtorEq, ↓reduceDIte, Option.map_some, Option.map_none, true_and, and_true, false_and, and_false, and_self, W_draw, condK_b, WIk_bt, WIk_bf, Bool.true_eq_false, Bool.false_eq_true, Bool.not_true, Bool.not_false, Bool.not_eq_true', Bool.not_eq_false', Bool.true_and, Bool.and_true, Bool.false_and, Bool.and_false, Bool.true_or, Bool.or_true, Bool.false_or, Bool.or_false, Bool.bne_true, Bool.bne_false, Bool.true_bne, Bool.false_bne, Bool.true_beq, Bool.false_beq, Bool.not_not, decide_true, decide_false, false_implies, true_implies, implies_true, forall_const, List.all_cons, List.all_nil, beq_self_eq_true, bne_self_eq_false, Nat.zero_le, Nat.le_refl, List.getElem?_cons_zero, List.getElem?_cons_succ, List.isEmpty_nil, List.isEmpty_cons, Int.cast_ofNat_Int, Int.toNat_zero]
        | true =>
          cases fb with
          | false => simp (config := { contextual := true, maxSteps := 10000000 }) only [c19, mkV, r1, r2, pa, pb, pcallH M40, orK_s, orK_n, lookH_cons, lookH_nil, go_sem, List.map_cons, List.map_nil, List.append_assoc, List.cons_append, List.nil_append, List.append_nil, List.length_append, List.length_cons, List.length_nil, List.take_zero, List.take_succ_cons, List.take_nil, List.drop_zero, List.drop_succ_cons, List.drop_nil, Nat.zero_add, Nat.add_zero, Nat.reduceAdd, Nat.reduceSub, Nat.reduceMul, Nat.reduceEqDiff, Nat.reduceLeDiff, Nat.reduceLT, Int.reduceToNat, Int.reduceLE, Int.reduceLT, Int.reduceEq, Int.reduceNe, Int.reduceBEq, Int.reduceBNe, Nat.reduceBEq, Nat.reduceBNe, ↓reduceIte, reduceCtorEq, ↓reduceDIte, Option.map_some, Option.map_none, true_and, and_true, false_and, and_false, and_self, W_draw, condK_b, WIk_bt, WIk_bf, Bool.true_eq_false, Bool.false_eq_true, Bool.not_true, Bool.not_false, Bool.not_eq_true', Bool.not_eq_false', Bool.true_and, Bool.and_true, Bool.false_and, Bool.and_false, Bool.true_or, Bool.or_true, Bool.false_or, Bool.or_false, Bool.bne_true, Bool.bne_false, Bool.true_bne, Bool.false_bne, Bool.true_beq, Bool.false_beq, Bool.not_not, decide_true, decide_false, false_implies, true_implies, implies_true, forall_const, List.all_cons, List.all_nil, beq_self_eq_true, bne_self_eq_false, Nat.zero_le, Nat.le_refl, List.getElem?_cons_zero, List.getElem?_cons_succ, List.isEmpty_nil, List.isEmpty_cons, Int.cast_ofNat_Int, Int.toNat_zero]
          | true =>
            cases h5 : (k2 != 5) with
            | true => simp (config := { contextual := true, maxSteps := 10000000 }) only [c19, mkV, r1, r2, pa, pb, h5, pcallH M40, orK_s, orK_n, lookH_cons, lookH_nil, go_sem, List.map_cons, List.map_nil, List.append_assoc, List.cons_append, List.nil_append, List.append_nil, List.length_append, List.length_cons, List.length_nil, List.take_zero, List.take_succ_cons, List.take_nil, List.drop_zero, List.drop_succ_cons, List.drop_nil, Nat.zero_add, Nat.add_zero, Nat.reduceAdd, Nat.reduceSub, Nat.reduceMul, Nat.reduceEqDiff, Nat.reduceLeDiff, Nat.reduceLT, Int.reduceToNat, Int.reduceLE, Int.reduceLT, Int.reduceEq, Int.reduceNe, Int.reduceBEq, Int.reduceBNe, Nat.reduceBEq, Nat.reduceBNe, ↓reduceIte, reduceCtorEq, ↓reduceDIte, Option.map_some, Option.map_none, true_and, and_true, false_and, and_false, and_self, W_draw, condK_b, WIk_bt, WIk_bf, Bool.true_eq_false, Bool.false_eq_true, Bool.not_true, Bool.not_false, Bool.not_eq_true', Bool.not_eq_false', Bool.true_and, Bool.and_true, Bool.false_and, Bool.and_false, Bool.true_or, Bool.or_true, Bool.false_or, Bool.or_false, Bool.bne_true, Bool.bne_false, Bool.true_bne, Bool.false_bne, Bool.true_beq, Bool.false_beq, Bool.not_not, decide_true, decide_false, false_implies, true_implies, implies_true, forall_const, List.all_cons, List.all_nil, beq_self_eq_true, bne_self_eq_false, Nat.zero_le, Nat.le_refl, List.getElem?_cons_zero, List.getElem?_cons_succ, List.isEmpty_nil, List.isEmpty_cons, Int.cast_ofNat_Int, Int.toNat_zero]
            | false =>
              have pc := pc rfl rfl h5
              cases hd : decide ((0 : Int) < ys.length) with
              | false =>
                simp (config := { contextual := true, maxSteps := 10000000 }) only [c19, mkV, r1, r2, pa, pb, pc, h5, hd, pcallH M40, orK_s, orK_n, lookH_cons, lookH_nil, go_sem, List.map_cons, List.map_nil, List.append_assoc, List.cons_append, List.nil_append, List.append_nil, List.length_append, List.length_cons, List.length_nil, List.take_zero, List.take_succ_cons, List.take_nil, List.drop_zero, List.drop_succ_cons, List.drop_nil, Nat.zero_add, Nat.add_zero, Nat.reduceAdd, Nat.reduceSub, Nat.reduceMul, Nat.reduceEqDiff, Nat.reduceLeDiff, Nat.reduceLT, Int.reduceToNat, Int.reduceLE, Int.reduceLT, Int.reduceEq, Int.reduceNe, Int.reduceBEq, Int.reduceBNe, Nat.reduceBEq, Nat.reduceBNe, ↓reduceIte, reduceCtorEq, ↓reduceDIte, Option.map_some, Option.map_none, true_and, and_true, false_and, and_false, and_self, W_draw, condK_b, WIk_bt, WIk_bf, Bool.true_eq_false, Bool.false_eq_true, Bool.not_true, Bool.not_false, Bool.not_eq_true', Bool.not_eq_false', Bool.true_and, Bool.and_true, Bool.false_and, Bool.and_false, Bool.true_or, Bool.or_true, Bool.false_or, Bool.or_false, Bool.bne_true, Bool.bne_false, Bool.true_bne, Bool.false_bne, Bool.true_beq, Bool.false_beq, Bool.not_not, decide_true, decide_false, false_implies, true_implies, implies_true, forall_const, List.all_cons, List.all_nil, beq_self_eq_true, bne_self_eq_false, Nat.zero_le, Nat.le_refl, List.getElem?_cons_zero, List.getElem?_cons_succ, List.isEmpty_nil, List.isEmpty_cons, Int.cast_ofNat_Int, Int.toNat_zero]
                repeat' (first | apply And.intro | intro _)
                all_goals grind
              | true =>
                obtain ⟨k0, i0, s0, n0, l0, e0, _⟩ := get_isV hV2 (show 0 < ys.length by simp at hd; omega)
                have fk := vk0_get e0
                simp (config := { contextual := true, maxSteps := 10000000 }) only [c19, mkV, r1, r2, pa, pb, pc, h5, hd, e0, fk, pcallH M40, orK_s, orK_n, lookH_cons, lookH_nil, go_sem, List.map_cons, List.map_nil, List.append_assoc, List.cons_append, List.nil_append, List.append_nil, List.length_append, List.length_cons, List.length_nil, List.take_zero, List.take_succ_cons, List.take_nil, List.drop_zero, List.drop_succ_cons, List.drop_nil, Nat.zero_add, Nat.add_zero, Nat.reduceAdd, Nat.reduceSub, Nat.reduceMul, Nat.reduceEqDiff, Nat.reduceLeDiff, Nat.reduceLT, Int.reduceToNat, Int.reduceLE, Int.reduceLT, Int.reduceEq, Int.reduceNe, Int.reduceBEq, Int.reduceBNe, Nat.reduceBEq, Nat.reduceBNe, ↓reduceIte, reduceCtorEq, ↓reduceDIte, Option.map_some, Option.map_none, true_and, and_true, false_and, and_false, and_self, W_draw, condK_b, WIk_bt, WIk_bf, Bool.true_eq_false, Bool.false_eq_true, Bool.not_true, Bool.not_false, Bool.not_eq_true', Bool.not_eq_false', Bool.true_and, Bool.and_true, Bool.false_and, Bool.and_false, Bool.true_or, Bool.or_true, Bool.false_or, Bool.or_false, Bool.bne_true, Bool.bne_false, Bool.true_bne, Bool.false_bne, Bool.true_beq, Bool.false_beq, Bool.not_not, decide_true, decide_false, false_implies, true_implies, implies_true, forall_const, List.all_cons, List.all_nil, beq_self_eq_true, bne_self_eq_false, Nat.zero_le, Nat.le_refl, List.getElem?_cons_zero, List.getElem?_cons_succ, List.isEmpty_nil, List.isEmpty_cons, Int.cast_ofNat_Int, Int.toNat_zero]
                repeat' (first | apply And.intro | intro _)
                all_goals grind
      · cases hr
    · cases hr
  obtain ⟨h1, h2, h3⟩ := main
  have hS : Snd Try.prog 19 args H T (Leaves r H T) := call_of fn19 h1 (W_mono hX (fun _ _ h => h) h3)
  intro c w vs k1 k2 k3
  have k3' : Reps c args vs := by rw [← he]; exact k3.erase
  have hcl := D.cl_mono (Nat.zero_le H.length) (Nat.zero_le T.length) r h2
  rcases hS c w vs k1 k2 k3' with ⟨g1, g2⟩ | ⟨v, w', g1, g2⟩
  · exact .inl ⟨g1, g2.mono fun e w' k => CallPost.forget k1 k2 hcl hQ k⟩
  · exact .inr ⟨v, w', g1, CallPost.forget k1 k2 hcl hQ g2⟩
end GP
