/- EvalMore and EvalLogic return true for every input, and their arguments read behind the call as before. No condition beyond the rows' own. -/
import Derived.Test.YtnipbngimicldaaGpbL1
import Derived.Test.YtnipbngimicldaaGpbR
set_option linter.unusedSimpArgs false
namespace GP
open Go Go.Proofs Go.Proofs.Ytnipbngimicldaa
open Go.ChangeShapes Go.WideShapes Go.ChangeAt Go.RowKit
set_option maxRecDepth 100000

set_option maxHeartbeats 8000000 in
theorem main7 (n : Nat) (a b s : D) (ha : isE n a) (hb : isE n b) (hs : isS s) (H : Hp) (T : Tk) : W (Snd Try.prog) c7 (endQ [.inl 6] (fun r _ _ => r = .bool true)) ⟨argT [a, b, s], H, T⟩ := by
  refine W_mono (X := XL [(11, φtrue), (27, φsizeE n), (12, φfewE n), (13, φfewS), (28, φsing), (29, φdoub), (22, φTest (n + 2))]) (Ok.X (.cons ok11 (.cons (ok27 n) (.cons (ok12 n) (.cons ok13 (.cons ok28 (.cons ok29 (.cons (ok22 (n + 2)) .nil)))))))) (fun _ _ h => h) ?_
  have p1 : ∀ x, isE n x → φsizeE n [x, .int .i64 40] = some (.int .i64 (sizeE n x 40)) := fun x h => by simp only [φsizeE]; rw [if_pos h]
  have p2 : ∀ x, isE n x → φfewE n [x] = some (.bool (fewEx n x)) := fun x h => by simp only [φfewE]; rw [if_pos h]
  have p3 : φfewS [s] = some (.bool (fewS s)) := by simp only [φfewS]; rw [if_pos hs]
  have la : sAnd.length ≤ 2 ^ 47 := by decide
  have lo : sOr.length ≤ 2 ^ 47 := by decide
  have ln : sNot.length ≤ 2 ^ 47 := by decide
  have hab := isE_doub la ha hb
  have hba := isE_doub la hb ha
  have hna := isE_sing ln ha
  have hnb := isE_sing ln hb
  have hn := isE_sing ln hab
  have ho := isE_doub lo hna hnb
  have q1 : φdoub [.str sAnd, a, b] = some (doub sAnd a b) := by simp only [φdoub]; rw [if_pos ⟨la, n, ha, hb⟩]
  have q2 : φdoub [.str sAnd, b, a] = some (doub sAnd b a) := by simp only [φdoub]; rw [if_pos ⟨la, n, hb, ha⟩]
  have q3 : φsing [.str sNot, a] = some (sing sNot a) := by simp only [φsing]; rw [if_pos ⟨ln, n, ha⟩]
  have q4 : φsing [.str sNot, b] = some (sing sNot b) := by simp only [φsing]; rw [if_pos ⟨ln, n, hb⟩]
  have q5 : φsing [.str sNot, doub sAnd a b] = some (sing sNot (doub sAnd a b)) := by simp only [φsing]; rw [if_pos ⟨ln, n + 1, hab⟩]
  have q6 : φdoub [.str sOr, sing sNot a, sing sNot b] = some (doub sOr (sing sNot a) (sing sNot b)) := by simp only [φdoub]; rw [if_pos ⟨lo, n + 1, hna, hnb⟩]
  have t1 : φTest (n + 2) [sing sNot (doub sAnd a b), s] = some (tupB (testI (n + 2) (sing sNot (doub sAnd a b)) s)) := by simp only [φTest]; rw [if_pos ⟨hs, hn⟩]
  have t2 : φTest (n + 2) [doub sOr (sing sNot a) (sing sNot b), s] = some (tupB (testI (n + 2) (sing sNot (doub sAnd a b)) s)) := by rw [law_not]; simp only [φTest]; rw [if_pos ⟨hs, ho⟩]
  have t3 : φTest (n + 2) [doub sAnd a b, s] = some (tupB (testI (n + 2) (doub sAnd a b) s)) := by simp only [φTest]; rw [if_pos ⟨hs, isE_mono hab⟩]
  have t4 : φTest (n + 2) [doub sAnd b a, s] = some (tupB (testI (n + 2) (doub sAnd b a) s)) := by simp only [φTest]; rw [if_pos ⟨hs, isE_mono hba⟩]
  obtain ⟨L1, L2⟩ := law_turn (n + 1) a b s
  obtain ⟨⟨x, e⟩, h⟩ : ∃ z, testI (n + 2) (sing sNot (doub sAnd a b)) s = z := ⟨_, rfl⟩
  rw [h] at t1 t2
  clear h
  obtain ⟨⟨y, f⟩, h⟩ : ∃ z, testI (n + 2) (doub sAnd a b) s = z := ⟨_, rfl⟩
  obtain ⟨⟨y', f'⟩, h'⟩ : ∃ z, testI (n + 2) (doub sAnd b a) s = z := ⟨_, rfl⟩
  rw [h] at t3 L1 L2
  rw [h'] at t4 L1 L2
  clear h h'
  simp only at L1 L2
  subst L1
  simp only [tupB, sAnd, sOr, sNot] at *
  have ea := isE_erase ha
  obtain ⟨a1, a2, a3, a4⟩ := isE_cells ha
  have eb := isE_erase hb
  obtain ⟨b1, b2, b3, b4⟩ := isE_cells hb
  have es := isS_erase hs
  obtain ⟨c1, c2, c3, c4⟩ := isS_cells hs
  have eo := isE_erase ho
  obtain ⟨o1, o2, o3, o4⟩ := isE_cells ho
  have en := isE_erase hn
  obtain ⟨n1, n2, n3, n4⟩ := isE_cells hn
  have e5 := isE_erase hab
  have e6 := isE_erase hba
  have e7 := isE_erase hna
  have e8 := isE_erase hnb
  have P1 := p1 a ha
  have P2 := p1 b hb
  have P3 := p2 a ha
  have P4 := p2 b hb
  obtain ⟨z1, h⟩ : ∃ z, sizeE n a 40 = z := ⟨_, rfl⟩
  rw [h] at P1; clear h
  obtain ⟨z2, h⟩ : ∃ z, sizeE n b 40 = z := ⟨_, rfl⟩
  rw [h] at P2; clear h
  obtain ⟨z3, h⟩ : ∃ z, fewEx n a = z := ⟨_, rfl⟩
  rw [h] at P3; clear h
  obtain ⟨z4, h⟩ : ∃ z, fewEx n b = z := ⟨_, rfl⟩
  rw [h] at P4; clear h
  obtain ⟨z5, h⟩ : ∃ z, fewS s = z := ⟨_, rfl⟩
  rw [h] at p3; clear h
  obtain ⟨w1, h⟩ : ∃ z, doub [97, 110, 100] a b = z := ⟨_, rfl⟩
  simp only [h] at *; clear h
  obtain ⟨w2, h⟩ : ∃ z, doub [97, 110, 100] b a = z := ⟨_, rfl⟩
  simp only [h] at *; clear h
  obtain ⟨w3, h⟩ : ∃ z, sing [110, 111, 116] a = z := ⟨_, rfl⟩
  simp only [h] at *; clear h
  obtain ⟨w4, h⟩ : ∃ z, sing [110, 111, 116] b = z := ⟨_, rfl⟩
  simp only [h] at *; clear h
  obtain ⟨w5, h⟩ : ∃ z, sing [110, 111, 116] w1 = z := ⟨_, rfl⟩
  simp only [h] at *; clear h
  obtain ⟨w6, h⟩ : ∃ z, doub [111, 114] w3 w4 = z := ⟨_, rfl⟩
  simp only [h] at *; clear h
  have K : ((y == y) && ((f == 0) == (f' == 0))) = true := by rw [L2]; simp
  clear p1 p2
  cases g1 : decide ((40 : Int) < z1) with
  | true => simp (config := { contextual := true, maxSteps := 10000000 }) only [c7, φtrue, ea, a1, a2, a3, a4, eb, b1, b2, b3, b4, es, c1, c2, c3, c4, P1, P2, P3, P4, p3, g1, go_sem, List.map_cons, List.map_nil, List.append_assoc, List.cons_append, List.nil_append, List.append_nil, List.length_append, List.length_cons, List.length_nil, List.take_zero, List.take_succ_cons, List.take_nil, List.drop_zero, List.drop_succ_cons, List.drop_nil, Nat.zero_add, Nat.add_zero, Nat.reduceAdd, Nat.reduceSub, Nat.reduceMul, Nat.reduceEqDiff, Nat.reduceLeDiff, Nat.reduceLT, Int.reduceToNat, Int.reduceLE, Int.reduceLT, Int.reduceEq, Int.reduceNe, Int.reduceBEq, Int.reduceBNe, Nat.reduceBEq, Nat.reduceBNe, ↓reduceIte, reduceCtorEq, ↓reduceDIte, Option.map_some, Option.map_none, true_and, and_true, false_and, and_false, and_self, W_draw, condK_b, WIk_bt, WIk_bf, Bool.true_eq_false, Bool.false_eq_true, Bool.not_true, Bool.not_false, Bool.not_eq_true', Bool.not_eq_false', Bool.true_and, Bool.and_true, Bool.false_and, Bool.and_false, Bool.true_or, Bool.or_true, Bool.false_or, Bool.or_false, Bool.bne_true, Bool.bne_false, Bool.true_bne, Bool.false_bne, Bool.true_beq, Bool.false_beq, Bool.not_not, decide_true, decide_false, false_implies, true_implies, implies_true, forall_const, List.all_cons, List.all_nil, beq_self_eq_true, bne_self_eq_false, Nat.zero_le, Nat.le_refl, List.getElem?_cons_zero, List.getElem?_cons_succ, List.isEmpty_nil, List.isEmpty_cons, Int.cast_ofNat_Int, Int.toNat_zero]
  | false =>
  cases g2 : decide ((40 : Int) < z2) with
  | true => simp (config := { contextual := true, maxSteps := 10000000 }) only [c7, φtrue, ea, a1, a2, a3, a4, eb, b1, b2, b3, b4, es, c1, c2, c3, c4, P1, P2, P3, P4, p3, g1, g2, go_sem, List.map_cons, List.map_nil, List.append_assoc, List.cons_append, List.nil_append, List.append_nil, List.length_append, List.length_cons, List.length_nil, List.take_zero, List.take_succ_cons, List.take_nil, List.drop_zero, List.drop_succ_cons, List.drop_nil, Nat.zero_add, Nat.add_zero, Nat.reduceAdd, Nat.reduceSub, Nat.reduceMul, Nat.reduceEqDiff, Nat.reduceLeDiff, Nat.reduceLT, Int.reduceToNat, Int.reduceLE, Int.reduceLT, Int.reduceEq, Int.reduceNe, Int.reduceBEq, Int.reduceBNe, Nat.reduceBEq, Nat.reduceBNe, ↓reduceIte, reduceCtorEq, ↓reduceDIte, Option.map_some, Option.map_none, true_and, and_true, false_and, and_false, and_self, W_draw, condK_b, WIk_bt, WIk_bf, Bool.true_eq_false, Bool.false_eq_true, Bool.not_true, Bool.not_false, Bool.not_eq_true', Bool.not_eq_false', Bool.true_and, Bool.and_true, Bool.false_and, Bool.and_false, Bool.true_or, Bool.or_true, Bool.false_or, Bool.or_false, Bool.bne_true, Bool.bne_false, Bool.true_bne, Bool.false_bne, Bool.true_beq, Bool.false_beq, Bool.not_not, decide_true, decide_false, false_implies, true_implies, implies_true, forall_const, List.all_cons, List.all_nil, beq_self_eq_true, bne_self_eq_false, Nat.zero_le, Nat.le_refl, List.getElem?_cons_zero, List.getElem?_cons_succ, List.isEmpty_nil, List.isEmpty_cons, Int.cast_ofNat_Int, Int.toNat_zero]
  | false =>
  cases z3 with
  | false => simp (config := { contextual := true, maxSteps := 10000000 }) only [c7, φtrue, ea, a1, a2, a3, a4, eb, b1, b2, b3, b4, es, c1, c2, c3, c4, P1, P2, P3, P4, p3, g1, g2, go_sem, List.map_cons, List.map_nil, List.append_assoc, List.cons_append, List.nil_append, List.append_nil, List.length_append, List.length_cons, List.length_nil, List.take_zero, List.take_succ_cons, List.take_nil, List.drop_zero, List.drop_succ_cons, List.drop_nil, Nat.zero_add, Nat.add_zero, Nat.reduceAdd, Nat.reduceSub, Nat.reduceMul, Nat.reduceEqDiff, Nat.reduceLeDiff, Nat.reduceLT, Int.reduceToNat, Int.reduceLE, Int.reduceLT, Int.reduceEq, Int.reduceNe, Int.reduceBEq, Int.reduceBNe, Nat.reduceBEq, Nat.reduceBNe, ↓reduceIte, reduceCtorEq, ↓reduceDIte, Option.map_some, Option.map_none, true_and, and_true, false_and, and_false, and_self, W_draw, condK_b, WIk_bt, WIk_bf, Bool.true_eq_false, Bool.false_eq_true, Bool.not_true, Bool.not_false, Bool.not_eq_true', Bool.not_eq_false', Bool.true_and, Bool.and_true, Bool.false_and, Bool.and_false, Bool.true_or, Bool.or_true, Bool.false_or, Bool.or_false, Bool.bne_true, Bool.bne_false, Bool.true_bne, Bool.false_bne, Bool.true_beq, Bool.false_beq, Bool.not_not, decide_true, decide_false, false_implies, true_implies, implies_true, forall_const, List.all_cons, List.all_nil, beq_self_eq_true, bne_self_eq_false, Nat.zero_le, Nat.le_refl, List.getElem?_cons_zero, List.getElem?_cons_succ, List.isEmpty_nil, List.isEmpty_cons, Int.cast_ofNat_Int, Int.toNat_zero]
  | true =>
  cases z4 with
  | false => simp (config := { contextual := true, maxSteps := 10000000 }) only [c7, φtrue, ea, a1, a2, a3, a4, eb, b1, b2, b3, b4, es, c1, c2, c3, c4, P1, P2, P3, P4, p3, g1, g2, go_sem, List.map_cons, List.map_nil, List.append_assoc, List.cons_append, List.nil_append, List.append_nil, List.length_append, List.length_cons, List.length_nil, List.take_zero, List.take_succ_cons, List.take_nil, List.drop_zero, List.drop_succ_cons, List.drop_nil, Nat.zero_add, Nat.add_zero, Nat.reduceAdd, Nat.reduceSub, Nat.reduceMul, Nat.reduceEqDiff, Nat.reduceLeDiff, Nat.reduceLT, Int.reduceToNat, Int.reduceLE, Int.reduceLT, Int.reduceEq, Int.reduceNe, Int.reduceBEq, Int.reduceBNe, Nat.reduceBEq, Nat.reduceBNe, ↓reduceIte, reduceCtorEq, ↓reduceDIte, Option.map_some, Option.map_none, true_and, and_true, false_and, and_false, and_self, W_draw, condK_b, WIk_bt, WIk_bf, Bool.true_eq_false, Bool.false_eq_true, Bool.not_true, Bool.not_false, Bool.not_eq_true', Bool.not_eq_false', Bool.true_and, Bool.and_true, Bool.false_and, Bool.and_false, Bool.true_or, Bool.or_true, Bool.false_or, Bool.or_false, Bool.bne_true, Bool.bne_false, Bool.true_bne, Bool.false_bne, Bool.true_beq, Bool.false_beq, Bool.not_not, decide_true, decide_false, false_implies, true_implies, implies_true, forall_const, List.all_cons, List.all_nil, beq_self_eq_true, bne_self_eq_false, Nat.zero_le, Nat.le_refl, List.getElem?_cons_zero, List.getElem?_cons_succ, List.isEmpty_nil, List.isEmpty_cons, Int.cast_ofNat_Int, Int.toNat_zero]
  | true =>
  cases z5 with
  | false => simp (config := { contextual := true, maxSteps := 10000000 }) only [c7, φtrue, ea, a1, a2, a3, a4, eb, b1, b2, b3, b4, es, c1, c2, c3, c4, P1, P2, P3, P4, p3, g1, g2, go_sem, List.map_cons, List.map_nil, List.append_assoc, List.cons_append, List.nil_append, List.append_nil, List.length_append, List.length_cons, List.length_nil, List.take_zero, List.take_succ_cons, List.take_nil, List.drop_zero, List.drop_succ_cons, List.drop_nil, Nat.zero_add, Nat.add_zero, Nat.reduceAdd, Nat.reduceSub, Nat.reduceMul, Nat.reduceEqDiff, Nat.reduceLeDiff, Nat.reduceLT, Int.reduceToNat, Int.reduceLE, Int.reduceLT, Int.reduceEq, Int.reduceNe, Int.reduceBEq, Int.reduceBNe, Nat.reduceBEq, Nat.reduceBNe, ↓reduceIte, reduceCtorEq, ↓reduceDIte, Option.map_some, Option.map_none, true_and, and_true, false_and, and_false, and_self, W_draw, condK_b, WIk_bt, WIk_bf, Bool.true_eq_false, Bool.false_eq_true, Bool.not_true, Bool.not_false, Bool.not_eq_true', Bool.not_eq_false', Bool.true_and, Bool.and_true, Bool.false_and, Bool.and_false, Bool.true_or, Bool.or_true, Bool.false_or, Bool.or_false, Bool.bne_true, Bool.bne_false, Bool.true_bne, Bool.false_bne, Bool.true_beq, Bool.false_beq, Bool.not_not, decide_true, decide_false, false_implies, true_implies, implies_true, forall_const, List.all_cons, List.all_nil, beq_self_eq_true, bne_self_eq_false, Nat.zero_le, Nat.le_refl, List.getElem?_cons_zero, List.getElem?_cons_succ, List.isEmpty_nil, List.isEmpty_cons, Int.cast_ofNat_Int, Int.toNat_zero]
  | true => simp (config := { contextual := true, maxSteps := 10000000 }) only [c7, φtrue, ea, a1, a2, a3, a4, eb, b1, b2, b3, b4, es, c1, c2, c3, c4, P1, P2, P3, P4, p3, g1, g2, q1, q2, q3, q4, q5, q6, t1, t2, t3, t4, eo, o1, o2, o3, o4, en, n1, n2, n3, n4, e5, e6, e7, e8, L2, go_sem, List.map_cons, List.map_nil, List.append_assoc, List.cons_append, List.nil_append, List.append_nil, List.length_append, List.length_cons, List.length_nil, List.take_zero, List.take_succ_cons, List.take_nil, List.drop_zero, List.drop_succ_cons, List.drop_nil, Nat.zero_add, Nat.add_zero, Nat.reduceAdd, Nat.reduceSub, Nat.reduceMul, Nat.reduceEqDiff, Nat.reduceLeDiff, Nat.reduceLT, Int.reduceToNat, Int.reduceLE, Int.reduceLT, Int.reduceEq, Int.reduceNe, Int.reduceBEq, Int.reduceBNe, Nat.reduceBEq, Nat.reduceBNe, ↓reduceIte, reduceCtorEq, ↓reduceDIte, Option.map_some, Option.map_none, true_and, and_true, false_and, and_false, and_self, W_draw, condK_b, WIk_bt, WIk_bf, Bool.true_eq_false, Bool.false_eq_true, Bool.not_true, Bool.not_false, Bool.not_eq_true', Bool.not_eq_false', Bool.true_and, Bool.and_true, Bool.false_and, Bool.and_false, Bool.true_or, Bool.or_true, Bool.false_or, Bool.or_false, Bool.bne_true, Bool.bne_false, Bool.true_bne, Bool.false_bne, Bool.true_beq, Bool.false_beq, Bool.not_not, decide_true, decide_false, false_implies, true_implies, implies_true, forall_const, List.all_cons, List.all_nil, beq_self_eq_true, bne_self_eq_false, Nat.zero_le, Nat.le_refl, List.getElem?_cons_zero, List.getElem?_cons_succ, List.isEmpty_nil, List.isEmpty_cons, Int.cast_ofNat_Int, Int.toNat_zero]

theorem eraseL_app (a b : List D) : D.eraseL (a ++ b) = D.eraseL a ++ D.eraseL b := by simp only [eraseL_map, List.map_append]
set_option maxHeartbeats 8000000 in
theorem main5 (n : Nat) (e s v : D) (he : isE n e) (hs : isS s) (hv : isVr v) (H : Hp) (T : Tk) : W (Snd Try.prog) c5 (endQ [.inl 6] (fun r _ _ => r = .bool true)) ⟨argT [e, s, v], H, T⟩ := by
  refine W_mono (X := XL [(11, φtrue), (12, φfewE n), (13, φfewS), (19, φFew), (18, φformed), (17, φEval n), (20, φasks n), (21, φSame)]) (Ok.X (.cons ok11 (.cons (ok12 n) (.cons ok13 (.cons ok19 (.cons ok18 (.cons (ok17 n) (.cons (ok20 n) (.cons ok21 .nil))))))))) (fun _ _ h => h) ?_
  have p1 : φfewE n [e] = some (.bool (fewEx n e)) := by simp only [φfewE]; rw [if_pos he]
  have p2 : φfewS [s] = some (.bool (fewS s)) := by simp only [φfewS]; rw [if_pos hs]
  have p3 := few_one hv
  have p4 : φformed [v] = some (.bool (formedB v)) := by simp only [φformed]; rw [if_pos hv.1]
  have p5 : φEval n [e, s] = some (tupV (evalI n e s)) := by simp only [φEval]; rw [if_pos ⟨hs, he⟩]
  have p6 : φasks n [e] = some (.bool (asksE n e)) := by simp only [φasks]; rw [if_pos he]
  have hR := evalI_res hs he
  have p8 : φSame [(evalI n e s).1, (evalI n e s).1] = some (.bool true) := by
    simp only [φSame]; rw [if_pos ⟨hR.1, hR.1⟩, sameB_refl (evalI_F n e s)]
  have ee := isE_erase he
  obtain ⟨a1, a2, a3, a4⟩ := isE_cells he
  have es := isS_erase hs
  obtain ⟨c1, c2, c3, c4⟩ := isS_cells hs
  obtain ⟨now, R, A, rfl, n1, n2, hRl, hA⟩ := hs
  have eR := isLs_erase (fun _ => isTx_erase) hRl
  have eA := isLs_erase (fun _ => isH_erase) hA
  obtain ⟨nb, l, rfl, hl, hH⟩ := hA
  obtain ⟨k, i, t, nl, m, rfl, _, _, hVm⟩ := isV_elim hv.1
  have eM := erase_of_isV hVm
  have eL : D.eraseL l = l := eraseL_id fun x hx => isH_erase (hH x hx)
  have p7 : l.length ≤ 19 → asksE n e = false → formedB (mkV k i t nl m) = true → (k == 0) = false → φEval n [e, mkS now R (.sl none (l ++ [nob k i t nl m]))] = some (tupV (evalI n e (mkS now R (sliceD nb l)))) := fun h1 h2 h3 h4 => by
    have hs' : isS (mkS now R (.sl none (l ++ [nob k i t nl m]))) := ⟨now, R, _, rfl, n1, n2, hRl, false, l ++ [nob k i t nl m], rfl, by simp; omega, fun x hx => by
      rcases List.mem_append.1 hx with hx | hx
      · exact hH x hx
      · rw [List.mem_singleton] at hx; subst hx
        exact ⟨_, _, k, i, t, nl, m, rfl, by simp, by simp, hv⟩⟩
    simp only [φEval]; rw [if_pos ⟨hs', he⟩, ← more_eval h2 h3 h4 (nb' := false)]; rfl
  obtain ⟨⟨r, f⟩, h⟩ : ∃ z, evalI n e (mkS now R (sliceD nb l)) = z := ⟨_, rfl⟩
  simp only [h] at p5 p7 p8 hR
  clear h
  obtain ⟨z1, h⟩ : ∃ z, fewEx n e = z := ⟨_, rfl⟩
  rw [h] at p1; clear h
  obtain ⟨z2, h⟩ : ∃ z, fewS (mkS now R (sliceD nb l)) = z := ⟨_, rfl⟩
  rw [h] at p2; clear h
  obtain ⟨z3, h⟩ : ∃ z, fewB [mkV k i t nl m] 1 = z := ⟨_, rfl⟩
  simp only [h] at p3; clear h
  obtain ⟨z4, h⟩ : ∃ z, formedB (mkV k i t nl m) = z := ⟨_, rfl⟩
  simp only [h] at p4 p7; clear h
  obtain ⟨z6, h⟩ : ∃ z, asksE n e = z := ⟨_, rfl⟩
  simp only [h] at p6 p7; clear h
  obtain ⟨w1, w2, w3, w4, w5, _⟩ := vOp (show isVr r from hR)
  simp only [tupV, mkS, mkV, nob, mkH] at *
  cases z1 with
  | false => simp (config := { contextual := true, maxSteps := 10000000 }) only [c5, φtrue, ee, a1, a2, a3, a4, eR, eA, eM, mkV, mkS, p1, go_sem, List.map_cons, List.map_nil, List.append_assoc, List.cons_append, List.nil_append, List.append_nil, List.length_append, List.length_cons, List.length_nil, List.take_zero, List.take_succ_cons, List.take_nil, List.drop_zero, List.drop_succ_cons, List.drop_nil, Nat.zero_add, Nat.add_zero, Nat.reduceAdd, Nat.reduceSub, Nat.reduceMul, Nat.reduceEqDiff, Nat.reduceLeDiff, Nat.reduceLT, Int.reduceToNat, Int.reduceLE, Int.reduceLT, Int.reduceEq, Int.reduceNe, Int.reduceBEq, Int.reduceBNe, Nat.reduceBEq, Nat.reduceBNe, ↓reduceIte, reduceCtorEq, ↓reduceDIte, Option.map_some, Option.map_none, true_and, and_true, false_and, and_false, and_self, W_draw, condK_b, WIk_bt, WIk_bf, Bool.true_eq_false, Bool.false_eq_true, Bool.not_true, Bool.not_false, Bool.not_eq_true', Bool.not_eq_false', Bool.true_and, Bool.and_true, Bool.false_and, Bool.and_false, Bool.true_or, Bool.or_true, Bool.false_or, Bool.or_false, Bool.bne_true, Bool.bne_false, Bool.true_bne, Bool.false_bne, Bool.true_beq, Bool.false_beq, Bool.not_not, decide_true, decide_false, false_implies, true_implies, implies_true, forall_const, List.all_cons, List.all_nil, beq_self_eq_true, bne_self_eq_false, Nat.zero_le, Nat.le_refl, List.getElem?_cons_zero, List.getElem?_cons_succ, List.isEmpty_nil, List.isEmpty_cons, Int.cast_ofNat_Int, Int.toNat_zero]
  | true =>
  cases z2 with
  | false => simp (config := { contextual := true, maxSteps := 10000000 }) only [c5, φtrue, ee, a1, a2, a3, a4, eR, eA, eM, mkV, mkS, p1, p2, go_sem, List.map_cons, List.map_nil, List.append_assoc, List.cons_append, List.nil_append, List.append_nil, List.length_append, List.length_cons, List.length_nil, List.take_zero, List.take_succ_cons, List.take_nil, List.drop_zero, List.drop_succ_cons, List.drop_nil, Nat.zero_add, Nat.add_zero, Nat.reduceAdd, Nat.reduceSub, Nat.reduceMul, Nat.reduceEqDiff, Nat.reduceLeDiff, Nat.reduceLT, Int.reduceToNat, Int.reduceLE, Int.reduceLT, Int.reduceEq, Int.reduceNe, Int.reduceBEq, Int.reduceBNe, Nat.reduceBEq, Nat.reduceBNe, ↓reduceIte, reduceCtorEq, ↓reduceDIte, Option.map_some, Option.map_none, true_and, and_true, false_and, and_false, and_self, W_draw, condK_b, WIk_bt, WIk_bf, Bool.true_eq_false, Bool.false_eq_true, Bool.not_true, Bool.not_false, Bool.not_eq_true', Bool.not_eq_false', Bool.true_and, Bool.and_true, Bool.false_and, Bool.and_false, Bool.true_or, Bool.or_true, Bool.false_or, Bool.or_false, Bool.bne_true, Bool.bne_false, Bool.true_bne, Bool.false_bne, Bool.true_beq, Bool.false_beq, Bool.not_not, decide_true, decide_false, false_implies, true_implies, implies_true, forall_const, List.all_cons, List.all_nil, beq_self_eq_true, bne_self_eq_false, Nat.zero_le, Nat.le_refl, List.getElem?_cons_zero, List.getElem?_cons_succ, List.isEmpty_nil, List.isEmpty_cons, Int.cast_ofNat_Int, Int.toNat_zero]
  | true =>
  cases g1 : decide ((19 : Int) < l.length) with
  | true => simp (config := { contextual := true, maxSteps := 10000000 }) only [c5, φtrue, ee, a1, a2, a3, a4, eR, eA, eM, mkV, mkS, p1, p2, g1, go_sem, List.map_cons, List.map_nil, List.append_assoc, List.cons_append, List.nil_append, List.append_nil, List.length_append, List.length_cons, List.length_nil, List.take_zero, List.take_succ_cons, List.take_nil, List.drop_zero, List.drop_succ_cons, List.drop_nil, Nat.zero_add, Nat.add_zero, Nat.reduceAdd, Nat.reduceSub, Nat.reduceMul, Nat.reduceEqDiff, Nat.reduceLeDiff, Nat.reduceLT, Int.reduceToNat, Int.reduceLE, Int.reduceLT, Int.reduceEq, Int.reduceNe, Int.reduceBEq, Int.reduceBNe, Nat.reduceBEq, Nat.reduceBNe, ↓reduceIte, reduceCtorEq, ↓reduceDIte, Option.map_some, Option.map_none, true_and, and_true, false_and, and_false, and_self, W_draw, condK_b, WIk_bt, WIk_bf, Bool.true_eq_false, Bool.false_eq_true, Bool.not_true, Bool.not_false, Bool.not_eq_true', Bool.not_eq_false', Bool.true_and, Bool.and_true, Bool.false_and, Bool.and_false, Bool.true_or, Bool.or_true, Bool.false_or, Bool.or_false, Bool.bne_true, Bool.bne_false, Bool.true_bne, Bool.false_bne, Bool.true_beq, Bool.false_beq, Bool.not_not, decide_true, decide_false, false_implies, true_implies, implies_true, forall_const, List.all_cons, List.all_nil, beq_self_eq_true, bne_self_eq_false, Nat.zero_le, Nat.le_refl, List.getElem?_cons_zero, List.getElem?_cons_succ, List.isEmpty_nil, List.isEmpty_cons, Int.cast_ofNat_Int, Int.toNat_zero]
  | false =>
  have hl19 : l.length ≤ 19 := by simp at g1; omega
  cases z3 with
  | false => simp (config := { contextual := true, maxSteps := 10000000 }) only [c5, φtrue, ee, a1, a2, a3, a4, eR, eA, eM, mkV, mkS, p1, p2, p3, g1, go_sem, List.map_cons, List.map_nil, List.append_assoc, List.cons_append, List.nil_append, List.append_nil, List.length_append, List.length_cons, List.length_nil, List.take_zero, List.take_succ_cons, List.take_nil, List.drop_zero, List.drop_succ_cons, List.drop_nil, Nat.zero_add, Nat.add_zero, Nat.reduceAdd, Nat.reduceSub, Nat.reduceMul, Nat.reduceEqDiff, Nat.reduceLeDiff, Nat.reduceLT, Int.reduceToNat, Int.reduceLE, Int.reduceLT, Int.reduceEq, Int.reduceNe, Int.reduceBEq, Int.reduceBNe, Nat.reduceBEq, Nat.reduceBNe, ↓reduceIte, reduceCtorEq, ↓reduceDIte, Option.map_some, Option.map_none, true_and, and_true, false_and, and_false, and_self, W_draw, condK_b, WIk_bt, WIk_bf, Bool.true_eq_false, Bool.false_eq_true, Bool.not_true, Bool.not_false, Bool.not_eq_true', Bool.not_eq_false', Bool.true_and, Bool.and_true, Bool.false_and, Bool.and_false, Bool.true_or, Bool.or_true, Bool.false_or, Bool.or_false, Bool.bne_true, Bool.bne_false, Bool.true_bne, Bool.false_bne, Bool.true_beq, Bool.false_beq, Bool.not_not, decide_true, decide_false, false_implies, true_implies, implies_true, forall_const, List.all_cons, List.all_nil, beq_self_eq_true, bne_self_eq_false, Nat.zero_le, Nat.le_refl, List.getElem?_cons_zero, List.getElem?_cons_succ, List.isEmpty_nil, List.isEmpty_cons, Int.cast_ofNat_Int, Int.toNat_zero]
  | true =>
  cases z4 with
  | false => simp (config := { contextual := true, maxSteps := 10000000 }) only [c5, φtrue, ee, a1, a2, a3, a4, eR, eA, eM, mkV, mkS, p1, p2, p3, p4, g1, go_sem, List.map_cons, List.map_nil, List.append_assoc, List.cons_append, List.nil_append, List.append_nil, List.length_append, List.length_cons, List.length_nil, List.take_zero, List.take_succ_cons, List.take_nil, List.drop_zero, List.drop_succ_cons, List.drop_nil, Nat.zero_add, Nat.add_zero, Nat.reduceAdd, Nat.reduceSub, Nat.reduceMul, Nat.reduceEqDiff, Nat.reduceLeDiff, Nat.reduceLT, Int.reduceToNat, Int.reduceLE, Int.reduceLT, Int.reduceEq, Int.reduceNe, Int.reduceBEq, Int.reduceBNe, Nat.reduceBEq, Nat.reduceBNe, ↓reduceIte, reduceCtorEq, ↓reduceDIte, Option.map_some, Option.map_none, true_and, and_true, false_and, and_false, and_self, W_draw, condK_b, WIk_bt, WIk_bf, Bool.true_eq_false, Bool.false_eq_true, Bool.not_true, Bool.not_false, Bool.not_eq_true', Bool.not_eq_false', Bool.true_and, Bool.and_true, Bool.false_and, Bool.and_false, Bool.true_or, Bool.or_true, Bool.false_or, Bool.or_false, Bool.bne_true, Bool.bne_false, Bool.true_bne, Bool.false_bne, Bool.true_beq, Bool.false_beq, Bool.not_not, decide_true, decide_false, false_implies, true_implies, implies_true, forall_const, List.all_cons, List.all_nil, beq_self_eq_true, bne_self_eq_false, Nat.zero_le, Nat.le_refl, List.getElem?_cons_zero, List.getElem?_cons_succ, List.isEmpty_nil, List.isEmpty_cons, Int.cast_ofNat_Int, Int.toNat_zero]
  | true =>
  cases g2 : (k == 0) with
  | true => simp (config := { contextual := true, maxSteps := 10000000 }) only [c5, φtrue, ee, a1, a2, a3, a4, eR, eA, eM, mkV, mkS, p1, p2, p3, p4, g1, g2, go_sem, List.map_cons, List.map_nil, List.append_assoc, List.cons_append, List.nil_append, List.append_nil, List.length_append, List.length_cons, List.length_nil, List.take_zero, List.take_succ_cons, List.take_nil, List.drop_zero, List.drop_succ_cons, List.drop_nil, Nat.zero_add, Nat.add_zero, Nat.reduceAdd, Nat.reduceSub, Nat.reduceMul, Nat.reduceEqDiff, Nat.reduceLeDiff, Nat.reduceLT, Int.reduceToNat, Int.reduceLE, Int.reduceLT, Int.reduceEq, Int.reduceNe, Int.reduceBEq, Int.reduceBNe, Nat.reduceBEq, Nat.reduceBNe, ↓reduceIte, reduceCtorEq, ↓reduceDIte, Option.map_some, Option.map_none, true_and, and_true, false_and, and_false, and_self, W_draw, condK_b, WIk_bt, WIk_bf, Bool.true_eq_false, Bool.false_eq_true, Bool.not_true, Bool.not_false, Bool.not_eq_true', Bool.not_eq_false', Bool.true_and, Bool.and_true, Bool.false_and, Bool.and_false, Bool.true_or, Bool.or_true, Bool.false_or, Bool.or_false, Bool.bne_true, Bool.bne_false, Bool.true_bne, Bool.false_bne, Bool.true_beq, Bool.false_beq, Bool.not_not, decide_true, decide_false, false_implies, true_implies, implies_true, forall_const, List.all_cons, List.all_nil, beq_self_eq_true, bne_self_eq_false, Nat.zero_le, Nat.le_refl, List.getElem?_cons_zero, List.getElem?_cons_succ, List.isEmpty_nil, List.isEmpty_cons, Int.cast_ofNat_Int, Int.toNat_zero]
  | false =>
  have hfit : l.all (fit 6) = true := List.all_eq_true.2 fun x hx => by
    obtain ⟨who, name, k, i, s, nl, l', rfl, _⟩ := hH x hx; rfl
  have f1 : (l.length * 88 ≤ 2 ^ 47) = True := eq_true (by omega)
  have f2 : (l.length < 2 ^ 62) = True := eq_true (by omega)
  have f3 : ((l.length + 1) * 88 ≤ 2 ^ 47) = True := eq_true (by omega)
  have f4 : (l.length + 1 < 2 ^ 62) = True := eq_true (by omega)
  have m1 : ((88 : Nat) ≤ 2 ^ 47) = True := by decide
  have m2 : ((1 : Nat) < 2 ^ 62) = True := by decide
  by_cases hne : l = []
  · subst hne
    cases z6 with
    | true => simp (config := { contextual := true, maxSteps := 10000000 }) only [c5, φtrue, ee, a1, a2, a3, a4, eR, eA, eL, eM, mkV, mkS, p1, p2, p3, p4, p5, p6, g1, g2, w1, w2, w3, w4, w5, appK_e0, m1, m2, go_sem, List.map_cons, List.map_nil, List.append_assoc, List.cons_append, List.nil_append, List.append_nil, List.length_append, List.length_cons, List.length_nil, List.take_zero, List.take_succ_cons, List.take_nil, List.drop_zero, List.drop_succ_cons, List.drop_nil, Nat.zero_add, Nat.add_zero, Nat.reduceAdd, Nat.reduceSub, Nat.reduceMul, Nat.reduceEqDiff, Nat.reduceLeDiff, Nat.reduceLT, Int.reduceToNat, Int.reduceLE, Int.reduceLT, Int.reduceEq, Int.reduceNe, Int.reduceBEq, Int.reduceBNe, Nat.reduceBEq, Nat.reduceBNe, ↓reduceIte, reduceCtorEq, ↓reduceDIte, Option.map_some, Option.map_none, true_and, and_true, false_and, and_false, and_self, W_draw, condK_b, WIk_bt, WIk_bf, Bool.true_eq_false, Bool.false_eq_true, Bool.not_true, Bool.not_false, Bool.not_eq_true', Bool.not_eq_false', Bool.true_and, Bool.and_true, Bool.false_and, Bool.and_false, Bool.true_or, Bool.or_true, Bool.false_or, Bool.or_false, Bool.bne_true, Bool.bne_false, Bool.true_bne, Bool.false_bne, Bool.true_beq, Bool.false_beq, Bool.not_not, decide_true, decide_false, false_implies, true_implies, implies_true, forall_const, List.all_cons, List.all_nil, beq_self_eq_true, bne_self_eq_false, Nat.zero_le, Nat.le_refl, List.getElem?_cons_zero, List.getElem?_cons_succ, List.isEmpty_nil, List.isEmpty_cons, Int.cast_ofNat_Int, Int.toNat_zero]
    | false =>
      have p7 := p7 hl19 rfl rfl g2
      simp only [List.nil_append] at p7
      simp (config := { contextual := true, maxSteps := 10000000 }) only [c5, φtrue, ee, a1, a2, a3, a4, eR, eA, eL, eM, mkV, mkS, p1, p2, p3, p4, p5, p6, p7, p8, g1, g2, w1, w2, w3, w4, w5, appK_e0, m1, m2, go_sem, List.map_cons, List.map_nil, List.append_assoc, List.cons_append, List.nil_append, List.append_nil, List.length_append, List.length_cons, List.length_nil, List.take_zero, List.take_succ_cons, List.take_nil, List.drop_zero, List.drop_succ_cons, List.drop_nil, Nat.zero_add, Nat.add_zero, Nat.reduceAdd, Nat.reduceSub, Nat.reduceMul, Nat.reduceEqDiff, Nat.reduceLeDiff, Nat.reduceLT, Int.reduceToNat, Int.reduceLE, Int.reduceLT, Int.reduceEq, Int.reduceNe, Int.reduceBEq, Int.reduceBNe, Nat.reduceBEq, Nat.reduceBNe, ↓reduceIte, reduceCtorEq, ↓reduceDIte, Option.map_some, Option.map_none, true_and, and_true, false_and, and_false, and_self, W_draw, condK_b, WIk_bt, WIk_bf, Bool.true_eq_false, Bool.false_eq_true, Bool.not_true, Bool.not_false, Bool.not_eq_true', Bool.not_eq_false', Bool.true_and, Bool.and_true, Bool.false_and, Bool.and_false, Bool.true_or, Bool.or_true, Bool.false_or, Bool.or_false, Bool.bne_true, Bool.bne_false, Bool.true_bne, Bool.false_bne, Bool.true_beq, Bool.false_beq, Bool.not_not, decide_true, decide_false, false_implies, true_implies, implies_true, forall_const, List.all_cons, List.all_nil, beq_self_eq_true, bne_self_eq_false, Nat.zero_le, Nat.le_refl, List.getElem?_cons_zero, List.getElem?_cons_succ, List.isEmpty_nil, List.isEmpty_cons, Int.cast_ofNat_Int, Int.toNat_zero]
  have hne : (l = []) = False := eq_false hne
  cases z6 with
  | true => simp (config := { contextual := true, maxSteps := 10000000 }) only [c5, φtrue, ee, a1, a2, a3, a4, eR, eA, eL, eM, mkV, mkS, p1, p2, p3, p4, p5, p6, g1, g2, w1, w2, w3, w4, w5, eraseL_app, appK_e0, hfit, f1, f2, f3, f4, hne, appK_tok, go_sem, List.map_cons, List.map_nil, List.append_assoc, List.cons_append, List.nil_append, List.append_nil, List.length_append, List.length_cons, List.length_nil, List.take_zero, List.take_succ_cons, List.take_nil, List.drop_zero, List.drop_succ_cons, List.drop_nil, Nat.zero_add, Nat.add_zero, Nat.reduceAdd, Nat.reduceSub, Nat.reduceMul, Nat.reduceEqDiff, Nat.reduceLeDiff, Nat.reduceLT, Int.reduceToNat, Int.reduceLE, Int.reduceLT, Int.reduceEq, Int.reduceNe, Int.reduceBEq, Int.reduceBNe, Nat.reduceBEq, Nat.reduceBNe, ↓reduceIte, reduceCtorEq, ↓reduceDIte, Option.map_some, Option.map_none, true_and, and_true, false_and, and_false, and_self, W_draw, condK_b, WIk_bt, WIk_bf, Bool.true_eq_false, Bool.false_eq_true, Bool.not_true, Bool.not_false, Bool.not_eq_true', Bool.not_eq_false', Bool.true_and, Bool.and_true, Bool.false_and, Bool.and_false, Bool.true_or, Bool.or_true, Bool.false_or, Bool.or_false, Bool.bne_true, Bool.bne_false, Bool.true_bne, Bool.false_bne, Bool.true_beq, Bool.false_beq, Bool.not_not, decide_true, decide_false, false_implies, true_implies, implies_true, forall_const, List.all_cons, List.all_nil, beq_self_eq_true, bne_self_eq_false, Nat.zero_le, Nat.le_refl, List.getElem?_cons_zero, List.getElem?_cons_succ, List.isEmpty_nil, List.isEmpty_cons, Int.cast_ofNat_Int, Int.toNat_zero]
  | false =>
    have p7 := p7 hl19 rfl rfl g2
    simp (config := { contextual := true, maxSteps := 10000000 }) only [c5, φtrue, ee, a1, a2, a3, a4, eR, eA, eL, eM, mkV, mkS, p1, p2, p3, p4, p5, p6, p7, p8, g1, g2, w1, w2, w3, w4, w5, eraseL_app, appK_e0, hfit, f1, f2, f3, f4, hne, appK_tok, go_sem, List.map_cons, List.map_nil, List.append_assoc, List.cons_append, List.nil_append, List.append_nil, List.length_append, List.length_cons, List.length_nil, List.take_zero, List.take_succ_cons, List.take_nil, List.drop_zero, List.drop_succ_cons, List.drop_nil, Nat.zero_add, Nat.add_zero, Nat.reduceAdd, Nat.reduceSub, Nat.reduceMul, Nat.reduceEqDiff, Nat.reduceLeDiff, Nat.reduceLT, Int.reduceToNat, Int.reduceLE, Int.reduceLT, Int.reduceEq, Int.reduceNe, Int.reduceBEq, Int.reduceBNe, Nat.reduceBEq, Nat.reduceBNe, ↓reduceIte, reduceCtorEq, ↓reduceDIte, Option.map_some, Option.map_none, true_and, and_true, false_and, and_false, and_self, W_draw, condK_b, WIk_bt, WIk_bf, Bool.true_eq_false, Bool.false_eq_true, Bool.not_true, Bool.not_false, Bool.not_eq_true', Bool.not_eq_false', Bool.true_and, Bool.and_true, Bool.false_and, Bool.and_false, Bool.true_or, Bool.or_true, Bool.false_or, Bool.or_false, Bool.bne_true, Bool.bne_false, Bool.true_bne, Bool.false_bne, Bool.true_beq, Bool.false_beq, Bool.not_not, decide_true, decide_false, false_implies, true_implies, implies_true, forall_const, List.all_cons, List.all_nil, beq_self_eq_true, bne_self_eq_false, Nat.zero_le, Nat.le_refl, List.getElem?_cons_zero, List.getElem?_cons_succ, List.isEmpty_nil, List.isEmpty_cons, Int.cast_ofNat_Int, Int.toNat_zero]
end GP
