import Derived.Test.YtnipbngimicldaaGpbT0
import Derived.Test.YtnipbngimicldaaGpbR
set_option linter.unusedSimpArgs false
/- EvalTells. -/
namespace GP
open Go Go.Proofs
set_option maxRecDepth 100000

set_option maxHeartbeats 16000000 in
theorem main6 (n : Nat) (e s : D) (he : isE n e) (hs : isS s) (H : Hp) (T : Tk) : W (Snd Try.prog) c6 (endQ [.inl 4] (fun r _ _ => r = .bool true)) ⟨argT [e, s], H, T⟩ := by
  refine W_mono (X := XL [(11, φtrue), (12, φfewE n), (13, φfewS), (17, φEval n), (22, φTest n), (23, φright), (24, φright), (25, φfm n), (26, φrev n), (21, φSame)])
    (Ok.X (.cons ok11 (.cons (ok12 n) (.cons ok13 (.cons (ok17 n) (.cons (ok22 n) (.cons ok23 (.cons ok24 (.cons (ok25 n) (.cons (ok26 n) (.cons ok21 .nil))))))))))) (fun _ _ h => h) ?_
  have p1 : φfewE n [e] = some (.bool (fewEx n e)) := by simp only [φfewE]; rw [if_pos he]
  have p2 : φfewS [s] = some (.bool (fewS s)) := by simp only [φfewS]; rw [if_pos hs]
  have p3 : φEval n [e, s] = some (tupV (evalI n e s)) := by simp only [φEval]; rw [if_pos ⟨hs, he⟩]
  have p4 : φTest n [e, s] = some (tupB (testI n e s)) := by simp only [φTest]; rw [if_pos ⟨hs, he⟩]
  have p5 : φright [s] = some (.bool (rightB s)) := by simp only [φright]; rw [if_pos hs]
  have p6 : φfm n [e] = some (.bool (fmD n e)) := by simp only [φfm]; rw [if_pos he]
  have p7 : fmD n e = true → rightB s = true → φrev n [e, s] = some (tupV (evI n s e)) := fun h1 h2 => by simp only [φrev]; rw [if_pos ⟨hs, he, h1, h2⟩]
  have s0 : φSame [zeroV, zeroV] = some (.bool true) := by simp only [φSame]; rw [if_pos ⟨isVr_zero.1, isVr_zero.1⟩, sameB_refl formed_zero]
  have es := isS_erase hs
  have ee := isE_erase he
  obtain ⟨c1, c2, c3, c4⟩ := isS_cells hs
  obtain ⟨d1, d2, d3, d4⟩ := isE_cells he
  obtain ⟨z1, h⟩ : ∃ z, fewEx n e = z := ⟨_, rfl⟩
  rw [h] at p1; clear h
  obtain ⟨z2, h⟩ : ∃ z, fewS s = z := ⟨_, rfl⟩
  rw [h] at p2; clear h
  simp only [zeroV] at s0
  cases z1 with
  | false => simp (config := { contextual := true, maxSteps := 10000000 }) only [c6, φtrue, ee, d1, d2, d3, d4, es, c1, c2, c3, c4, p1, go_sem, Nat.reduceAdd, Nat.reduceSub, Nat.reduceMul, Nat.reduceEqDiff, Nat.reduceLeDiff, Nat.reduceLT, Int.reduceToNat, Int.reduceLE, Int.reduceLT, Int.reduceEq, Int.reduceNe, Int.reduceBEq, Int.reduceBNe, Nat.reduceBEq, Nat.reduceBNe, ↓reduceIte, reduceCtorEq, ↓reduceDIte, W_draw]
  | true =>
  cases z2 with
  | false => simp (config := { contextual := true, maxSteps := 10000000 }) only [c6, φtrue, ee, d1, d2, d3, d4, es, c1, c2, c3, c4, p1, p2, go_sem, Nat.reduceAdd, Nat.reduceSub, Nat.reduceMul, Nat.reduceEqDiff, Nat.reduceLeDiff, Nat.reduceLT, Int.reduceToNat, Int.reduceLE, Int.reduceLT, Int.reduceEq, Int.reduceNe, Int.reduceBEq, Int.reduceBNe, Nat.reduceBEq, Nat.reduceBNe, ↓reduceIte, reduceCtorEq, ↓reduceDIte, W_draw]
  | true =>
  rcases tf (rightB s) with hr | hr
  · rcases tf (fmD n e) with hf | hf
    · have hw : wrongI n e s = 0 := by unfold wrongI; rw [hr, hf]; rfl
      have e1 : evalI n e s = evI n s e := by unfold evalI; rw [hw]; rfl
      have e2 : testI n e s = tstV (evI n s e) := by unfold testI; rw [hw]; rfl
      have p7 := p7 hf hr
      rw [e1] at p3; rw [e2] at p4
      rw [hr] at p5; rw [hf] at p6
      have hR := evI_res hs he (fmD_fmA hf)
      have hF := evI_F hr hf
      obtain ⟨⟨v, f⟩, hq⟩ : ∃ z, evI n s e = z := ⟨_, rfl⟩
      rw [hq] at p3 p4 p7 hR hF
      have s1 : φSame [v, v] = some (.bool true) := by simp only [φSame]; rw [if_pos ⟨hR.1, hR.1⟩, sameB_refl hF]
      obtain ⟨k, i, t, nl, l, rfl, _⟩ := isV_elim (show v.isV = true from hR.1)
      have eV := (mkV_erase hR.1).1
      simp only [tstV, tstE, vk_mk, vi_mk] at p4
      simp only [tupV, tupB, mkV] at p3 p4 p7 s1
      rcases tf (f == 0) with h1 | h1
      · rcases tf (k != 1) with h2 | h2
        · simp only [h1, h2, Bool.and_self, if_true] at p4
          have q6 : ((6 : Int) == 0) = false := by decide
          simp only [q6, Bool.false_and] at p4
          simp (config := { contextual := true, maxSteps := 10000000 }) only [c6, φtrue, ee, d1, d2, d3, d4, es, c1, c2, c3, c4, p1, p2, p3, p4, p5, p6, p7, s1, eV, h1, h2, go_sem, Nat.reduceAdd, Nat.reduceSub, Nat.reduceMul, Nat.reduceEqDiff, Nat.reduceLeDiff, Nat.reduceLT, Int.reduceToNat, Int.reduceLE, Int.reduceLT, Int.reduceEq, Int.reduceNe, Int.reduceBEq, Int.reduceBNe, Nat.reduceBEq, Nat.reduceBNe, ↓reduceIte, reduceCtorEq, ↓reduceDIte, W_draw]
        · simp only [h1, h2, Bool.and_false, Bool.false_eq_true, if_false, Bool.true_and] at p4
          simp (config := { contextual := true, maxSteps := 10000000 }) only [c6, φtrue, ee, d1, d2, d3, d4, es, c1, c2, c3, c4, p1, p2, p3, p4, p5, p6, p7, s1, eV, h1, h2, go_sem, Nat.reduceAdd, Nat.reduceSub, Nat.reduceMul, Nat.reduceEqDiff, Nat.reduceLeDiff, Nat.reduceLT, Int.reduceToNat, Int.reduceLE, Int.reduceLT, Int.reduceEq, Int.reduceNe, Int.reduceBEq, Int.reduceBNe, Nat.reduceBEq, Nat.reduceBNe, ↓reduceIte, reduceCtorEq, ↓reduceDIte, W_draw]
      · simp only [h1, Bool.false_and, Bool.false_eq_true, if_false] at p4
        simp (config := { contextual := true, maxSteps := 10000000 }) only [c6, φtrue, ee, d1, d2, d3, d4, es, c1, c2, c3, c4, p1, p2, p3, p4, p5, p6, p7, s1, eV, h1, go_sem, Nat.reduceAdd, Nat.reduceSub, Nat.reduceMul, Nat.reduceEqDiff, Nat.reduceLeDiff, Nat.reduceLT, Int.reduceToNat, Int.reduceLE, Int.reduceLT, Int.reduceEq, Int.reduceNe, Int.reduceBEq, Int.reduceBNe, Nat.reduceBEq, Nat.reduceBNe, ↓reduceIte, reduceCtorEq, ↓reduceDIte, W_draw]
    · have hw : wrongI n e s = 2 := by unfold wrongI; rw [hr, hf]; rfl
      have e1 : evalI n e s = (zeroV, 2) := by unfold evalI; rw [hw]; rfl
      have e2 : testI n e s = (false, 2) := by unfold testI; rw [hw]; rfl
      rw [e1] at p3; rw [e2] at p4
      rw [hr] at p5; rw [hf] at p6
      simp only [tupV, tupB, zeroV] at p3 p4
      simp (config := { contextual := true, maxSteps := 10000000 }) only [c6, φtrue, ee, d1, d2, d3, d4, es, c1, c2, c3, c4, p1, p2, p3, p4, p5, p6, s0, go_sem, Nat.reduceAdd, Nat.reduceSub, Nat.reduceMul, Nat.reduceEqDiff, Nat.reduceLeDiff, Nat.reduceLT, Int.reduceToNat, Int.reduceLE, Int.reduceLT, Int.reduceEq, Int.reduceNe, Int.reduceBEq, Int.reduceBNe, Nat.reduceBEq, Nat.reduceBNe, ↓reduceIte, reduceCtorEq, ↓reduceDIte, W_draw]
  · have hw : wrongI n e s = 1 := by unfold wrongI; rw [hr]; rfl
    have e1 : evalI n e s = (zeroV, 1) := by unfold evalI; rw [hw]; rfl
    have e2 : testI n e s = (false, 1) := by unfold testI; rw [hw]; rfl
    rw [e1] at p3; rw [e2] at p4
    rw [hr] at p5
    simp only [tupV, tupB, zeroV] at p3 p4
    simp (config := { contextual := true, maxSteps := 10000000 }) only [c6, φtrue, ee, d1, d2, d3, d4, es, c1, c2, c3, c4, p1, p2, p3, p4, p5, p6, s0, go_sem, Nat.reduceAdd, Nat.reduceSub, Nat.reduceMul, Nat.reduceEqDiff, Nat.reduceLeDiff, Nat.reduceLT, Int.reduceToNat, Int.reduceLE, Int.reduceLT, Int.reduceEq, Int.reduceNe, Int.reduceBEq, Int.reduceBNe, Nat.reduceBEq, Nat.reduceBNe, ↓reduceIte, reduceCtorEq, ↓reduceDIte, W_draw]
end GP
