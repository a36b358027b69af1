import Derived.Test.YtnipbngimicldaaGpY0
import Derived.Test.YtnipbngimicldaaGpY1
import Derived.Test.YtnipbngimicldaaGpbR
set_option linter.unusedSimpArgs false
/- EvalTyped. -/
namespace GP
open Go Go.Proofs
set_option maxRecDepth 100000

theorem kinds_ok (xs : List D) : factsOk (xs.map kindF) := by
  intro f hf
  obtain ⟨y, _, rfl⟩ := List.mem_map.1 hf
  exact kindN_rg (fkind y)
/-- The statement's last line. -/
def lastB (v : D) (t : Int) : Bool := formedB v && ((kv v == t) || ((kv v == 5) && decide (10 < t)))
theorem last_typed {n : Nat} {fs : List D} {s e : D} {t : Int} (hk : factsOk fs) (hs : fitsB fs s = true) (h : typR n fs e = (t, 0)) :
    evalI n e s = evI n s e ∧ ((evI n s e).2 ≠ 0 → (evI n s e).2 = 8 ∨ (evI n s e).2 = 7) ∧ ((evI n s e).2 = 0 → lastB (evI n s e).1 t = true) := by
  have hr : rightB s = true := by
    unfold fitsB at hs; simp only [Bool.and_eq_true] at hs; exact hs.1
  have hf := typ_fm h
  have hw : wrongI n e s = 0 := by unfold wrongI; rw [hr, hf]; rfl
  have e1 : evalI n e s = evI n s e := by unfold evalI; rw [hw]; rfl
  obtain ⟨r, _⟩ := ev_typed hk hs h
  refine ⟨e1, fun h0 => ?_, fun h0 => ?_⟩
  · rcases r with r | r | r
    · exact .inl r
    · exact .inr r
    · exact (h0 r.1).elim
  · rcases r with r | r | r
    · omega
    · omega
    · obtain ⟨_, g1, g2⟩ := r
      unfold lastB; rw [g1]; exact g2
set_option maxHeartbeats 16000000 in
theorem main4 (n : Nat) (fs e s : D) (hf : isLs isF fs) (he : isE n e) (hs : isS s) (H : Hp) (T : Tk) : W (Snd Try.prog) c4 (endQ [.inl 6] (fun r _ _ => r = .bool true)) ⟨argT [fs, e, s], H, T⟩ := by
  refine W_mono (X := XL [(11, φtrue), (12, φfewE n), (13, φfewS), (14, φkinds9), (15, φtypR n), (16, φfits), (17, φEval n), (18, φformed)])
    (Ok.X (.cons ok11 (.cons (ok12 n) (.cons ok13 (.cons ok14 (.cons (ok15 n) (.cons ok16 (.cons (ok17 n) (.cons ok18 .nil))))))))) (fun _ _ h => h) ?_
  have p1 : φfewE n [e] = some (.bool (fewEx n e)) := by simp only [φfewE]; rw [if_pos he]
  have p2 : φfewS [s] = some (.bool (fewS s)) := by simp only [φfewS]; rw [if_pos hs]
  have es := isS_erase hs
  have ee := isE_erase he
  obtain ⟨q1, q2, q3, q4⟩ := isS_cells hs
  obtain ⟨d1, d2, d3, d4⟩ := isE_cells he
  obtain ⟨z1, h⟩ : ∃ z, fewEx n e = z := ⟨_, rfl⟩
  rw [h] at p1; clear h
  obtain ⟨z2, h⟩ : ∃ z, fewS s = z := ⟨_, rfl⟩
  rw [h] at p2; clear h
  obtain ⟨b, xs, rfl, hl, hx⟩ := hf
  have ef : D.eraseL xs = xs := eraseL_id fun x h => isF_erase (hx x h)
  by_cases h12 : (12 : Int) < xs.length
  · have g : decide ((12 : Int) < xs.length) = true := by simpa using h12
    simp (config := { contextual := true, maxSteps := 10000000 }) only [c4, φtrue, ee, d1, d2, d3, d4, es, q1, q2, q3, q4, ef, p1, p2, g, go_sem, Nat.reduceAdd, Nat.reduceSub, Nat.reduceMul, Nat.reduceEqDiff, Nat.reduceLeDiff, Nat.reduceLT, Int.reduceToNat, Int.reduceLE, Int.reduceLT, Int.reduceEq, Int.reduceNe, Int.reduceBEq, Int.reduceBNe, Nat.reduceBEq, Nat.reduceBNe, ↓reduceIte, reduceCtorEq, ↓reduceDIte, W_draw]
  have g : decide ((12 : Int) < xs.length) = false := by simpa using h12
  cases z1 with
  | false => simp (config := { contextual := true, maxSteps := 10000000 }) only [c4, φtrue, ee, d1, d2, d3, d4, es, q1, q2, q3, q4, ef, p1, p2, g, go_sem, Nat.reduceAdd, Nat.reduceSub, Nat.reduceMul, Nat.reduceEqDiff, Nat.reduceLeDiff, Nat.reduceLT, Int.reduceToNat, Int.reduceLE, Int.reduceLT, Int.reduceEq, Int.reduceNe, Int.reduceBEq, Int.reduceBNe, Nat.reduceBEq, Nat.reduceBNe, ↓reduceIte, reduceCtorEq, ↓reduceDIte, W_draw]
  | true =>
  cases z2 with
  | false => simp (config := { contextual := true, maxSteps := 10000000 }) only [c4, φtrue, ee, d1, d2, d3, d4, es, q1, q2, q3, q4, ef, p1, p2, g, go_sem, Nat.reduceAdd, Nat.reduceSub, Nat.reduceMul, Nat.reduceEqDiff, Nat.reduceLeDiff, Nat.reduceLT, Int.reduceToNat, Int.reduceLE, Int.reduceLT, Int.reduceEq, Int.reduceNe, Int.reduceBEq, Int.reduceBNe, Nat.reduceBEq, Nat.reduceBNe, ↓reduceIte, reduceCtorEq, ↓reduceDIte, W_draw]
  | true =>
  have hk0 : isLs isF (sliceD b xs) := ⟨b, xs, rfl, hl, hx⟩
  have p3 : φkinds9 [sliceD b xs] = some (sliceD true (xs.map kindF)) := by
    simp only [φkinds9]; rw [elems_sliceD, if_pos ⟨hk0, by omega⟩]
  have hK := kinds_isF hk0
  rw [elems_sliceD] at hK
  have eK : D.eraseL (xs.map kindF) = xs.map kindF := eraseL_id fun x h => by
    obtain ⟨y, hy, rfl⟩ := List.mem_map.1 h
    exact isF_erase (kind_isF (hx y hy))
  have p4 : φtypR n [sliceD true (xs.map kindF), e] = some (tupI (typR n (xs.map kindF) e)) := by
    simp only [φtypR]; rw [if_pos ⟨hK, he⟩, elems_sliceD]
  have p5 : φfits [sliceD true (xs.map kindF), s] = some (.bool (fitsB (xs.map kindF) s)) := by
    simp only [φfits]; rw [if_pos ⟨hK, hs⟩, elems_sliceD]
  have p6 : φEval n [e, s] = some (tupV (evalI n e s)) := by simp only [φEval]; rw [if_pos ⟨hs, he⟩]
  have hR := evalI_res (n := n) hs he
  have hL := fun t => last_typed (n := n) (fs := xs.map kindF) (s := s) (e := e) (t := t) (kinds_ok xs)
  obtain ⟨fk, hq⟩ : ∃ z, xs.map kindF = z := ⟨_, rfl⟩
  simp only [hq] at p3 p4 p5 hL eK
  clear hq
  obtain ⟨⟨t, f⟩, hq⟩ : ∃ z, typR n fk e = z := ⟨_, rfl⟩
  simp only [hq] at p4 hL
  clear hq
  have hL := hL t
  obtain ⟨fb, hq⟩ : ∃ z, fitsB fk s = z := ⟨_, rfl⟩
  simp only [hq] at p5 hL
  clear hq
  simp only [tupI] at p4
  rcases tf (f != 0) with f0 | f0
  · simp (config := { contextual := true, maxSteps := 10000000 }) only [c4, φtrue, ee, d1, d2, d3, d4, es, q1, q2, q3, q4, ef, eK, p1, p2, p3, p4, p5, g, f0, go_sem, Nat.reduceAdd, Nat.reduceSub, Nat.reduceMul, Nat.reduceEqDiff, Nat.reduceLeDiff, Nat.reduceLT, Int.reduceToNat, Int.reduceLE, Int.reduceLT, Int.reduceEq, Int.reduceNe, Int.reduceBEq, Int.reduceBNe, Nat.reduceBEq, Nat.reduceBNe, ↓reduceIte, reduceCtorEq, ↓reduceDIte, W_draw]
  have f00 : f = 0 := by simpa using f0
  subst f00
  cases fb with
  | false => simp (config := { contextual := true, maxSteps := 10000000 }) only [c4, φtrue, ee, d1, d2, d3, d4, es, q1, q2, q3, q4, ef, eK, p1, p2, p3, p4, p5, g, f0, go_sem, Nat.reduceAdd, Nat.reduceSub, Nat.reduceMul, Nat.reduceEqDiff, Nat.reduceLeDiff, Nat.reduceLT, Int.reduceToNat, Int.reduceLE, Int.reduceLT, Int.reduceEq, Int.reduceNe, Int.reduceBEq, Int.reduceBNe, Nat.reduceBEq, Nat.reduceBNe, ↓reduceIte, reduceCtorEq, ↓reduceDIte, W_draw]
  | true =>
  obtain ⟨L1, L2, L3⟩ := hL rfl rfl
  rw [L1] at p6 hR
  obtain ⟨⟨v, r⟩, hq⟩ : ∃ z, evI n s e = z := ⟨_, rfl⟩
  simp only [hq] at p6 hR L2 L3
  clear hq L1
  have p7 : φformed [v] = some (.bool (formedB v)) := by simp only [φformed]; rw [if_pos hR.1]
  have hV : isVr v := hR
  obtain ⟨k, i, tx, nl, l, rfl, _⟩ := isV_elim hV.1
  have eV := (mkV_erase hV.1).1
  simp only [lastB, kv, vk_mk, vl_mk] at L3
  obtain ⟨fo, hq⟩ : ∃ z, formedB (mkV k i tx nl l) = z := ⟨_, rfl⟩
  simp only [hq] at p7 L3
  clear hq
  simp only [tupV, mkV] at p6 p7
  rcases tf (r != 0) with r0 | r0
  · have L2 := L2 (by simpa using r0)
    rcases L2 with rfl | rfl
    · simp (config := { contextual := true, maxSteps := 10000000 }) only [c4, φtrue, ee, d1, d2, d3, d4, es, q1, q2, q3, q4, ef, eK, eV, p1, p2, p3, p4, p5, p6, g, f0, r0, go_sem, Nat.reduceAdd, Nat.reduceSub, Nat.reduceMul, Nat.reduceEqDiff, Nat.reduceLeDiff, Nat.reduceLT, Int.reduceToNat, Int.reduceLE, Int.reduceLT, Int.reduceEq, Int.reduceNe, Int.reduceBEq, Int.reduceBNe, Nat.reduceBEq, Nat.reduceBNe, ↓reduceIte, reduceCtorEq, ↓reduceDIte, W_draw]
    · simp (config := { contextual := true, maxSteps := 10000000 }) only [c4, φtrue, ee, d1, d2, d3, d4, es, q1, q2, q3, q4, ef, eK, eV, p1, p2, p3, p4, p5, p6, g, f0, r0, go_sem, Nat.reduceAdd, Nat.reduceSub, Nat.reduceMul, Nat.reduceEqDiff, Nat.reduceLeDiff, Nat.reduceLT, Int.reduceToNat, Int.reduceLE, Int.reduceLT, Int.reduceEq, Int.reduceNe, Int.reduceBEq, Int.reduceBNe, Nat.reduceBEq, Nat.reduceBNe, ↓reduceIte, reduceCtorEq, ↓reduceDIte, W_draw]
  have r00 : r = 0 := by simpa using r0
  subst r00
  have M := L3 rfl
  clear L3
  rcases tf (k == 5) with g1 | g1
  · by_cases hz : 0 < l.length
    · have dl : decide ((0 : Int) < l.length) = true := by simpa using hz
      obtain ⟨k0', i0, s0, n0, l0, e0, _⟩ := get_isV (mkV_erase hV.1).2.2.2 hz
      have fkk := vk0_get e0
      simp only [mkV] at e0
      rw [fkk] at M
      simp only [g1, dl, Bool.and_self, if_true, Bool.and_eq_true, Bool.or_eq_true] at M
      obtain ⟨kk, hq⟩ : ∃ z, IntKind.i64.wrap (10 + k0') = z := ⟨_, rfl⟩
      simp only [hq] at M
      obtain ⟨rfl, M'⟩ := M
      rcases tf (kk == t) with g2 | g2
      · simp (config := { contextual := true, maxSteps := 10000000 }) only [c4, φtrue, ee, d1, d2, d3, d4, es, q1, q2, q3, q4, ef, eK, eV, p1, p2, p3, p4, p5, p6, p7, g, f0, r0, g1, dl, e0, hq, g2, go_sem, Nat.reduceAdd, Nat.reduceSub, Nat.reduceMul, Nat.reduceEqDiff, Nat.reduceLeDiff, Nat.reduceLT, Int.reduceToNat, Int.reduceLE, Int.reduceLT, Int.reduceEq, Int.reduceNe, Int.reduceBEq, Int.reduceBNe, Nat.reduceBEq, Nat.reduceBNe, ↓reduceIte, reduceCtorEq, ↓reduceDIte, W_draw]
      · rw [g2] at M'
        obtain ⟨g3, g4⟩ := M'.resolve_left (by simp)
        simp (config := { contextual := true, maxSteps := 10000000 }) only [c4, φtrue, ee, d1, d2, d3, d4, es, q1, q2, q3, q4, ef, eK, eV, p1, p2, p3, p4, p5, p6, p7, g, f0, r0, g1, dl, e0, hq, g2, g3, g4, go_sem, Nat.reduceAdd, Nat.reduceSub, Nat.reduceMul, Nat.reduceEqDiff, Nat.reduceLeDiff, Nat.reduceLT, Int.reduceToNat, Int.reduceLE, Int.reduceLT, Int.reduceEq, Int.reduceNe, Int.reduceBEq, Int.reduceBNe, Nat.reduceBEq, Nat.reduceBNe, ↓reduceIte, reduceCtorEq, ↓reduceDIte, W_draw]
    · have dl : decide ((0 : Int) < l.length) = false := by simp only [decide_eq_false_iff_not]; omega
      simp only [g1, dl, Bool.and_false, Bool.false_eq_true, if_false, Bool.and_eq_true, Bool.or_eq_true, true_and] at M
      obtain ⟨rfl, M'⟩ := M
      rcases tf (k == t) with g2 | g2
      · simp (config := { contextual := true, maxSteps := 10000000 }) only [c4, φtrue, ee, d1, d2, d3, d4, es, q1, q2, q3, q4, ef, eK, eV, p1, p2, p3, p4, p5, p6, p7, g, f0, r0, g1, dl, g2, go_sem, Nat.reduceAdd, Nat.reduceSub, Nat.reduceMul, Nat.reduceEqDiff, Nat.reduceLeDiff, Nat.reduceLT, Int.reduceToNat, Int.reduceLE, Int.reduceLT, Int.reduceEq, Int.reduceNe, Int.reduceBEq, Int.reduceBNe, Nat.reduceBEq, Nat.reduceBNe, ↓reduceIte, reduceCtorEq, ↓reduceDIte, W_draw]
      · rw [g2] at M'
        have g4 := M'.resolve_left (by simp)
        simp (config := { contextual := true, maxSteps := 10000000 }) only [c4, φtrue, ee, d1, d2, d3, d4, es, q1, q2, q3, q4, ef, eK, eV, p1, p2, p3, p4, p5, p6, p7, g, f0, r0, g1, dl, g2, g4, go_sem, Nat.reduceAdd, Nat.reduceSub, Nat.reduceMul, Nat.reduceEqDiff, Nat.reduceLeDiff, Nat.reduceLT, Int.reduceToNat, Int.reduceLE, Int.reduceLT, Int.reduceEq, Int.reduceNe, Int.reduceBEq, Int.reduceBNe, Nat.reduceBEq, Nat.reduceBNe, ↓reduceIte, reduceCtorEq, ↓reduceDIte, W_draw]
  · simp only [g1, Bool.false_and, Bool.false_eq_true, if_false, Bool.and_eq_true, Bool.or_false, false_and, or_false] at M
    obtain ⟨rfl, g2⟩ := M
    simp (config := { contextual := true, maxSteps := 10000000 }) only [c4, φtrue, ee, d1, d2, d3, d4, es, q1, q2, q3, q4, ef, eK, eV, p1, p2, p3, p4, p5, p6, p7, g, f0, r0, g1, g2, go_sem, Nat.reduceAdd, Nat.reduceSub, Nat.reduceMul, Nat.reduceEqDiff, Nat.reduceLeDiff, Nat.reduceLT, Int.reduceToNat, Int.reduceLE, Int.reduceLT, Int.reduceEq, Int.reduceNe, Int.reduceBEq, Int.reduceBNe, Nat.reduceBEq, Nat.reduceBNe, ↓reduceIte, reduceCtorEq, ↓reduceDIte, W_draw]
end GP
