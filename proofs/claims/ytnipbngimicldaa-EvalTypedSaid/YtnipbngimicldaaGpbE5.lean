import Derived.Test.YtnipbngimicldaaGpbE4
set_option linter.unusedSimpArgs false
namespace GP
open Go Go.Proofs
set_option maxRecDepth 100000

theorem tru_mk (b : Bool) : φTruth [.bool b] = some (truV b) := rfl
theorem truT_tup (b : Bool) (e : Int) : truT (.tup [.bool b, .int .i64 e]) = if e != 0 then (zeroV, e) else (truV b, 0) := rfl
def φtruth2 : List D → Option D
  | [.bool b, .int .i64 e] => some (tupV (truT (.tup [.bool b, .int .i64 e])))
  | _ => none
theorem ok79 : OkAt Try.prog 79 φtruth2 := by
  refine ok_of (l := [(72, φTruth)]) (.cons ok72 .nil) fn79 fun args r h => ?_
  unfold φtruth2 at h
  split at h
  · rename_i b e
    injection h with h; subst h
    refine ⟨by simp, res_cl (truT_res _), fun H T => ?_⟩
    rw [truT_tup]
    simp (config := { contextual := true, maxSteps := 10000000 }) only [c79, φTruth, tupV, truV, zeroV, go_sem, Nat.reduceAdd, Nat.reduceSub, Nat.reduceMul, Nat.reduceEqDiff, Nat.reduceLeDiff, Nat.reduceLT, Int.reduceToNat, Int.reduceLE, Int.reduceLT, Int.reduceEq, Int.reduceNe, Int.reduceBEq, Int.reduceBNe, Nat.reduceBEq, Nat.reduceBNe, ↓reduceIte, reduceCtorEq, ↓reduceDIte, W_draw]
    (all_goals ((repeat' (first | apply And.intro | intro _)) <;> (first | rfl | omega | (simp_all; done) | grind)))
  · cases h

open Classical in
noncomputable def φleaf : List D → Option D
  | [s, e] => if isS s ∧ (∃ n, isE n e) then some (tupV (leafI s e)) else none
  | _ => none
set_option maxHeartbeats 2000000 in
theorem ok52 : OkAt Try.prog 52 φleaf := by
  refine ok_of (l := [(73, φcontS), (72, φTruth), (74, φhad)]) (.cons ok73s (.cons ok72 (.cons ok74 .nil))) fn52 fun args r h => ?_
  unfold φleaf at h
  split at h
  · rename_i s e
    split at h
    · rename_i hv
      obtain ⟨hs, n, he⟩ := hv
      injection h with h; subst h
      refine ⟨by simp, res_cl (leafI_res hs he), fun H T => ?_⟩
      have es := isS_erase hs
      obtain ⟨op, k, i, t, nl, l, who, name, m, ps, rfl, h1, h2, h3, h4, h5, h6, eL, eP⟩ := isE_elim he
      have ph : φhad [s, .str who, .str name] = some (hadD (hadV (sA s) who name)) := by simp only [φhad]; rw [if_pos hs]
      have hvr : ∀ v, hadV (sA s) who name = some v → isVr v := fun v hv => by
        obtain ⟨now, R, A, rfl, n1, n2, hR, nb, l, rfl, hl, hH⟩ := hs
        simp only [hadV, sA_mk, elems_sliceD] at hv
        cases h : l.find? (hadP who name) with
        | none => rw [h] at hv; cases hv
        | some x => rw [h] at hv; injection hv with hv; subst hv; exact isH_V (hH x (List.mem_of_find?_eq_some h))
      simp only [leafI, eop_mk, eV_mk, ewho_mk, ename_mk, sVal, sNow, sRole, sHas]
      obtain ⟨hd, hhd⟩ : ∃ z, hadV (sA s) who name = z := ⟨_, rfl⟩
      simp only [hhd] at ph hvr ⊢
      obtain ⟨now, R, A, rfl, n1, n2, hR, hA⟩ := hs
      simp only [sNw_mk, sR_mk]
      have pc : φcontS [R, .str name] = some (.bool ((elems R).any fun x => name == strOf x)) := by simp only [φcontS]; rw [if_pos hR]
      have eR := isLs_erase (fun _ => isTx_erase) hR
      have eA := isLs_erase (fun _ => isH_erase) hA
      simp only [mkS] at ph
      cases hd with
      | none =>
        simp only [hadD] at ph
        simp (config := { contextual := true, maxSteps := 10000000 }) only [c52, mkE, mkS, eL, eP, eR, eA, pc, ph, tupV, φTruth, truV, zeroV, valV, mkV, Option.isSome, go_sem, Nat.reduceAdd, Nat.reduceSub, Nat.reduceMul, Nat.reduceEqDiff, Nat.reduceLeDiff, Nat.reduceLT, Int.reduceToNat, Int.reduceLE, Int.reduceLT, Int.reduceEq, Int.reduceNe, Int.reduceBEq, Int.reduceBNe, Nat.reduceBEq, Nat.reduceBNe, ↓reduceIte, reduceCtorEq, ↓reduceDIte, W_draw]
        (all_goals ((repeat' (first | apply And.intro | intro _)) <;> (first | rfl | omega | (simp_all; done) | grind)))
      | some v =>
        have hv := hvr v rfl
        have ev := (vOp hv).2.2.2.2.1
        obtain ⟨k', i', s', n', l', rfl, _, _, _⟩ := isV_elim hv.1
        have eL' := (mkV_erase hv.1).1
        simp only [hadD, mkV] at ph
        simp (config := { contextual := true, maxSteps := 10000000 }) only [c52, mkE, mkS, eL, eP, eR, eA, pc, ph, eL', tupV, φTruth, truV, zeroV, valV, mkV, Option.isSome, go_sem, Nat.reduceAdd, Nat.reduceSub, Nat.reduceMul, Nat.reduceEqDiff, Nat.reduceLeDiff, Nat.reduceLT, Int.reduceToNat, Int.reduceLE, Int.reduceLT, Int.reduceEq, Int.reduceNe, Int.reduceBEq, Int.reduceBNe, Nat.reduceBEq, Nat.reduceBNe, ↓reduceIte, reduceCtorEq, ↓reduceDIte, W_draw]
        (all_goals ((repeat' (first | apply And.intro | intro _)) <;> (first | rfl | omega | (simp_all; done) | grind)))
    · cases h
  · cases h

open Classical in
noncomputable def φone2 : List D → Option D
  | [.str op, v] => if isVr v then some (tupV (oneV op v)) else none
  | _ => none
set_option maxHeartbeats 2000000 in
theorem ok54 : OkAt Try.prog 54 φone2 := by
  refine ok_of (l := [(72, φTruth), (76, φNumber), (75, φSub)]) (.cons ok72 (.cons ok76 (.cons ok75 .nil))) fn54 fun args r h => ?_
  unfold φone2 at h
  split at h
  · rename_i op v
    split at h
    · rename_i hv
      injection h with h; subst h
      refine ⟨by simp, res_cl (oneV_res op hv), fun H T => ?_⟩
      have ps : φSub [num 0, v] = some (subV (formedB (num 0)) (formedB v) (vk (num 0)) (vi (num 0)) (vk v) (vi v)) := by
        simp only [φSub]; rw [if_pos ⟨(isVr_val (k := 2) (n := 0) (by decide) (by decide)).1, hv.1⟩]
      unfold oneV
      obtain ⟨p, e, hp⟩ := subV_res (formedB (num 0)) (formedB v) (vk (num 0)) (vi (num 0)) (vk v) (vi v)
      rw [e] at ps
      rw [e, unt_tup]
      clear e
      obtain ⟨w, er⟩ := p
      obtain ⟨k2, i2, s2, n2, l2, e2, _⟩ := isV_elim (show w.isV = true from hp.1)
      subst e2
      have eL2 := (mkV_erase hp.1).1
      obtain ⟨k', i', s', n', l', rfl, _, hl, _⟩ := isV_elim hv.1
      have eL := (mkV_erase hv.1).1
      simp only [tupV, mkV, num] at ps
      simp only [sNot, sNeg, sSize, vk_mk, vi_mk, vl_mk]
      simp (config := { contextual := true, maxSteps := 10000000 }) only [c54, mkV, ps, eL, eL2, φTruth, φNumber, tupV, truV, num, zeroV, go_sem, Nat.reduceAdd, Nat.reduceSub, Nat.reduceMul, Nat.reduceEqDiff, Nat.reduceLeDiff, Nat.reduceLT, Int.reduceToNat, Int.reduceLE, Int.reduceLT, Int.reduceEq, Int.reduceNe, Int.reduceBEq, Int.reduceBNe, Nat.reduceBEq, Nat.reduceBNe, ↓reduceIte, reduceCtorEq, ↓reduceDIte, W_draw]
      (all_goals ((repeat' (first | apply And.intro | intro _)) <;> (first | rfl | omega | (simp_all; done) | grind)))
    · cases h
  · cases h

open Classical in
noncomputable def φtwo2 : List D → Option D
  | [.str op, a, b] => if isVr a ∧ isVr b then some (tupV (twoV op a b)) else none
  | _ => none
theorem inV_tup (a b : D) : ∃ x e, inV a b = .tup [.bool x, .int .i64 e] := by
  unfold inV; (repeat' split) <;> exact ⟨_, _, rfl⟩
theorem cmpV_tup (op : List UInt8) (a b : D) : ∃ x e, cmpV op a b = .tup [.bool x, .int .i64 e] := by
  unfold cmpV; (repeat' split) <;> exact ⟨_, _, rfl⟩
set_option maxHeartbeats 4000000 in
theorem ok55 : OkAt Try.prog 55 φtwo2 := by
  refine ok_of (l := [(77, φAdd), (75, φSub), (78, φMul), (80, φIn), (81, φCompareV), (79, φtruth2)]) (.cons ok77 (.cons ok75 (.cons ok78 (.cons ok80 (.cons ok81 (.cons ok79 .nil)))))) fn55 fun args r h => ?_
  unfold φtwo2 at h
  split at h
  · rename_i op a b
    split at h
    · rename_i hv
      obtain ⟨ha, hb⟩ := hv
      injection h with h; subst h
      refine ⟨by simp, res_cl (twoV_res op a b), fun H T => ?_⟩
      have p1 : φAdd [a, b] = some (addV (formedB a) (formedB b) (vk a) (vi a) (vk b) (vi b)) := by simp only [φAdd]; rw [if_pos ⟨ha.1, hb.1⟩]
      have p2 : φSub [a, b] = some (subV (formedB a) (formedB b) (vk a) (vi a) (vk b) (vi b)) := by simp only [φSub]; rw [if_pos ⟨ha.1, hb.1⟩]
      have p3 : φMul [a, b] = some (mulV (formedB a) (formedB b) (vk a) (vi a) (vk b) (vi b)) := by simp only [φMul]; rw [if_pos ⟨ha.1, hb.1, ha.2, hb.2⟩]
      have p4 : φIn [a, b] = some (inV a b) := by simp only [φIn]; rw [if_pos ⟨ha.1, hb.1⟩]
      have p5 : φCompareV [.str op, a, b] = some (cmpV op a b) := by simp only [φCompareV]; rw [if_pos ⟨ha.1, hb.1⟩]
      unfold twoV
      obtain ⟨⟨w1, r1⟩, e1, q1⟩ := addV_res (formedB a) (formedB b) (vk a) (vi a) (vk b) (vi b)
      obtain ⟨⟨w2, r2⟩, e2, q2⟩ := subV_res (formedB a) (formedB b) (vk a) (vi a) (vk b) (vi b)
      obtain ⟨⟨w3, r3⟩, e3, q3⟩ := mulV_res (formedB a) (formedB b) (vk a) (vi a) (vk b) (vi b)
      rw [e1] at p1 ⊢; rw [e2] at p2 ⊢; rw [e3] at p3 ⊢
      obtain ⟨b4, r4, e4⟩ := inV_tup a b
      obtain ⟨b5, r5, e5⟩ := cmpV_tup op a b
      have t4 := truT_res (inV a b)
      have t5 := truT_res (cmpV op a b)
      rw [e4] at p4 t4 ⊢; rw [e5] at p5 t5 ⊢
      have p6 : φtruth2 [.bool b4, .int .i64 r4] = some (tupV (truT (.tup [.bool b4, .int .i64 r4]))) := rfl
      have p7 : φtruth2 [.bool b5, .int .i64 r5] = some (tupV (truT (.tup [.bool b5, .int .i64 r5]))) := rfl
      obtain ⟨⟨w4, r4'⟩, e4'⟩ : ∃ z, truT (.tup [.bool b4, .int .i64 r4]) = z := ⟨_, rfl⟩
      obtain ⟨⟨w5, r5'⟩, e5'⟩ : ∃ z, truT (.tup [.bool b5, .int .i64 r5]) = z := ⟨_, rfl⟩
      simp only [e4', e5'] at p6 p7 t4 t5 ⊢
      simp only [unt_tup]
      clear e1 e2 e3 e4 e5 e4' e5'
      obtain ⟨k1, i1, s1, n1, l1, rfl, _⟩ := isV_elim ha.1
      obtain ⟨k2, i2, s2, n2, l2, rfl, _⟩ := isV_elim hb.1
      have eL1 := (mkV_erase ha.1).1
      have eL2 := (mkV_erase hb.1).1
      obtain ⟨x1, y1, _, _, z1, u1⟩ := vOp (show isVr w1 from q1)
      obtain ⟨x2, y2, _, _, z2, u2⟩ := vOp (show isVr w2 from q2)
      obtain ⟨x3, y3, _, _, z3, u3⟩ := vOp (show isVr w3 from q3)
      obtain ⟨x4, y4, _, _, z4, u4⟩ := vOp (show isVr w4 from t4)
      obtain ⟨x5, y5, _, _, z5, u5⟩ := vOp (show isVr w5 from t5)
      simp only [tupV, mkV] at p1 p2 p3 p4 p5 p6 p7
      simp only [sIn]
      have A1 := (vOp (show isVr w1 from q1)).2.2.2.1
      have A2 := (vOp (show isVr w2 from q2)).2.2.2.1
      have A3 := (vOp (show isVr w3 from q3)).2.2.2.1
      have A4 := (vOp (show isVr w4 from t4)).2.2.2.1
      have A5 := (vOp (show isVr w5 from t5)).2.2.2.1
      have B1 := (vOp (show isVr w1 from q1)).2.2.1
      have B2 := (vOp (show isVr w2 from q2)).2.2.1
      have B3 := (vOp (show isVr w3 from q3)).2.2.1
      have B4 := (vOp (show isVr w4 from t4)).2.2.1
      have B5 := (vOp (show isVr w5 from t5)).2.2.1
      simp (config := { contextual := true, maxSteps := 10000000 }) only [c55, mkV, p1, p2, p3, p4, p5, p6, p7, eL1, eL2, tupV, x1, y1, z1, x2, y2, z2, x3, y3, z3, x4, y4, z4, x5, y5, z5, A1, A2, A3, A4, A5, B1, B2, B3, B4, B5, go_sem, Nat.reduceAdd, Nat.reduceSub, Nat.reduceMul, Nat.reduceEqDiff, Nat.reduceLeDiff, Nat.reduceLT, Int.reduceToNat, Int.reduceLE, Int.reduceLT, Int.reduceEq, Int.reduceNe, Int.reduceBEq, Int.reduceBNe, Nat.reduceBEq, Nat.reduceBNe, ↓reduceIte, reduceCtorEq, ↓reduceDIte, W_draw]
      (all_goals ((repeat' (first | apply And.intro | intro _)) <;> (first | rfl | omega | (simp_all; done) | grind)))
    · cases h
  · cases h
end GP
set_option linter.unusedSimpArgs false
namespace GP
open Go Go.Proofs
set_option maxRecDepth 100000

open Classical in
noncomputable def φev (n : Nat) : List D → Option D
  | [s, e] => if isS s ∧ isE n e ∧ fmA n e = true then some (tupV (evI n s e)) else none
  | _ => none
def tupB (p : Bool × Int) : D := .tup [.bool p.1, .int .i64 p.2]
open Classical in
noncomputable def φtst (n : Nat) : List D → Option D
  | [s, e] => if isS s ∧ isE n e ∧ fmA n e = true then some (tupB (tstV (evI n s e))) else none
  | _ => none
open Classical in
noncomputable def φeither (n : Nat) : List D → Option D
  | [s, e, .bool d] => if isS s ∧ isE (n + 1) e ∧ fmA (n + 1) e = true ∧ (eps e).length = 2 then some (tupV (eitherV (tstV (evI n s (part e 0))) (tstV (evI n s (part e 1))) d)) else none
  | _ => none

theorem ok39 {n : Nat} (h36 : OkAt Try.prog 36 (φev n)) : OkAt Try.prog 39 (φtst n) := by
  refine ok_of (l := [(36, φev n)]) (.cons h36 .nil) fn39 fun args r h => ?_
  unfold φtst at h
  split at h
  · rename_i s e
    split at h
    · rename_i hv
      injection h with h; subst h
      refine ⟨by simp, by simp [tupB, D.cl, D.clL], fun H T => ?_⟩
      have p : φev n [s, e] = some (tupV (evI n s e)) := by simp only [φev]; rw [if_pos hv]
      obtain ⟨hs, he, hf⟩ := hv
      have hr := evI_res hs he hf
      obtain ⟨⟨v, f⟩, hq⟩ : ∃ z, evI n s e = z := ⟨_, rfl⟩
      simp only [hq] at p hr ⊢
      clear hq
      have es := isS_erase hs
      have ee := isE_erase he
      obtain ⟨c1, c2, c3, c4⟩ := isS_cells hs
      obtain ⟨d1, d2, d3, d4⟩ := isE_cells he
      obtain ⟨k1, i1, s1, n1, l1, rfl, _⟩ := isV_elim (show v.isV = true from hr.1)
      have eL1 := (mkV_erase hr.1).1
      simp only [tupV, mkV] at p
      simp only [tstV, tstE, tupB, vk_mk, vi_mk]
      simp (config := { contextual := true, maxSteps := 10000000 }) only [c39, p, es, ee, c1, c2, c3, d1, d2, d3, eL1, go_sem, Nat.reduceAdd, Nat.reduceSub, Nat.reduceMul, Nat.reduceEqDiff, Nat.reduceLeDiff, Nat.reduceLT, Int.reduceToNat, Int.reduceLE, Int.reduceLT, Int.reduceEq, Int.reduceNe, Int.reduceBEq, Int.reduceBNe, Nat.reduceBEq, Nat.reduceBNe, ↓reduceIte, reduceCtorEq, ↓reduceDIte, W_draw]
      (all_goals ((repeat' (first | apply And.intro | intro _)) <;> (first | rfl | omega | (simp_all; done) | grind)))
    · cases h
  · cases h

theorem child2 {n : Nat} {s : D} {op : List UInt8} {k j : Int} {t : List UInt8} {nl : Bool} {l : List D} {who name : List UInt8} {m : Bool} {ps : List D} (hs : isS s) (he : isE (n + 1) (mkE op k j t nl l who name m ps)) (hf : fmA (n + 1) (mkE op k j t nl l who name m ps) = true) {i : Nat} (hi : i < ps.length) :
    ∃ x, ps[i]? = some x ∧ part (mkE op k j t nl l who name m ps) i = x ∧ x.cells.length = 8 ∧ x.cells.take 8 = x.cells ∧ D.agg x.cells = x ∧ x.erase = x ∧ φev n [s, x] = some (tupV (evI n s x)) ∧ φtst n [s, x] = some (tupB (tstV (evI n s x))) ∧ isRes (evI n s x) := by
  have hi' : i < (eps (mkE op k j t nl l who name m ps)).length := by rw [eps_mk]; exact hi
  obtain ⟨h1, h2⟩ := part_isE he hi'
  have h3 := fmA_part hf h2
  obtain ⟨c1, c2, c3, _⟩ := isE_cells h1
  refine ⟨_, ?_, rfl, c1, c2, c3, isE_erase h1, ?_, ?_, evI_res hs h1 h3⟩
  · simp [part, eps_mk, hi]
  · simp only [φev]; rw [if_pos ⟨hs, h1, h3⟩]
  · simp only [φtst]; rw [if_pos ⟨hs, h1, h3⟩]

set_option maxHeartbeats 2000000 in
theorem ok53 {n : Nat} (h39 : OkAt Try.prog 39 (φtst n)) : OkAt Try.prog 53 (φeither n) := by
  refine ok_of (l := [(39, φtst n), (72, φTruth)]) (.cons h39 (.cons ok72 .nil)) fn53 fun args r h => ?_
  unfold φeither at h
  split at h
  · rename_i s e d
    split at h
    · rename_i hv
      obtain ⟨hs, he, hf, hl⟩ := hv
      injection h with h; subst h
      refine ⟨by simp, res_cl (eitherV_res _ _ _), fun H T => ?_⟩
      have es := isS_erase hs
      obtain ⟨c1, c2, c3, c4⟩ := isS_cells hs
      obtain ⟨op, k, i, t, nl, l, who, name, m, ps, rfl, h1, h2, h3, h4, h5, h6, eL, eP⟩ := isE_elim he
      rw [eps_mk] at hl
      obtain ⟨x, e0, g0, x1, x2, x3, x4, _, px, _⟩ := child2 hs he hf (i := 0) (by omega)
      obtain ⟨y, e1, g1, y1, y2, y3, y4, _, py, _⟩ := child2 hs he hf (i := 1) (by omega)
      rw [g0, g1]
      obtain ⟨⟨a, f⟩, hq⟩ : ∃ z, tstV (evI n s x) = z := ⟨_, rfl⟩
      obtain ⟨⟨b, g⟩, hq'⟩ : ∃ z, tstV (evI n s y) = z := ⟨_, rfl⟩
      simp only [hq] at px ⊢
      simp only [hq'] at py ⊢
      clear hq hq'
      simp only [tupB] at px py
      simp only [eitherV, tupV]
      simp (config := { contextual := true, maxSteps := 10000000 }) only [c53, mkE, es, eL, eP, c1, c2, c3, e0, x1, x2, x3, x4, px, e1, y1, y2, y3, y4, py, φTruth, truV, zeroV, go_sem, Nat.reduceAdd, Nat.reduceSub, Nat.reduceMul, Nat.reduceEqDiff, Nat.reduceLeDiff, Nat.reduceLT, Int.reduceToNat, Int.reduceLE, Int.reduceLT, Int.reduceEq, Int.reduceNe, Int.reduceBEq, Int.reduceBNe, Nat.reduceBEq, Nat.reduceBNe, ↓reduceIte, reduceCtorEq, ↓reduceDIte, W_draw]
      (all_goals ((repeat' (first | apply And.intro | intro _)) <;> (first | rfl | omega | (simp_all; done) | grind)))
    · cases h
  · cases h

theorem ar_and : arityI sAnd = 2 := by decide
theorem ar_or : arityI sOr = 2 := by decide
set_option maxHeartbeats 4000000 in
theorem ok36 : ∀ n, OkAt Try.prog 36 (φev n)
  | 0 => fun args r h => by
    unfold φev at h
    split at h
    · split at h
      · rename_i h'; exact h'.2.1.elim
      · cases h
    · cases h
  | n + 1 => by
    have h36 := ok36 n
    refine ok_of (l := [(52, φleaf), (53, φeither n), (54, φone2), (55, φtwo2), (36, φev n)]) (.cons ok52 (.cons (ok53 (ok39 h36)) (.cons ok54 (.cons ok55 (.cons h36 .nil))))) fn36 fun args r h => ?_
    unfold φev at h
    split at h
    · rename_i s e
      split at h
      · rename_i hv
        obtain ⟨hs, he, hf⟩ := hv
        injection h with h; subst h
        refine ⟨by simp, res_cl (evI_res hs he hf), fun H T => ?_⟩
        have es := isS_erase hs
        obtain ⟨c1, c2, c3, c4⟩ := isS_cells hs
        have ha := fmA_len hf
        have hrE := evI_res hs he hf
        have pl : φleaf [s, e] = some (tupV (leafI s e)) := by simp only [φleaf]; rw [if_pos ⟨hs, _, he⟩]
        have hrl := leafI_res hs he
        have pe : ∀ d, (eps e).length = 2 → φeither n [s, e, .bool d] = some (tupV (eitherV (tstV (evI n s (part e 0))) (tstV (evI n s (part e 1))) d)) := fun d hl => by
          simp only [φeither]; rw [if_pos ⟨hs, he, hf, hl⟩]
        have hre := fun d => eitherV_res (tstV (evI n s (part e 0))) (tstV (evI n s (part e 1))) d
        unfold evI
        obtain ⟨⟨vl', fl⟩, hq⟩ : ∃ z, leafI s e = z := ⟨_, rfl⟩
        simp only [hq] at pl hrl ⊢
        clear hq
        obtain ⟨⟨va, fa⟩, hq⟩ : ∃ z, eitherV (tstV (evI n s (part e 0))) (tstV (evI n s (part e 1))) false = z := ⟨_, rfl⟩
        obtain ⟨⟨vo, fo⟩, hq'⟩ : ∃ z, eitherV (tstV (evI n s (part e 0))) (tstV (evI n s (part e 1))) true = z := ⟨_, rfl⟩
        have pa := pe false
        have po := pe true
        have ra := hre false
        have ro := hre true
        simp only [hq] at pa ra ⊢
        simp only [hq'] at po ro ⊢
        clear hq hq' hre pe hrE
        obtain ⟨op, k, i, t, nl, l, who, name, m, ps, rfl, h1, h2, h3, h4, h5, h6, eL, eP⟩ := isE_elim he
        rw [eop_mk, eps_mk] at ha
        simp only [eps_mk, eop_mk, sAnd, sOr] at *
        have lc := arity_cases op
        have l3 : ps.length = 0 ∨ ps.length = 1 ∨ ps.length = 2 := by omega
        obtain ⟨_, y1, B1, A1, z1, _⟩ := vOp (show isVr vl' from hrl)
        have x1 := (vOp (show isVr vl' from hrl)).1
        obtain ⟨x2, y2, B2, A2, z2, _⟩ := vOp (show isVr va from ra)
        obtain ⟨x3, y3, B3, A3, z3, _⟩ := vOp (show isVr vo from ro)
        simp only [tupV, mkE] at pl pa po
        rcases l3 with hl | hl | hl
        · have dl : ((ps.length : Int) == 0) = true := by simp [hl]
          simp (config := { contextual := true, maxSteps := 10000000 }) only [c36, mkE, dl, es, eL, eP, c1, c2, c3, c4, pl, tupV, x1, y1, z1, A1, B1, go_sem, Nat.reduceAdd, Nat.reduceSub, Nat.reduceMul, Nat.reduceEqDiff, Nat.reduceLeDiff, Nat.reduceLT, Int.reduceToNat, Int.reduceLE, Int.reduceLT, Int.reduceEq, Int.reduceNe, Int.reduceBEq, Int.reduceBNe, Nat.reduceBEq, Nat.reduceBNe, ↓reduceIte, reduceCtorEq, ↓reduceDIte, W_draw]
        · have d0 : ((ps.length : Int) == 0) = false := by simp [hl]
          have d1 : ((ps.length : Int) == 1) = true := by simp [hl]
          have na : (op == [97, 110, 100]) = false := by
            rw [beq_eq_false_iff_ne]; rintro rfl; rw [hl] at ha; exact absurd ha (by decide)
          have no : (op == [111, 114]) = false := by
            rw [beq_eq_false_iff_ne]; rintro rfl; rw [hl] at ha; exact absurd ha (by decide)
          obtain ⟨x, e0, g0, u1, u2, u3, u4, px, _, rx⟩ := child2 hs he hf (i := 0) (by omega)
          rw [g0]
          have p1 : ∀ v, isVr v → φone2 [.str op, v] = some (tupV (oneV op v)) := fun v hv => by simp only [φone2]; rw [if_pos hv]
          obtain ⟨⟨v, f⟩, hq⟩ : ∃ z, evI n s x = z := ⟨_, rfl⟩
          simp only [hq] at px rx ⊢
          clear hq
          have p1 := p1 v rx
          obtain ⟨⟨w, g⟩, hq⟩ : ∃ z, oneV op v = z := ⟨_, rfl⟩
          have rw1 := oneV_res op rx
          simp only [hq] at p1 rw1 ⊢
          clear hq
          obtain ⟨v1, v2, v3, v4, v5, _⟩ := vOp (show isVr v from rx)
          obtain ⟨w1, w2, w3, w4, w5, _⟩ := vOp (show isVr w from rw1)
          simp only [tupV] at px p1
          simp (config := { contextual := true, maxSteps := 10000000 }) only [c36, mkE, d0, d1, na, no, es, eL, eP, c1, c2, c3, e0, u1, u2, u3, u4, px, p1, tupV, v1, v2, v3, v4, v5, w1, w2, w3, w4, w5, zeroV, go_sem, Nat.reduceAdd, Nat.reduceSub, Nat.reduceMul, Nat.reduceEqDiff, Nat.reduceLeDiff, Nat.reduceLT, Int.reduceToNat, Int.reduceLE, Int.reduceLT, Int.reduceEq, Int.reduceNe, Int.reduceBEq, Int.reduceBNe, Nat.reduceBEq, Nat.reduceBNe, ↓reduceIte, reduceCtorEq, ↓reduceDIte, W_draw]
          (all_goals ((repeat' (first | apply And.intro | intro _)) <;> (first | rfl | omega | (simp_all; done) | grind)))
        · have d0 : ((ps.length : Int) == 0) = false := by simp [hl]
          have d1 : ((ps.length : Int) == 1) = false := by simp [hl]
          obtain ⟨x, e0, g0, u1, u2, u3, u4, px, _, rx⟩ := child2 hs he hf (i := 0) (by omega)
          obtain ⟨y, e1, g1, t1, t2, t3, t4, py, _, ry⟩ := child2 hs he hf (i := 1) (by omega)
          rw [g0, g1]
          have pa := pa hl
          have po := po hl
          have p1 : ∀ v w, isVr v → isVr w → φtwo2 [.str op, v, w] = some (tupV (twoV op v w)) := fun v w hv hw => by simp only [φtwo2]; rw [if_pos ⟨hv, hw⟩]
          obtain ⟨⟨v, f⟩, hq⟩ : ∃ z, evI n s x = z := ⟨_, rfl⟩
          obtain ⟨⟨v', f'⟩, hq'⟩ : ∃ z, evI n s y = z := ⟨_, rfl⟩
          simp only [hq] at px rx ⊢
          simp only [hq'] at py ry ⊢
          clear hq hq'
          have p1 := p1 v v' rx ry
          obtain ⟨⟨w, g⟩, hq⟩ : ∃ z, twoV op v v' = z := ⟨_, rfl⟩
          have rw1 := twoV_res op v v'
          simp only [hq] at p1 rw1 ⊢
          clear hq
          obtain ⟨v1, v2, v3, v4, v5, _⟩ := vOp (show isVr v from rx)
          obtain ⟨q1, q2, q3, q4, q5, _⟩ := vOp (show isVr v' from ry)
          obtain ⟨w1, w2, w3, w4, w5, _⟩ := vOp (show isVr w from rw1)
          simp only [tupV] at px py p1
          simp (config := { contextual := true, maxSteps := 10000000 }) only [c36, mkE, d0, d1, es, eL, eP, c1, c2, c3, e0, u1, u2, u3, u4, px, e1, t1, t2, t3, t4, py, p1, pa, po, tupV, v1, v2, v3, v4, v5, q1, q2, q3, q4, q5, w1, w2, w3, w4, w5, x2, y2, z2, A2, B2, x3, y3, z3, A3, B3, zeroV, go_sem, Nat.reduceAdd, Nat.reduceSub, Nat.reduceMul, Nat.reduceEqDiff, Nat.reduceLeDiff, Nat.reduceLT, Int.reduceToNat, Int.reduceLE, Int.reduceLT, Int.reduceEq, Int.reduceNe, Int.reduceBEq, Int.reduceBNe, Nat.reduceBEq, Nat.reduceBNe, ↓reduceIte, reduceCtorEq, ↓reduceDIte, W_draw]
          (all_goals ((repeat' (first | apply And.intro | intro _)) <;> (first | rfl | omega | (simp_all; done) | grind)))
      · cases h
    · cases h
end GP
set_option linter.unusedSimpArgs false
namespace GP
open Go Go.Proofs
set_option maxRecDepth 100000

theorem all_nx {p : D → Bool} {l : List D} {j : Nat} {x : D} (hx : l[j]? = some x) (h : (l.take j).all p = true) (hp : p x = true) : (l.take (j + 1)).all p = true := by rw [all_take_succ hx, h, hp]; rfl
theorem all_no {p : D → Bool} {l : List D} {j : Nat} {x : D} (hx : l[j]? = some x) (hp : p x = false) : l.all p = false :=
  List.all_eq_false.2 ⟨x, List.mem_of_getElem? hx, by simp [hp]⟩

/-! ### Formed expressions -/
def fmD : Nat → D → Bool
  | 0, _ => false
  | n + 1, e => ((typI (n + 1) [] e).2 != 2) && (eps e).all (fmD n)
theorem factI_nil (a b : List UInt8) : factI [] a b = 0 := rfl
theorem typ_blank (n : Nat) (op : List UInt8) (k i : Int) (s : List UInt8) (nl : Bool) (l : List D) (who name : List UInt8) (m : Bool) (ps : List D) : typI (n + 1) [] (mkE op k i s nl l [] [] m ps) = typI (n + 1) [] (mkE op k i s nl l who name m ps) := by
  simp only [typI, noneI, factI_nil, eop_mk, eV_mk, eps_mk]
  rfl
open Classical in
noncomputable def φfm (n : Nat) : List D → Option D
  | [e] => if isE n e then some (.bool (fmD n e)) else none
  | _ => none
open Classical in
noncomputable def φfm1 (n : Nat) : List D → Option D
  | [e] => if isE n e then some (.bool (!(fmD n e))) else none
  | _ => none
theorem ok71 {n : Nat} (h51 : OkAt Try.prog 51 (φfm n)) : OkAt Try.prog 71 (φfm1 n) := by
  refine ok_of (l := [(51, φfm n)]) (.cons h51 .nil) fn71 fun args r h => ?_
  unfold φfm1 at h
  split at h
  · rename_i e
    split at h
    · rename_i hv
      injection h with h; subst h
      refine ⟨by simp, by simp [D.cl], fun H T => ?_⟩
      have p : φfm n [e] = some (.bool (fmD n e)) := by simp only [φfm]; rw [if_pos hv]
      have ee := isE_erase hv
      obtain ⟨d1, d2, d3, d4⟩ := isE_cells hv
      simp (config := { contextual := true, maxSteps := 10000000 }) only [c71, p, ee, d1, d2, d3, d4, go_sem, Nat.reduceAdd, Nat.reduceSub, Nat.reduceMul, Nat.reduceEqDiff, Nat.reduceLeDiff, Nat.reduceLT, Int.reduceToNat, Int.reduceLE, Int.reduceLT, Int.reduceEq, Int.reduceNe, Int.reduceBEq, Int.reduceBNe, Nat.reduceBEq, Nat.reduceBNe, ↓reduceIte, reduceCtorEq, ↓reduceDIte, W_draw]
    · cases h
  · cases h
theorem isE_El {n : Nat} {d : D} (h : isE n d) : El true 8 d := .agg (isE_erase h) (isE_cells h).1 (isE_cells h).2.2.1
theorem ok87 {n : Nat} (h : OkAt Try.prog 51 (φfm n)) : OkAtH Try.prog 87 (φidx 71 (fun _ => φfm1 n) (isE n)) := okIdx fn87 (ok71 h).lift (Mo.const _) fun _ => isE_El
theorem ok70 {n : Nat} (h : OkAt Try.prog 51 (φfm n)) : OkAtH Try.prog 70 (φcf 71 (fun _ => φfm1 n) (isE n)) := okCf fn70 (fun _ => isE_erase) (ok87 h) (Mo.const _)
theorem M70 (n : Nat) : MonoH [(70, φcf 71 (fun _ => φfm1 n) (isE n))] := .cons (φcf_mono (Mo.const _) _) .nil
set_option maxHeartbeats 2000000 in
theorem ok51 : ∀ n, OkAt Try.prog 51 (φfm n)
  | 0 => fun args r h => by
    unfold φfm at h
    split at h
    · split at h
      · rename_i h'; exact h'.elim
      · cases h
    · cases h
  | n + 1 => by
    refine OkAtH.low (okH_of (l := [(30, φtyp (n + 1))]) (m := [(70, φcf 71 (fun _ => φfm1 n) (isE n))]) (.cons (ok30 (n + 1)) .nil) (.cons (ok70 (ok51 n)) .nil) fn51 fun H args r h => ?_)
    unfold φfm at h
    split at h
    · rename_i e
      split at h
      · rename_i he
        injection h with h; subst h
        refine ⟨by simp, by simp [D.cl], fun T => ?_⟩
        obtain ⟨op, k, i, t, nl, l, who, name, m, ps, rfl, h1, h2, h3, h4, h5, h6, eL, eP⟩ := isE_elim he
        have h6 : ∀ x ∈ ps, isE n x := h6
        have he' : isE (n + 1) (mkE op k i t nl l [] [] m ps) := ⟨_, _, _, _, _, _, _, _, _, _, rfl, h1, by simp, by simp, h4, h5, h6⟩
        have pt : φtyp (n + 1) [.nils, mkE op k i t nl l [] [] m ps] = some (tupI (typI (n + 1) [] (mkE op k i t nl l who name m ps))) := by
          simp only [φtyp]; rw [if_pos ⟨isLs_nils _, he'⟩, ← typ_blank n op k i t nl l who name m ps]; rfl
        have pc : ∀ H, φcf 71 (fun _ => φfm1 n) (isE n) H [sliceD m ps, .fn 71 [] []] = some (.bool (!(ps.all (fmD n)))) := fun H => by
          have q : ∀ x ∈ ps, φfm1 n [x] = some (.bool (!(fmD n x))) := fun x hx => by
            simp only [φfm1]; rw [if_pos (h6 x hx)]
          simp only [φcf]
          rw [if_pos ⟨rfl, ⟨m, ps, rfl, h5, h6⟩, rfl, by rw [elems_sliceD]; exact fun x hx => ⟨_, q x hx⟩⟩, elems_sliceD]
          congr 2
          rw [any_congr' (q := fun x => !(fmD n x)) fun x hx => by rw [q x hx]; rfl]
          rw [List.not_all_eq_any_not]
        simp only [fmD, eps_mk]
        obtain ⟨⟨ty, f⟩, hq⟩ : ∃ z, typI (n + 1) [] (mkE op k i t nl l who name m ps) = z := ⟨_, rfl⟩
        simp only [hq] at pt ⊢
        clear hq
        simp only [mkE, tupI] at pt
        simp (config := { contextual := true, maxSteps := 10000000 }) only [c51, mkE, pt, pc, eL, eP, pcallH (M70 n), orK_s, orK_n, lookH_cons, lookH_nil, go_sem, Nat.reduceAdd, Nat.reduceSub, Nat.reduceMul, Nat.reduceEqDiff, Nat.reduceLeDiff, Nat.reduceLT, Int.reduceToNat, Int.reduceLE, Int.reduceLT, Int.reduceEq, Int.reduceNe, Int.reduceBEq, Int.reduceBNe, Nat.reduceBEq, Nat.reduceBNe, ↓reduceIte, reduceCtorEq, ↓reduceDIte, W_draw]
        (all_goals ((repeat' (first | apply And.intro | intro _)) <;> (first | rfl | omega | (simp_all; done) | grind)))
      · cases h
    · cases h

/-! ### Right scenes -/
def goodH (h : D) : Bool := formedB (hV h) && (vk (hV h) != 0)
def rightB (s : D) : Bool := (sA s).all goodH && decide (0 ≤ sNw s) && decide (sNw s ≤ 1099511627776)
open Classical in
noncomputable def φright : List D → Option D
  | [s] => if isS s then some (.bool (rightB s)) else none
  | _ => none
set_option maxHeartbeats 2000000 in
theorem ok23 : OkAt Try.prog 23 φright := by
  refine ok_of (l := [(40, φFormed)]) (.cons ok40 .nil) fn23 fun args r h => ?_
  unfold φright at h
  split at h
  · rename_i s
    split at h
    · rename_i hs
      injection h with h; subst h
      refine ⟨by simp, by simp [D.cl], fun H T => ?_⟩
      obtain ⟨now, R, A, rfl, n1, n2, hR, hA⟩ := hs
      have eR := isLs_erase (fun _ => isTx_erase) hR
      have eA := isLs_erase (fun _ => isH_erase) hA
      obtain ⟨nb, l, rfl, hl, hH⟩ := hA
      simp only [rightB, sA_mk, sNw_mk, elems_sliceD]
      simp (config := { contextual := true, maxSteps := 10000000 }) only [c23, mkS, eR, eA, go_sem, Nat.reduceAdd, Nat.reduceSub, Nat.reduceMul, Nat.reduceEqDiff, Nat.reduceLeDiff, Nat.reduceLT, Int.reduceToNat, Int.reduceLE, Int.reduceLT, Int.reduceEq, Int.reduceNe, Int.reduceBEq, Int.reduceBNe, Nat.reduceBEq, Nat.reduceBNe, ↓reduceIte, reduceCtorEq, ↓reduceDIte, W_draw]
      refine W_for (fun j s' => s'.t 1 = .ptr H.length 0 ∧ s'.t 6 = sliceD nb l ∧ s'.t 7 = .int .i64 l.length ∧ s'.t 8 = .int .i64 j ∧ Ext (H ++ [.row [.int .i64 now, R, sliceD nb l]]) s'.H ∧ s'.T = T ∧ j ≤ l.length ∧ (l.take j).all goodH = true) l.length ⟨0, by simp [upd, argT, ext_self]⟩ (fun i s h => h.2.2.2.2.2.2.1) ?_ (XL_mono _)
      rintro j ⟨t, B, T'⟩ ⟨h1, h6, h7, h8, hE, rfl, hj, hc⟩
      simp only at h1 h6 h7 h8 hE
      have b1 := hE.get (o := H.length) (by simp; rfl)
      by_cases ha : j < l.length
      · have d1 : decide ((j : Int) < l.length) = true := by simpa using ha
        have hx := hH _ (List.getElem_mem ha)
        have ex : l[j]? = some l[j] := by simp [ha]
        have nx := fun hp => all_nx (p := goodH) ex hc hp
        have no := fun hp => all_no (p := goodH) ex hp
        obtain ⟨who, name, k, i, s, nl, l', e, _, _, hv⟩ := hx
        rw [e] at ex nx no
        have G : goodH (mkH who name k i s nl l') = (formedB (mkV k i s nl l') && (k != 0)) := rfl
        rw [G] at nx no
        have pv : φFormed [mkV k i s nl l'] = some (.bool (formedB (mkV k i s nl l'))) := by simp only [φFormed]; rw [if_pos hv.1, formed_same]
        obtain ⟨fb, hq⟩ : ∃ z, formedB (mkV k i s nl l') = z := ⟨_, rfl⟩
        simp only [hq] at pv nx no
        clear hq
        have eL := (mkV_erase hv.1).1
        simp only [mkV] at pv
        simp only [mkH] at ex
        simp (config := { contextual := true, maxSteps := 10000000 }) only [h1, h6, h7, h8, d1, ex, eL, pv, wrap_succ j (by omega), hE.ta, leaves_Ea hE.pre (ExtT.refl _), go_sem, Nat.reduceAdd, Nat.reduceSub, Nat.reduceMul, Nat.reduceEqDiff, Nat.reduceLeDiff, Nat.reduceLT, Int.reduceToNat, Int.reduceLE, Int.reduceLT, Int.reduceEq, Int.reduceNe, Int.reduceBEq, Int.reduceBNe, Nat.reduceBEq, Nat.reduceBNe, ↓reduceIte, reduceCtorEq, ↓reduceDIte, W_draw]
        (all_goals ((repeat' (first | apply And.intro | intro _)) <;> (first | rfl | omega | (simp_all; done) | grind)))
      · have d1 : decide ((j : Int) < l.length) = false := by simpa using ha
        have hA : l.all goodH = true := by
          have : j = l.length := by omega
          subst this; rw [List.take_length] at hc; exact hc
        simp (config := { contextual := true, maxSteps := 10000000 }) only [h1, h6, h7, h8, d1, hA, rdAt_E b1, leaves_E hE.pre (ExtT.refl _), go_sem, Nat.reduceAdd, Nat.reduceSub, Nat.reduceMul, Nat.reduceEqDiff, Nat.reduceLeDiff, Nat.reduceLT, Int.reduceToNat, Int.reduceLE, Int.reduceLT, Int.reduceEq, Int.reduceNe, Int.reduceBEq, Int.reduceBNe, Nat.reduceBEq, Nat.reduceBNe, ↓reduceIte, reduceCtorEq, ↓reduceDIte, W_draw]
        (all_goals ((repeat' (first | apply And.intro | intro _)) <;> (first | rfl | omega | (simp_all; done) | grind)))
    · cases h
  · cases h

def wrongI (n : Nat) (e s : D) : Int := if !(rightB s) then 1 else if !(fmD n e) then 2 else 0
open Classical in
noncomputable def φwrong (n : Nat) : List D → Option D
  | [e, s] => if isS s ∧ isE n e then some (.int .i64 (wrongI n e s)) else none
  | _ => none
theorem ok35 (n : Nat) : OkAt Try.prog 35 (φwrong n) := by
  refine ok_of (l := [(23, φright), (51, φfm n)]) (.cons ok23 (.cons (ok51 n) .nil)) fn35 fun args r h => ?_
  unfold φwrong at h
  split at h
  · rename_i e s
    split at h
    · rename_i hv
      obtain ⟨hs, he⟩ := hv
      injection h with h; subst h
      refine ⟨by simp, by simp [D.cl], fun H T => ?_⟩
      have es := isS_erase hs
      have ee := isE_erase he
      obtain ⟨c1, c2, c3, c4⟩ := isS_cells hs
      obtain ⟨d1, d2, d3, d4⟩ := isE_cells he
      have p : φfm n [e] = some (.bool (fmD n e)) := by simp only [φfm]; rw [if_pos he]
      have p2 : φright [s] = some (.bool (rightB s)) := by simp only [φright]; rw [if_pos hs]
      simp only [wrongI]
      simp (config := { contextual := true, maxSteps := 10000000 }) only [c35, es, ee, c1, c2, c3, c4, d1, d2, d3, d4, p, p2, go_sem, Nat.reduceAdd, Nat.reduceSub, Nat.reduceMul, Nat.reduceEqDiff, Nat.reduceLeDiff, Nat.reduceLT, Int.reduceToNat, Int.reduceLE, Int.reduceLT, Int.reduceEq, Int.reduceNe, Int.reduceBEq, Int.reduceBNe, Nat.reduceBEq, Nat.reduceBNe, ↓reduceIte, reduceCtorEq, ↓reduceDIte, W_draw]
      (all_goals ((repeat' (first | apply And.intro | intro _)) <;> (first | rfl | omega | (simp_all; done) | grind)))
    · cases h
  · cases h

/-- An expression that is formed has as many parts everywhere as its ops take. -/
theorem fmD_fmA : ∀ {n : Nat} {e : D}, fmD n e = true → fmA n e = true
  | 0, _, h => h
  | n + 1, e, h => by
    simp only [fmD, Bool.and_eq_true, List.all_eq_true] at h
    obtain ⟨h1, h2⟩ := h
    simp only [fmA, Bool.and_eq_true, List.all_eq_true]
    refine ⟨?_, fun x hx => fmD_fmA (h2 x hx)⟩
    unfold typI at h1
    split at h1
    · simp at h1
    · rename_i hc
      simp only [Bool.or_eq_true, decide_eq_true_eq, bne_iff_ne, not_or, Decidable.not_not] at hc
      simpa using hc.2

def evalI (n : Nat) (e s : D) : D × Int := if wrongI n e s != 0 then (zeroV, wrongI n e s) else evI n s e
def testI (n : Nat) (e s : D) : Bool × Int := if wrongI n e s != 0 then (false, wrongI n e s) else tstV (evI n s e)
theorem wrong_fm {n : Nat} {e s : D} (h : (wrongI n e s != 0) = false) : fmD n e = true := by
  unfold wrongI at h
  cases hr : rightB s <;> cases hf : fmD n e <;> simp [hr, hf] at h ⊢
theorem evalI_res {n : Nat} {e s : D} (hs : isS s) (he : isE n e) : isRes (evalI n e s) := by
  unfold evalI
  split
  · exact isVr_zero
  · rename_i h
    exact evI_res hs he (fmD_fmA (wrong_fm (by simpa using h)))
open Classical in
noncomputable def φEval (n : Nat) : List D → Option D
  | [e, s] => if isS s ∧ isE n e then some (tupV (evalI n e s)) else none
  | _ => none
open Classical in
noncomputable def φTest (n : Nat) : List D → Option D
  | [e, s] => if isS s ∧ isE n e then some (tupB (testI n e s)) else none
  | _ => none
theorem ok17 (n : Nat) : OkAt Try.prog 17 (φEval n) := by
  refine ok_of (l := [(35, φwrong n), (36, φev n)]) (.cons (ok35 n) (.cons (ok36 n) .nil)) fn17 fun args r h => ?_
  unfold φEval at h
  split at h
  · rename_i e s
    split at h
    · rename_i hv
      obtain ⟨hs, he⟩ := hv
      injection h with h; subst h
      refine ⟨by simp, res_cl (evalI_res hs he), fun H T => ?_⟩
      have es := isS_erase hs
      have ee := isE_erase he
      obtain ⟨c1, c2, c3, c4⟩ := isS_cells hs
      obtain ⟨d1, d2, d3, d4⟩ := isE_cells he
      have p : φwrong n [e, s] = some (.int .i64 (wrongI n e s)) := by simp only [φwrong]; rw [if_pos ⟨hs, he⟩]
      unfold evalI
      cases hw : (wrongI n e s != 0) with
      | true => simp (config := { contextual := true, maxSteps := 10000000 }) only [c17, es, ee, c1, c2, c3, c4, d1, d2, d3, d4, p, hw, tupV, zeroV, go_sem, Nat.reduceAdd, Nat.reduceSub, Nat.reduceMul, Nat.reduceEqDiff, Nat.reduceLeDiff, Nat.reduceLT, Int.reduceToNat, Int.reduceLE, Int.reduceLT, Int.reduceEq, Int.reduceNe, Int.reduceBEq, Int.reduceBNe, Nat.reduceBEq, Nat.reduceBNe, ↓reduceIte, reduceCtorEq, ↓reduceDIte, W_draw]
      | false =>
        have hf := fmD_fmA (wrong_fm hw)
        have p2 : φev n [s, e] = some (tupV (evI n s e)) := by simp only [φev]; rw [if_pos ⟨hs, he, hf⟩]
        have hr := evI_res hs he hf
        obtain ⟨⟨v, f⟩, hq⟩ : ∃ z, evI n s e = z := ⟨_, rfl⟩
        simp only [hq] at p2 hr ⊢
        obtain ⟨v1, v2, v3, v4, v5, _⟩ := vOp (show isVr v from hr)
        simp only [tupV] at p2
        simp (config := { contextual := true, maxSteps := 10000000 }) only [c17, es, ee, c1, c2, c3, c4, d1, d2, d3, d4, p, p2, hw, tupV, v1, v2, v3, v4, v5, go_sem, Nat.reduceAdd, Nat.reduceSub, Nat.reduceMul, Nat.reduceEqDiff, Nat.reduceLeDiff, Nat.reduceLT, Int.reduceToNat, Int.reduceLE, Int.reduceLT, Int.reduceEq, Int.reduceNe, Int.reduceBEq, Int.reduceBNe, Nat.reduceBEq, Nat.reduceBNe, ↓reduceIte, reduceCtorEq, ↓reduceDIte, W_draw]
    · cases h
  · cases h
theorem ok22 (n : Nat) : OkAt Try.prog 22 (φTest n) := by
  refine ok_of (l := [(35, φwrong n), (39, φtst n)]) (.cons (ok35 n) (.cons (ok39 (ok36 n)) .nil)) fn22 fun args r h => ?_
  unfold φTest at h
  split at h
  · rename_i e s
    split at h
    · rename_i hv
      obtain ⟨hs, he⟩ := hv
      injection h with h; subst h
      refine ⟨by simp, by simp [tupB, D.cl, D.clL], fun H T => ?_⟩
      have es := isS_erase hs
      have ee := isE_erase he
      obtain ⟨c1, c2, c3, c4⟩ := isS_cells hs
      obtain ⟨d1, d2, d3, d4⟩ := isE_cells he
      have p : φwrong n [e, s] = some (.int .i64 (wrongI n e s)) := by simp only [φwrong]; rw [if_pos ⟨hs, he⟩]
      unfold testI
      cases hw : (wrongI n e s != 0) with
      | true => simp (config := { contextual := true, maxSteps := 10000000 }) only [c22, es, ee, c1, c2, c3, c4, d1, d2, d3, d4, p, hw, tupB, go_sem, Nat.reduceAdd, Nat.reduceSub, Nat.reduceMul, Nat.reduceEqDiff, Nat.reduceLeDiff, Nat.reduceLT, Int.reduceToNat, Int.reduceLE, Int.reduceLT, Int.reduceEq, Int.reduceNe, Int.reduceBEq, Int.reduceBNe, Nat.reduceBEq, Nat.reduceBNe, ↓reduceIte, reduceCtorEq, ↓reduceDIte, W_draw]
      | false =>
        have hf := fmD_fmA (wrong_fm hw)
        have p2 : φtst n [s, e] = some (tupB (tstV (evI n s e))) := by simp only [φtst]; rw [if_pos ⟨hs, he, hf⟩]
        simp only [tupB] at p2
        simp (config := { contextual := true, maxSteps := 10000000 }) only [c22, es, ee, c1, c2, c3, c4, d1, d2, d3, d4, p, p2, hw, tupB, go_sem, Nat.reduceAdd, Nat.reduceSub, Nat.reduceMul, Nat.reduceEqDiff, Nat.reduceLeDiff, Nat.reduceLT, Int.reduceToNat, Int.reduceLE, Int.reduceLT, Int.reduceEq, Int.reduceNe, Int.reduceBEq, Int.reduceBNe, Nat.reduceBEq, Nat.reduceBNe, ↓reduceIte, reduceCtorEq, ↓reduceDIte, W_draw]
    · cases h
  · cases h
end GP
