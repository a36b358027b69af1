import Derived.Test.YtnipbngimicldaaGpbE8
set_option linter.unusedSimpArgs false
namespace GP
open Go Go.Proofs
set_option maxRecDepth 100000

/-! ### Scenes that are looked at -/
def fewH (x : D) : Bool := !(big (fwho x)) && !(big (fname x)) && fewB [hV x] 1
def fewR (x : D) : Bool := !(big (strOf x))
def fewS (s : D) : Bool := ((sA s).take 30).all fewH && ((sR s).take 30).all fewR && decide (((sA s).length : Int) ≤ 20) && decide (((sR s).length : Int) ≤ 20)
open Classical in
noncomputable def φfewS : List D → Option D
  | [s] => if isS s then some (.bool (fewS s)) else none
  | _ => none
theorem no30 {p : D → Bool} {l : List D} {i : Nat} {x : D} (hx : l[i]? = some x) (hp : p x = false) (h : i < 30) : (l.take 30).all p = false := all_false_of hx hp h
theorem yes30 {p : D → Bool} {l : List D} {i : Nat} (h : (l.take i).all p = true) (hi : l.length ≤ i ∨ 30 ≤ i) : (l.take 30).all p = true := by
  refine List.all_eq_true.2 fun x hx => ?_
  rcases hi with hi | hi
  · rw [List.take_of_length_le hi] at h
    exact List.all_eq_true.1 h x (List.mem_of_mem_take hx)
  · have : l.take 30 = (l.take i).take 30 := by rw [List.take_take, Nat.min_eq_left hi]
    rw [this] at hx
    exact List.all_eq_true.1 h x (List.mem_of_mem_take hx)
set_option maxHeartbeats 4000000 in
theorem ok13 : OkAt Try.prog 13 φfewS := by
  refine ok_of (l := [(19, φFew)]) (.cons ok19 .nil) fn13 fun args r h => ?_
  unfold φfewS at h
  split at h
  · rename_i s
    split at h
    · rename_i hs
      injection h with h; subst h
      refine ⟨by simp, by simp [D.cl], fun H T => ?_⟩
      obtain ⟨now, R, A, rfl, n1, n2, hR, hA⟩ := hs
      have eR := isLs_erase (fun _ => isTx_erase) hR
      have eA := isLs_erase (fun _ => isH_erase) hA
      obtain ⟨nb, l, rfl, hl, hH⟩ := hA
      obtain ⟨nr, rs, rfl, hr, hT⟩ := hR
      simp only [fewS, sA_mk, sR_mk, elems_sliceD]
      simp (config := { contextual := true, maxSteps := 10000000 }) only [c13, mkS, eR, eA, go_sem, Nat.reduceAdd, Nat.reduceSub, Nat.reduceMul, Nat.reduceEqDiff, Nat.reduceLeDiff, Nat.reduceLT, Int.reduceToNat, Int.reduceLE, Int.reduceLT, Int.reduceEq, Int.reduceNe, Int.reduceBEq, Int.reduceBNe, Nat.reduceBEq, Nat.reduceBNe, ↓reduceIte, reduceCtorEq, ↓reduceDIte, W_draw]
      refine W_for (fun j s' => s'.t 1 = .ptr H.length 0 ∧ s'.t 3 = .int .i64 j ∧ s'.H = H ++ [.row [.int .i64 now, sliceD nr rs, sliceD nb l]] ∧ ExtT T s'.T ∧ j ≤ 30 ∧ (l.take j).all fewH = true) 30 ⟨0, by simp [upd, argT, extT_self, extT_of]⟩ (fun i s h => h.2.2.2.2.1) ?_ (XL_mono _)
      rintro j ⟨t, B, T'⟩ ⟨r1, r3, rfl, hK, hj, hc⟩
      simp only at r1 r3 hK
      by_cases ha : j < l.length ∧ j < 30
      · obtain ⟨ha, hb⟩ := ha
        have d1 : decide ((j : Int) < l.length) = true := by simpa using ha
        have d2 : decide ((j : Int) < 30) = true := by simp; omega
        have hx := hH _ (List.getElem_mem ha)
        have ex : l[j]? = some l[j] := by simp [ha]
        have nx := fun hp => all_nx (p := fewH) ex hc hp
        have no := fun hp => no30 (p := fewH) ex hp hb
        obtain ⟨who, name, k, i, s, nl, l', e, _, _, hv⟩ := hx
        rw [e] at ex nx no
        have G : fewH (mkH who name k i s nl l') = (!(decide ((200 : Int) < who.length)) && !(decide ((200 : Int) < name.length)) && fewB [mkV k i s nl l'] 1) := rfl
        rw [G] at nx no
        have pf := few_one hv
        obtain ⟨fb, hq⟩ : ∃ z, fewB [mkV k i s nl l'] 1 = z := ⟨_, rfl⟩
        simp only [hq] at pf nx no
        clear hq
        have eL := (mkV_erase hv.1).1
        simp only [mkV] at pf
        simp only [mkH] at ex
        cases g1 : decide ((200 : Int) < who.length) with
        | true =>
          have no := no (by rw [g1]; rfl)
          simp (config := { contextual := true, maxSteps := 10000000 }) only [r1, r3, d1, d2, ex, eL, g1, no, leaves_E (Ext.of H _) hK, hK.t, leaves_Et (Ext.of H _) hK, hK.ta, go_sem, Nat.reduceAdd, Nat.reduceSub, Nat.reduceMul, Nat.reduceEqDiff, Nat.reduceLeDiff, Nat.reduceLT, Int.reduceToNat, Int.reduceLE, Int.reduceLT, Int.reduceEq, Int.reduceNe, Int.reduceBEq, Int.reduceBNe, Nat.reduceBEq, Nat.reduceBNe, ↓reduceIte, reduceCtorEq, ↓reduceDIte, W_draw]
        | false =>
        cases g2 : decide ((200 : Int) < name.length) with
        | true =>
          have no := no (by rw [g1, g2]; rfl)
          simp (config := { contextual := true, maxSteps := 10000000 }) only [r1, r3, d1, d2, ex, eL, g1, g2, no, leaves_E (Ext.of H _) hK, hK.t, leaves_Et (Ext.of H _) hK, hK.ta, go_sem, Nat.reduceAdd, Nat.reduceSub, Nat.reduceMul, Nat.reduceEqDiff, Nat.reduceLeDiff, Nat.reduceLT, Int.reduceToNat, Int.reduceLE, Int.reduceLT, Int.reduceEq, Int.reduceNe, Int.reduceBEq, Int.reduceBNe, Nat.reduceBEq, Nat.reduceBNe, ↓reduceIte, reduceCtorEq, ↓reduceDIte, W_draw]
        | false =>
        cases fb with
        | false =>
          have no := no (by rw [g1, g2]; rfl)
          simp (config := { contextual := true, maxSteps := 10000000 }) only [r1, r3, d1, d2, ex, eL, g1, g2, pf, no, leaves_E (Ext.of H _) hK, hK.t, leaves_Et (Ext.of H _) hK, hK.ta, go_sem, Nat.reduceAdd, Nat.reduceSub, Nat.reduceMul, Nat.reduceEqDiff, Nat.reduceLeDiff, Nat.reduceLT, Int.reduceToNat, Int.reduceLE, Int.reduceLT, Int.reduceEq, Int.reduceNe, Int.reduceBEq, Int.reduceBNe, Nat.reduceBEq, Nat.reduceBNe, ↓reduceIte, reduceCtorEq, ↓reduceDIte, W_draw]
        | true =>
          have nx := nx (by rw [g1, g2]; rfl)
          simp (config := { contextual := true, maxSteps := 10000000 }) only [r1, r3, d1, d2, ex, eL, g1, g2, pf, leaves_E (Ext.of H _) hK, hK.t, leaves_Et (Ext.of H _) hK, hK.ta, wrap_succ j (by omega), go_sem, Nat.reduceAdd, Nat.reduceSub, Nat.reduceMul, Nat.reduceEqDiff, Nat.reduceLeDiff, Nat.reduceLT, Int.reduceToNat, Int.reduceLE, Int.reduceLT, Int.reduceEq, Int.reduceNe, Int.reduceBEq, Int.reduceBNe, Nat.reduceBEq, Nat.reduceBNe, ↓reduceIte, reduceCtorEq, ↓reduceDIte, W_draw]
          exact ⟨by omega, nx⟩
      · have hA := yes30 (p := fewH) hc (by omega)
        have fin : ∀ t' : Nat → D, t' 1 = .ptr H.length 0 → t' 3 = .int .i64 j → True := fun _ _ _ => trivial
        have dd : decide ((j : Int) < l.length) = false ∨ (decide ((j : Int) < l.length) = true ∧ decide ((j : Int) < 30) = false) := by
          by_cases hx : j < l.length
          · exact .inr ⟨by simpa using hx, by simp; omega⟩
          · exact .inl (by simpa using hx)
        rw [hA]
        rcases dd with d1 | ⟨d1, d2⟩
        · simp (config := { contextual := true, maxSteps := 10000000 }) only [r1, r3, d1, hK.t, go_sem, Nat.reduceAdd, Nat.reduceSub, Nat.reduceMul, Nat.reduceEqDiff, Nat.reduceLeDiff, Nat.reduceLT, Int.reduceToNat, Int.reduceLE, Int.reduceLT, Int.reduceEq, Int.reduceNe, Int.reduceBEq, Int.reduceBNe, Nat.reduceBEq, Nat.reduceBNe, ↓reduceIte, reduceCtorEq, ↓reduceDIte, W_draw]
          refine W_for (fun i s' => s'.t 1 = .ptr H.length 0 ∧ s'.t 4 = .int .i64 i ∧ s'.H = H ++ [.row [.int .i64 now, sliceD nr rs, sliceD nb l]] ∧ ExtT T s'.T ∧ i ≤ 30 ∧ (rs.take i).all fewR = true) 30 ⟨0, by simp [upd, r1, hK.t]⟩ (fun i s h => h.2.2.2.2.1) ?_ (XL_mono _)
          rintro i ⟨t, B, T'⟩ ⟨r1, r4, rfl, hK, hi, hc⟩
          simp only at r1 r4 hK
          by_cases ha : i < rs.length ∧ i < 30
          · obtain ⟨ha, hb⟩ := ha
            have d1 : decide ((i : Int) < rs.length) = true := by simpa using ha
            have d2 : decide ((i : Int) < 30) = true := by simp; omega
            have hx := hT _ (List.getElem_mem ha)
            have ex : rs[i]? = some rs[i] := by simp [ha]
            have nx := fun hp => all_nx (p := fewR) ex hc hp
            have no := fun hp => no30 (p := fewR) ex hp hb
            obtain ⟨w, e, _⟩ := hx
            rw [e] at ex nx no
            have G : fewR (.str w) = (!(decide ((200 : Int) < w.length))) := rfl
            rw [G] at nx no
            cases g1 : decide ((200 : Int) < w.length) with
            | true =>
              have no := no (by rw [g1]; rfl)
              simp (config := { contextual := true, maxSteps := 10000000 }) only [r1, r4, d1, d2, ex, g1, no, leaves_E (Ext.of H _) hK, hK.t, go_sem, Nat.reduceAdd, Nat.reduceSub, Nat.reduceMul, Nat.reduceEqDiff, Nat.reduceLeDiff, Nat.reduceLT, Int.reduceToNat, Int.reduceLE, Int.reduceLT, Int.reduceEq, Int.reduceNe, Int.reduceBEq, Int.reduceBNe, Nat.reduceBEq, Nat.reduceBNe, ↓reduceIte, reduceCtorEq, ↓reduceDIte, W_draw]
            | false =>
              have nx := nx (by rw [g1]; rfl)
              simp (config := { contextual := true, maxSteps := 10000000 }) only [r1, r4, d1, d2, ex, g1, hK.t, wrap_succ i (by omega), go_sem, Nat.reduceAdd, Nat.reduceSub, Nat.reduceMul, Nat.reduceEqDiff, Nat.reduceLeDiff, Nat.reduceLT, Int.reduceToNat, Int.reduceLE, Int.reduceLT, Int.reduceEq, Int.reduceNe, Int.reduceBEq, Int.reduceBNe, Nat.reduceBEq, Nat.reduceBNe, ↓reduceIte, reduceCtorEq, ↓reduceDIte, W_draw]
              exact ⟨by omega, nx⟩
          · have hB := yes30 (p := fewR) hc (by omega)
            have dd : decide ((i : Int) < rs.length) = false ∨ (decide ((i : Int) < rs.length) = true ∧ decide ((i : Int) < 30) = false) := by
              by_cases hx : i < rs.length
              · exact .inr ⟨by simpa using hx, by simp; omega⟩
              · exact .inl (by simpa using hx)
            rw [hB]
            rcases dd with d1 | ⟨d1, d2⟩
            · simp (config := { contextual := true, maxSteps := 10000000 }) only [r1, r4, d1, leaves_E (Ext.of H _) hK, go_sem, Nat.reduceAdd, Nat.reduceSub, Nat.reduceMul, Nat.reduceEqDiff, Nat.reduceLeDiff, Nat.reduceLT, Int.reduceToNat, Int.reduceLE, Int.reduceLT, Int.reduceEq, Int.reduceNe, Int.reduceBEq, Int.reduceBNe, Nat.reduceBEq, Nat.reduceBNe, ↓reduceIte, reduceCtorEq, ↓reduceDIte, W_draw]
              (all_goals ((repeat' (first | apply And.intro | intro _)) <;> (first | rfl | omega | (simp_all; done) | grind)))
            · simp (config := { contextual := true, maxSteps := 10000000 }) only [r1, r4, d1, d2, leaves_E (Ext.of H _) hK, go_sem, Nat.reduceAdd, Nat.reduceSub, Nat.reduceMul, Nat.reduceEqDiff, Nat.reduceLeDiff, Nat.reduceLT, Int.reduceToNat, Int.reduceLE, Int.reduceLT, Int.reduceEq, Int.reduceNe, Int.reduceBEq, Int.reduceBNe, Nat.reduceBEq, Nat.reduceBNe, ↓reduceIte, reduceCtorEq, ↓reduceDIte, W_draw]
              (all_goals ((repeat' (first | apply And.intro | intro _)) <;> (first | rfl | omega | (simp_all; done) | grind)))
        · simp (config := { contextual := true, maxSteps := 10000000 }) only [r1, r3, d1, d2, hK.t, go_sem, Nat.reduceAdd, Nat.reduceSub, Nat.reduceMul, Nat.reduceEqDiff, Nat.reduceLeDiff, Nat.reduceLT, Int.reduceToNat, Int.reduceLE, Int.reduceLT, Int.reduceEq, Int.reduceNe, Int.reduceBEq, Int.reduceBNe, Nat.reduceBEq, Nat.reduceBNe, ↓reduceIte, reduceCtorEq, ↓reduceDIte, W_draw]
          refine W_for (fun i s' => s'.t 1 = .ptr H.length 0 ∧ s'.t 4 = .int .i64 i ∧ s'.H = H ++ [.row [.int .i64 now, sliceD nr rs, sliceD nb l]] ∧ ExtT T s'.T ∧ i ≤ 30 ∧ (rs.take i).all fewR = true) 30 ⟨0, by simp [upd, r1, hK.t]⟩ (fun i s h => h.2.2.2.2.1) ?_ (XL_mono _)
          rintro i ⟨t, B, T'⟩ ⟨r1, r4, rfl, hK, hi, hc⟩
          simp only at r1 r4 hK
          by_cases ha : i < rs.length ∧ i < 30
          · obtain ⟨ha, hb⟩ := ha
            have d1 : decide ((i : Int) < rs.length) = true := by simpa using ha
            have d2 : decide ((i : Int) < 30) = true := by simp; omega
            have hx := hT _ (List.getElem_mem ha)
            have ex : rs[i]? = some rs[i] := by simp [ha]
            have nx := fun hp => all_nx (p := fewR) ex hc hp
            have no := fun hp => no30 (p := fewR) ex hp hb
            obtain ⟨w, e, _⟩ := hx
            rw [e] at ex nx no
            have G : fewR (.str w) = (!(decide ((200 : Int) < w.length))) := rfl
            rw [G] at nx no
            cases g1 : decide ((200 : Int) < w.length) with
            | true =>
              have no := no (by rw [g1]; rfl)
              simp (config := { contextual := true, maxSteps := 10000000 }) only [r1, r4, d1, d2, ex, g1, no, leaves_E (Ext.of H _) hK, hK.t, go_sem, Nat.reduceAdd, Nat.reduceSub, Nat.reduceMul, Nat.reduceEqDiff, Nat.reduceLeDiff, Nat.reduceLT, Int.reduceToNat, Int.reduceLE, Int.reduceLT, Int.reduceEq, Int.reduceNe, Int.reduceBEq, Int.reduceBNe, Nat.reduceBEq, Nat.reduceBNe, ↓reduceIte, reduceCtorEq, ↓reduceDIte, W_draw]
            | false =>
              have nx := nx (by rw [g1]; rfl)
              simp (config := { contextual := true, maxSteps := 10000000 }) only [r1, r4, d1, d2, ex, g1, hK.t, wrap_succ i (by omega), go_sem, Nat.reduceAdd, Nat.reduceSub, Nat.reduceMul, Nat.reduceEqDiff, Nat.reduceLeDiff, Nat.reduceLT, Int.reduceToNat, Int.reduceLE, Int.reduceLT, Int.reduceEq, Int.reduceNe, Int.reduceBEq, Int.reduceBNe, Nat.reduceBEq, Nat.reduceBNe, ↓reduceIte, reduceCtorEq, ↓reduceDIte, W_draw]
              exact ⟨by omega, nx⟩
          · have hB := yes30 (p := fewR) hc (by omega)
            have dd : decide ((i : Int) < rs.length) = false ∨ (decide ((i : Int) < rs.length) = true ∧ decide ((i : Int) < 30) = false) := by
              by_cases hx : i < rs.length
              · exact .inr ⟨by simpa using hx, by simp; omega⟩
              · exact .inl (by simpa using hx)
            rw [hB]
            rcases dd with d1 | ⟨d1, d2⟩
            · simp (config := { contextual := true, maxSteps := 10000000 }) only [r1, r4, d1, leaves_E (Ext.of H _) hK, go_sem, Nat.reduceAdd, Nat.reduceSub, Nat.reduceMul, Nat.reduceEqDiff, Nat.reduceLeDiff, Nat.reduceLT, Int.reduceToNat, Int.reduceLE, Int.reduceLT, Int.reduceEq, Int.reduceNe, Int.reduceBEq, Int.reduceBNe, Nat.reduceBEq, Nat.reduceBNe, ↓reduceIte, reduceCtorEq, ↓reduceDIte, W_draw]
              (all_goals ((repeat' (first | apply And.intro | intro _)) <;> (first | rfl | omega | (simp_all; done) | grind)))
            · simp (config := { contextual := true, maxSteps := 10000000 }) only [r1, r4, d1, d2, leaves_E (Ext.of H _) hK, go_sem, Nat.reduceAdd, Nat.reduceSub, Nat.reduceMul, Nat.reduceEqDiff, Nat.reduceLeDiff, Nat.reduceLT, Int.reduceToNat, Int.reduceLE, Int.reduceLT, Int.reduceEq, Int.reduceNe, Int.reduceBEq, Int.reduceBNe, Nat.reduceBEq, Nat.reduceBNe, ↓reduceIte, reduceCtorEq, ↓reduceDIte, W_draw]
              (all_goals ((repeat' (first | apply And.intro | intro _)) <;> (first | rfl | omega | (simp_all; done) | grind)))
    · cases h
  · cases h

/-! ### Expressions of parts -/
def sing (op : List UInt8) (a : D) : D := mkE op 0 0 [] true [] [] [] false [a]
def doub (op : List UInt8) (a b : D) : D := mkE op 0 0 [] true [] [] [] false [a, b]
theorem isE_sing {n : Nat} {op : List UInt8} {a : D} (ho : op.length ≤ 2 ^ 47) (ha : isE n a) : isE (n + 1) (sing op a) :=
  ⟨_, _, _, _, _, _, _, _, _, _, rfl, ho, by simp, by simp, isVr_zero, by simp, by simpa using ha⟩
theorem isE_doub {n : Nat} {op : List UInt8} {a b : D} (ho : op.length ≤ 2 ^ 47) (ha : isE n a) (hb : isE n b) : isE (n + 1) (doub op a b) :=
  ⟨_, _, _, _, _, _, _, _, _, _, rfl, ho, by simp, by simp, isVr_zero, by simp, by simp [ha, hb]⟩
theorem isE_cl : ∀ {n : Nat} {d : D}, isE n d → d.cl 0 0 = true
  | 0, _, h => h.elim
  | n + 1, d, ⟨op, k, i, s, nl, l, who, name, m, ps, e, h1, h2, h3, h4, h5, h6⟩ => by
    subst e
    have c := isVr_cl h4
    have cp : D.clL 0 0 ps = true := clL_of fun x hx => isE_cl (h6 x hx)
    have cs : (sliceD m ps).cl 0 0 = true := by
      unfold sliceD; split
      · simp [D.cl]
      · simp [D.cl, cp]
    simp only [mkV, D.cl, D.clL, Bool.true_and, Bool.and_true] at c
    simp [mkE, D.cl, D.clL, c, cs]
open Classical in
noncomputable def φsing : List D → Option D
  | [.str op, a] => if op.length ≤ 2 ^ 47 ∧ ∃ n, isE n a then some (sing op a) else none
  | _ => none
open Classical in
noncomputable def φdoub : List D → Option D
  | [.str op, a, b] => if op.length ≤ 2 ^ 47 ∧ ∃ n, isE n a ∧ isE n b then some (doub op a b) else none
  | _ => none
theorem ok28 : OkAt Try.prog 28 φsing := by
  refine ok_of (l := []) .nil fn28 fun args r h => ?_
  unfold φsing at h
  split at h
  · rename_i op a
    split at h
    · rename_i hv
      obtain ⟨ho, n, ha⟩ := hv
      injection h with h; subst h
      refine ⟨by simp, isE_cl (isE_sing ho ha), fun H T => ?_⟩
      have ea := isE_erase ha
      obtain ⟨a1, a2, a3, a4⟩ := isE_cells ha
      simp (config := { contextual := true, maxSteps := 10000000 }) only [c28, sing, mkE, sliceD, ea, a1, a2, a3, a4, go_sem, Nat.reduceAdd, Nat.reduceSub, Nat.reduceMul, Nat.reduceEqDiff, Nat.reduceLeDiff, Nat.reduceLT, Int.reduceToNat, Int.reduceLE, Int.reduceLT, Int.reduceEq, Int.reduceNe, Int.reduceBEq, Int.reduceBNe, Nat.reduceBEq, Nat.reduceBNe, ↓reduceIte, reduceCtorEq, ↓reduceDIte, W_draw]
    · cases h
  · cases h
theorem ok29 : OkAt Try.prog 29 φdoub := by
  refine ok_of (l := []) .nil fn29 fun args r h => ?_
  unfold φdoub at h
  split at h
  · rename_i op a b
    split at h
    · rename_i hv
      obtain ⟨ho, n, ha, hb⟩ := hv
      injection h with h; subst h
      refine ⟨by simp, isE_cl (isE_doub ho ha hb), fun H T => ?_⟩
      have ea := isE_erase ha
      obtain ⟨a1, a2, a3, a4⟩ := isE_cells ha
      have eb := isE_erase hb
      obtain ⟨b1, b2, b3, b4⟩ := isE_cells hb
      simp (config := { contextual := true, maxSteps := 10000000 }) only [c29, doub, mkE, sliceD, ea, a1, a2, a3, a4, eb, b1, b2, b3, b4, go_sem, Nat.reduceAdd, Nat.reduceSub, Nat.reduceMul, Nat.reduceEqDiff, Nat.reduceLeDiff, Nat.reduceLT, Int.reduceToNat, Int.reduceLE, Int.reduceLT, Int.reduceEq, Int.reduceNe, Int.reduceBEq, Int.reduceBNe, Nat.reduceBEq, Nat.reduceBNe, ↓reduceIte, reduceCtorEq, ↓reduceDIte, W_draw]
    · cases h
  · cases h
end GP
