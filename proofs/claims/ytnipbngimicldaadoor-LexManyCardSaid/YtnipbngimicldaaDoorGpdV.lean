import Derived.Test.YtnipbngimicldaaDoorGpdW
set_option linter.unusedSimpArgs false
/- The reference's lexing is the program's. -/
namespace GP
open Go Go.Proofs
set_option maxRecDepth 100000

theorem betw_blank {l : List UInt8} {a : Nat} {b : UInt8} (h : l[a]? = some b) (hb : (b == 32 || b == 10) = true) : betw l a = betw l (a + 1) := by
  unfold betw; rw [drop_at h]; simp only [gapL]; rw [if_pos hb]; omega
theorem betw_note {l : List UInt8} {a : Nat} {b : UInt8} (h : l[a]? = some b) (hb : (b == 35) = true) : betw l a = betw l (a + runN pNote l a) := by
  have hb : b = 35 := by simpa using hb
  subst hb
  have hnote : pNote (((35 : UInt8).toNat : Int)) = true := by decide
  have dr := drop_at h
  have hrun : runN pNote l a = 1 + runL pNote (l.drop (a + 1)) := by
    unfold runN runL; rw [dr]; simp only [List.takeWhile_cons, hnote, if_true, List.length_cons]; omega
  unfold betw
  rw [dr]
  have : gapL false (35 :: l.drop (a + 1)) = 1 + gapL true (l.drop (a + 1)) := rfl
  rw [this, gap_note, List.drop_drop, hrun, show a + 1 + runL pNote (l.drop (a + 1)) = a + (1 + runL pNote (l.drop (a + 1))) from by omega]
  omega
theorem betw_tok {l : List UInt8} {a : Nat} {b : UInt8} (h : l[a]? = some b) (h1 : (b == 32) = false) (h2 : (b == 10) = false) (h3 : (b == 35) = false) : betw l a = a := by
  unfold betw; rw [drop_at h]; simp only [gapL, h1, h2, h3, Bool.or_self, Bool.false_eq_true, if_false]; rfl
theorem betw_end {l : List UInt8} {a : Nat} (h : l.length ≤ a) : betw l a = a := by
  unfold betw; rw [List.drop_eq_nil_of_le h]; rfl
set_option maxHeartbeats 16000000 in
theorem ok14 : OkAt Tryd.prog 14 φlex := by
  refine ok_of (l := [(23, φlen), (24, φone)]) (.cons ok23 (.cons ok24 .nil)) fn14 fun args r h => ?_
  unfold φlex at h
  split at h
  · rename_i l
    split at h
    · rename_i hl
      injection h with h; subst h
      refine ⟨by simp, tupL_cl (lexP_T l), fun H T => ?_⟩
      unfold lexP
      rcases tf (decide (4096 < l.length)) with g | g
      · rw [if_pos g]
        have g' : decide ((4096 : Int) < l.length) = true := by simp only [decide_eq_true_eq] at g ⊢; omega
        simp (config := { contextual := true, maxSteps := 10000000 }) only [c14, g', tupL, go_sem, Nat.reduceAdd, Nat.reduceSub, Nat.reduceMul, Nat.reduceEqDiff, Nat.reduceLeDiff, Nat.reduceLT, Int.reduceToNat, Int.reduceLE, Int.reduceLT, Int.reduceEq, Int.reduceNe, Int.reduceBEq, Int.reduceBNe, Nat.reduceBEq, Nat.reduceBNe, ↓reduceIte, reduceCtorEq, ↓reduceDIte, W_draw]
        rfl
      rw [if_neg (by rw [g]; decide)]
      have g' : decide ((4096 : Int) < l.length) = false := by simp only [decide_eq_false_iff_not] at g ⊢; omega
      simp (config := { contextual := true, maxSteps := 10000000 }) only [c14, g', go_sem, Nat.reduceAdd, Nat.reduceSub, Nat.reduceMul, Nat.reduceEqDiff, Nat.reduceLeDiff, Nat.reduceLT, Int.reduceToNat, Int.reduceLE, Int.reduceLT, Int.reduceEq, Int.reduceNe, Int.reduceBEq, Int.reduceBNe, Nat.reduceBEq, Nat.reduceBNe, ↓reduceIte, reduceCtorEq, ↓reduceDIte, W_draw]
      refine W_for (fun i s' => s'.t 0 = .str l ∧ Ext H s'.H ∧ ∃ (a f : Nat) (out : List D), s'.t 6 = .int .i64 (a : Int) ∧ i ≤ a ∧ a ≤ l.length ∧ l.length < betw l a + f ∧ out.length ≤ 600 ∧ (∀ x ∈ out, isTok x) ∧ accW 3 T out (s'.t 5) s'.T ∧ lexF f l (betw l a) out = lexF (l.length + 1) l (betw l 0) []) l.length ⟨0, rfl, Ext.refl H, 0, l.length + 1, [], rfl, by omega, by omega, by omega, by simp, by simp, .inl ⟨rfl, rfl, rfl⟩, rfl⟩ (fun i s h => by obtain ⟨_, _, a, f, out, h⟩ := h; omega) ?_ (XL_mono _)
      rintro i ⟨t, B, T'⟩ ⟨r0, hE, a, f, out, r6, h1, h2, h3, h4, hT, hA, hS⟩
      simp only at r0 hE r6 hA
      have hX := accW_ext hA
      have hlen := accW_len hA
      have her := accW_erase hA (toks_erase hT)
      by_cases hlt : a < l.length
      · have d1 : decide ((a : Int) < l.length) = true := by simp only [decide_eq_true_eq]; omega
        have ex : l[a]? = some l[a] := by simp [hlt]
        obtain ⟨b, hb⟩ : ∃ b, l[a] = b := ⟨_, rfl⟩
        rw [hb] at ex
        have ix := fun q => ixs_at ex q
        have e1 : ((b.toNat : Int) == 32) = (b == 32) := u8_eq b 32 (by decide)
        have e2 : ((b.toNat : Int) == 10) = (b == 10) := u8_eq b 10 (by decide)
        have e3 : ((b.toNat : Int) == 35) = (b == 35) := u8_eq b 35 (by decide)
        rcases tf (b == 32) with g1 | g1
        · have hB := betw_blank ex (by rw [g1]; rfl)
          rw [hB] at h3 hS
          simp (config := { contextual := true, maxSteps := 10000000 }) only [r0, r6, d1, ix, e1, g1, wrap_su a (by omega), hE.t, go_sem, Nat.reduceAdd, Nat.reduceSub, Nat.reduceMul, Nat.reduceEqDiff, Nat.reduceLeDiff, Nat.reduceLT, Int.reduceToNat, Int.reduceLE, Int.reduceLT, Int.reduceEq, Int.reduceNe, Int.reduceBEq, Int.reduceBNe, Nat.reduceBEq, Nat.reduceBNe, ↓reduceIte, reduceCtorEq, ↓reduceDIte, W_draw]
          exact ⟨a + 1, f, out, rfl, by omega, by omega, h3, h4, hT, hA, hS⟩
        rcases tf (b == 10) with g2 | g2
        · have hB := betw_blank ex (by rw [g1, g2]; rfl)
          rw [hB] at h3 hS
          simp (config := { contextual := true, maxSteps := 10000000 }) only [r0, r6, d1, ix, e1, e2, g1, g2, wrap_su a (by omega), hE.t, go_sem, Nat.reduceAdd, Nat.reduceSub, Nat.reduceMul, Nat.reduceEqDiff, Nat.reduceLeDiff, Nat.reduceLT, Int.reduceToNat, Int.reduceLE, Int.reduceLT, Int.reduceEq, Int.reduceNe, Int.reduceBEq, Int.reduceBNe, Nat.reduceBEq, Nat.reduceBNe, ↓reduceIte, reduceCtorEq, ↓reduceDIte, W_draw]
          exact ⟨a + 1, f, out, rfl, by omega, by omega, h3, h4, hT, hA, hS⟩
        rcases tf (b == 35) with g3 | g3
        · have hB := betw_note ex g3
          rw [hB] at h3 hS
          have hpos : 0 < runN pNote l a := by
            have : b = 35 := by simpa using g3
            subst this
            unfold runN; rw [run_step ex, if_pos (by decide)]; omega
          simp (config := { contextual := true, maxSteps := 10000000 }) only [r0, r6, d1, ix, e1, e2, e3, g1, g2, g3, go_sem, Nat.reduceAdd, Nat.reduceSub, Nat.reduceMul, Nat.reduceEqDiff, Nat.reduceLeDiff, Nat.reduceLT, Int.reduceToNat, Int.reduceLE, Int.reduceLT, Int.reduceEq, Int.reduceNe, Int.reduceBEq, Int.reduceBNe, Nat.reduceBEq, Nat.reduceBNe, ↓reduceIte, reduceCtorEq, ↓reduceDIte, W_draw]
          refine W_for (fun j s' => s'.t 0 = .str l ∧ s'.t 5 = t 5 ∧ s'.H = B ∧ s'.T = T' ∧ ∃ k : Nat, s'.t 6 = .int .i64 (k : Nat) ∧ a + j ≤ k ∧ k ≤ l.length ∧ k + runL pNote (l.drop k) = a + runN pNote l a) l.length ⟨0, by simp [upd, r0], by simp [upd], rfl, rfl, a, by simp [upd, r6], by omega, by omega, rfl⟩ (fun i s h => by obtain ⟨_, _, _, _, k, h⟩ := h; omega) ?_ (XL_mono _)
          rintro j ⟨t2, B2, T2⟩ ⟨s0, s5, rfl, rfl, k, s6, k1, k2, k3⟩
          simp only at s0 s5 s6
          by_cases hk : k < l.length
          · have f1 : decide ((k : Int) < l.length) = true := by simp only [decide_eq_true_eq]; omega
            have ex2 : l[k]? = some l[k] := by simp [hk]
            obtain ⟨b2, hb2⟩ : ∃ b, l[k] = b := ⟨_, rfl⟩
            rw [hb2] at ex2
            have ix2 := fun q => ixs_at ex2 q
            have rs := run_step (p := pNote) ex2
            have pn : pNote (b2.toNat : Int) = ((b2.toNat : Int) != 10) := rfl
            rcases tf ((b2.toNat : Int) != 10) with g4 | g4
            · have nx : (k + 1) + runL pNote (l.drop (k + 1)) = a + runN pNote l a := by rw [← k3, rs, pn, g4, if_pos rfl]; omega
              simp (config := { contextual := true, maxSteps := 10000000 }) only [s0, s5, s6, f1, ix2, g4, wrap_su k (by omega), go_sem, Nat.reduceAdd, Nat.reduceSub, Nat.reduceMul, Nat.reduceEqDiff, Nat.reduceLeDiff, Nat.reduceLT, Int.reduceToNat, Int.reduceLE, Int.reduceLT, Int.reduceEq, Int.reduceNe, Int.reduceBEq, Int.reduceBNe, Nat.reduceBEq, Nat.reduceBNe, ↓reduceIte, reduceCtorEq, ↓reduceDIte, W_draw]
              exact ⟨k + 1, rfl, by omega, by omega, nx⟩
            · rw [rs, pn, g4, if_neg (by decide)] at k3
              have ek : a + runN pNote l a = k := by omega
              rw [ek] at h3 hS
              simp (config := { contextual := true, maxSteps := 10000000 }) only [s0, s5, s6, f1, ix2, g4, hE.t, go_sem, Nat.reduceAdd, Nat.reduceSub, Nat.reduceMul, Nat.reduceEqDiff, Nat.reduceLeDiff, Nat.reduceLT, Int.reduceToNat, Int.reduceLE, Int.reduceLT, Int.reduceEq, Int.reduceNe, Int.reduceBEq, Int.reduceBNe, Nat.reduceBEq, Nat.reduceBNe, ↓reduceIte, reduceCtorEq, ↓reduceDIte, W_draw]
              exact ⟨k, f, out, rfl, by omega, by omega, h3, h4, hT, hA, hS⟩
          · have f1 : decide ((k : Int) < l.length) = false := by simp only [decide_eq_false_iff_not]; omega
            rw [run_end (by omega)] at k3
            have ek : a + runN pNote l a = k := by omega
            rw [ek] at h3 hS
            simp (config := { contextual := true, maxSteps := 10000000 }) only [s0, s5, s6, f1, hE.t, go_sem, Nat.reduceAdd, Nat.reduceSub, Nat.reduceMul, Nat.reduceEqDiff, Nat.reduceLeDiff, Nat.reduceLT, Int.reduceToNat, Int.reduceLE, Int.reduceLT, Int.reduceEq, Int.reduceNe, Int.reduceBEq, Int.reduceBNe, Nat.reduceBEq, Nat.reduceBNe, ↓reduceIte, reduceCtorEq, ↓reduceDIte, W_draw]
            exact ⟨k, f, out, rfl, by omega, by omega, h3, h4, hT, hA, hS⟩
        have hB := betw_tok ex g1 g2 g3
        rw [hB] at h3 hS
        rw [← hS]
        cases f with
        | zero => exfalso; omega
        | succ f =>
        rw [lexF_succ] at hS ⊢
        have d0 : decide (l.length ≤ a) = false := by simp only [decide_eq_false_iff_not]; omega
        rw [if_neg (by rw [d0]; decide)] at hS ⊢
        have hag : agree (l.drop a) := by rw [drop_at ex]; exact agree_all _ _
        have hle : lenR (l.drop a) ≤ (l.drop a).length := by rw [drop_at ex]; exact lenR_le _ _
        have hdl : (l.drop a).length = l.length - a := by simp
        unfold agree at hag
        rw [tokP_Q hlt] at hS ⊢
        have ps : sub (some (a : Int)) (some (l.length : Int)) (.str l) = some (.str (l.drop a)) := by
          rw [sub_s, if_pos ⟨by omega, by omega, by omega⟩]; simp [subList]
        have pl : φlen [.str (l.drop a)] = some (.int .i64 (lenR (l.drop a) : Nat)) := by
          simp only [φlen]; rw [if_pos ⟨by omega, by omega⟩]
        have po : φone [.str ((l.drop a).take (lenR (l.drop a)))] = some (tupO (oneR ((l.drop a).take (lenR (l.drop a))))) := by
          simp only [φone]; rw [if_pos (by simp; omega)]
        have hTo := oneR_T ((l.drop a).take (lenR (l.drop a)))
        have hTq := tokP_T l a
        rw [tokP_Q hlt] at hTq
        have ps2 : sub (some (a : Int)) (some ((a + lenR (l.drop a) : Nat) : Int)) (.str l) = some (.str ((l.drop a).take (lenR (l.drop a)))) := by
          rw [sub_s, if_pos ⟨by omega, by omega, by omega⟩, show (((a + lenR (l.drop a) : Nat) : Int)).toNat = a + lenR (l.drop a) from by omega, show ((a : Int)).toNat = a from by omega, sub_drop]
        obtain ⟨n, hn⟩ : ∃ n, lenR (l.drop a) = n := ⟨_, rfl⟩
        rw [hn] at pl po hTo ps2 hag hle
        obtain ⟨X, hX'⟩ : ∃ X, (l.drop a).take n = X := ⟨_, rfl⟩
        rw [hX'] at po hTo ps2 hag
        obtain ⟨⟨tk, ob⟩, ho⟩ : ∃ z, oneR X = z := ⟨_, rfl⟩
        rw [ho] at po hTo hag
        obtain ⟨k, s, m, rfl⟩ := hTo
        simp only [tupO, mkT] at po
        have wS : IntKind.i64.wrap ((a : Int) + (n : Int)) = ((a + n : Nat) : Int) := by rw [wrap_in (by omega) (by omega)]; omega
        rcases tf ((((n : Nat) : Int) == 0) || !ob) with q | q
        · rw [if_pos q] at hag
          have hz : (((tokQ (l.drop a)).2 : Nat) : Int) = 0 := by rw [hag]; rfl
          rw [hz, if_pos (by decide)]
          rcases tf (((n : Nat) : Int) == 0) with q1 | q1
          · simp (config := { contextual := true, maxSteps := 10000000 }) only [r0, r6, d1, ix, e1, e2, e3, g1, g2, g3, ps, pl, wS, ps2, po, q1, leaves_Ea hE hX, tupL, go_sem, Nat.reduceAdd, Nat.reduceSub, Nat.reduceMul, Nat.reduceEqDiff, Nat.reduceLeDiff, Nat.reduceLT, Int.reduceToNat, Int.reduceLE, Int.reduceLT, Int.reduceEq, Int.reduceNe, Int.reduceBEq, Int.reduceBNe, Nat.reduceBEq, Nat.reduceBNe, ↓reduceIte, reduceCtorEq, ↓reduceDIte, W_draw]
            rfl
          · rw [q1] at q
            have q2 : ob = false := by simpa using q
            subst q2
            simp (config := { contextual := true, maxSteps := 10000000 }) only [r0, r6, d1, ix, e1, e2, e3, g1, g2, g3, ps, pl, wS, ps2, po, q1, leaves_Ea hE hX, tupL, go_sem, Nat.reduceAdd, Nat.reduceSub, Nat.reduceMul, Nat.reduceEqDiff, Nat.reduceLeDiff, Nat.reduceLT, Int.reduceToNat, Int.reduceLE, Int.reduceLT, Int.reduceEq, Int.reduceNe, Int.reduceBEq, Int.reduceBNe, Nat.reduceBEq, Nat.reduceBNe, ↓reduceIte, reduceCtorEq, ↓reduceDIte, W_draw]
            rfl
        · rw [if_neg (by rw [q]; decide)] at hag
          simp only [Bool.or_eq_false_iff] at q
          obtain ⟨q1, q2⟩ := q
          have q2 : ob = true := by simpa using q2
          subst q2
          rw [hag] at hS ⊢
          simp only at hS ⊢
          rw [if_neg (by rw [q1]; decide)] at hS ⊢
          have n0 : 0 < n := by
            rcases Nat.eq_zero_or_pos n with h | h
            · subst h; simp at q1
            · exact h
          rcases tf ((out.length : Int) == 600) with q3 | q3
          · rw [if_pos q3]
            simp (config := { contextual := true, maxSteps := 10000000 }) only [r0, r6, d1, ix, e1, e2, e3, g1, g2, g3, ps, pl, wS, ps2, po, q1, hlen, q3, leaves_Ea hE hX, tupL, go_sem, Nat.reduceAdd, Nat.reduceSub, Nat.reduceMul, Nat.reduceEqDiff, Nat.reduceLeDiff, Nat.reduceLT, Int.reduceToNat, Int.reduceLE, Int.reduceLT, Int.reduceEq, Int.reduceNe, Int.reduceBEq, Int.reduceBNe, Nat.reduceBEq, Nat.reduceBNe, ↓reduceIte, reduceCtorEq, ↓reduceDIte, W_draw]
            rfl
          rw [if_neg (by rw [q3]; decide)] at hS ⊢
          have n6 : out.length ≠ 600 := by
            intro h; rw [h] at q3; simp at q3
          have hb1 := betw_le (l := l) (a := a + n) (by omega)
          simp (config := { contextual := true, maxSteps := 10000000 }) only [r0, r6, d1, ix, e1, e2, e3, g1, g2, g3, ps, pl, wS, ps2, po, q1, hlen, q3, go_sem, Nat.reduceAdd, Nat.reduceSub, Nat.reduceMul, Nat.reduceEqDiff, Nat.reduceLeDiff, Nat.reduceLT, Int.reduceToNat, Int.reduceLE, Int.reduceLT, Int.reduceEq, Int.reduceNe, Int.reduceBEq, Int.reduceBNe, Nat.reduceBEq, Nat.reduceBNe, ↓reduceIte, reduceCtorEq, ↓reduceDIte, W_draw]
          refine app_accW (mkT k s m) hA rfl (toks_fit hT) (by omega) (by omega) fun d2 T2 hA2 => ?_
          simp (config := { contextual := true, maxSteps := 10000000 }) only [r0, r6, wS, hE.ta, go_sem, Nat.reduceAdd, Nat.reduceSub, Nat.reduceMul, Nat.reduceEqDiff, Nat.reduceLeDiff, Nat.reduceLT, Int.reduceToNat, Int.reduceLE, Int.reduceLT, Int.reduceEq, Int.reduceNe, Int.reduceBEq, Int.reduceBNe, Nat.reduceBEq, Nat.reduceBNe, ↓reduceIte, reduceCtorEq, ↓reduceDIte, W_draw]
          refine ⟨a + n, f, out ++ [mkT k s m], rfl, by omega, by omega, by omega, by simp; omega, ?_, hA2, ?_⟩
          · intro x hx
            rcases List.mem_append.1 hx with hx | hx
            · exact hT x hx
            · rw [List.mem_singleton] at hx; subst hx; exact ⟨_, _, _, rfl⟩
          · rfl
      · have d1 : decide ((a : Int) < l.length) = false := by simp only [decide_eq_false_iff_not]; omega
        have hB := betw_end (l := l) (a := a) (by omega)
        rw [hB] at h3 hS
        rw [← hS]
        cases f with
        | zero => exfalso; omega
        | succ f =>
        rw [lexF_succ]
        have d0 : decide (l.length ≤ a) = true := by simp only [decide_eq_true_eq]; omega
        rw [if_pos d0]
        simp (config := { contextual := true, maxSteps := 10000000 }) only [r0, r6, d1, leaves_E hE hX, her, tupL, go_sem, Nat.reduceAdd, Nat.reduceSub, Nat.reduceMul, Nat.reduceEqDiff, Nat.reduceLeDiff, Nat.reduceLT, Int.reduceToNat, Int.reduceLE, Int.reduceLT, Int.reduceEq, Int.reduceNe, Int.reduceBEq, Int.reduceBNe, Nat.reduceBEq, Nat.reduceBNe, ↓reduceIte, reduceCtorEq, ↓reduceDIte, W_draw]
    · cases h
  · cases h
end GP
