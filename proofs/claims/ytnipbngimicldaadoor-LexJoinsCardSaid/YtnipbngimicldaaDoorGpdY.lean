import Derived.Test.YtnipbngimicldaaDoorGpdJ
set_option linter.unusedSimpArgs false
/- LexGaps. -/
namespace GP
open Go Go.Proofs
set_option maxRecDepth 100000

theorem isU8_erase {d : D} (h : isU8 d) : d.erase = d := by obtain ⟨b, rfl⟩ := h; simp [D.erase]
theorem isTks {xs : List D} {n : Bool} (h : ∀ x ∈ xs, isTkR x) (hl : xs.length ≤ 2 ^ 47) : isTs (sliceD n xs) := ⟨n, xs, rfl, hl, fun x hx => isTkR_tok (h x hx)⟩
set_option maxHeartbeats 16000000 in
theorem main3 (xs gs : List D) (bn bg : Bool) (note : List UInt8) (hx : ∀ x ∈ xs, isTkR x) (hxl : xs.length ≤ 2 ^ 47) (hg : ∀ x ∈ gs, isU8 x) (H : Hp) (T : Tk) :
    W (Snd Tryd.prog) c3 (endQ [.inl 6] (fun r _ _ => r = .bool true)) ⟨argT [sliceD bn xs, sliceD bg gs, .str note], H, T⟩ := by
  refine W_mono (X := XL [(8, φtrueD), (9, φfew), (10, φform), (11, φshow), (12, φlex), (13, φsame2)]) (Ok.X (.cons ok8 (.cons ok9 (.cons ok10 (.cons ok11 (.cons ok12 (.cons ok13b .nil))))))) (fun _ _ h => h) ?_
  have hTs := isTks (n := bn) hx hxl
  have p1 : φtrueD [] = some (.bool true) := rfl
  have p2 : φfew [sliceD bn xs, .int .i64 40] = some (.bool (fewT xs 40)) := by simp only [φfew]; rw [if_pos hTs, elems_sliceD]
  have eX : D.eraseL xs = xs := toks_erase fun x h => isTkR_tok (hx x h)
  have eG : D.eraseL gs = gs := eraseL_id fun x h => isU8_erase (hg x h)
  rcases tf (fewT xs 40) with f | f
  · rw [f] at p2
    by_cases hn : (20 : Int) < note.length
    · have d : decide ((20 : Int) < note.length) = true := by simpa using hn
      simp (config := { contextual := true, maxSteps := 10000000 }) only [c3, p1, eX, p2, d, go_sem, Nat.reduceAdd, Nat.reduceSub, Nat.reduceMul, Nat.reduceEqDiff, Nat.reduceLeDiff, Nat.reduceLT, Int.reduceToNat, Int.reduceLE, Int.reduceLT, Int.reduceEq, Int.reduceNe, Int.reduceBEq, Int.reduceBNe, Nat.reduceBEq, Nat.reduceBNe, ↓reduceIte, reduceCtorEq, ↓reduceDIte, W_draw]
    have d : decide ((20 : Int) < note.length) = false := by simpa using hn
    have hn20 : note.length ≤ 20 := by omega
    unfold fewT at f
    simp only [Bool.and_eq_true, decide_eq_true_eq] at f
    obtain ⟨f1, f2⟩ := f
    have f2 : xs.length ≤ 40 := by omega
    have small : ∀ x ∈ xs, (tkS x).length ≤ 200 := fun x h => by
      rw [List.take_of_length_le (by omega)] at f1
      have := List.all_eq_true.1 f1 x h
      simp only [decide_eq_true_eq] at this; omega
    simp (config := { contextual := true, maxSteps := 10000000 }) only [c3, p1, eX, p2, d, go_sem, Nat.reduceAdd, Nat.reduceSub, Nat.reduceMul, Nat.reduceEqDiff, Nat.reduceLeDiff, Nat.reduceLT, Int.reduceToNat, Int.reduceLE, Int.reduceLT, Int.reduceEq, Int.reduceNe, Int.reduceBEq, Int.reduceBNe, Nat.reduceBEq, Nat.reduceBNe, ↓reduceIte, reduceCtorEq, ↓reduceDIte, W_draw]
    refine W_for (fun i s' => s'.t 0 = sliceD bn xs ∧ s'.t 1 = sliceD bg gs ∧ s'.t 2 = .str note ∧ s'.t 7 = .int .i64 (i : Nat) ∧ i ≤ note.length ∧ (note.take i).all (fun b => !(b == 10)) = true) note.length ⟨0, by simp [upd, argT]⟩ (fun i s h => h.2.2.2.2.1) ?_ (XL_mono _)
    rintro i ⟨t, B, T'⟩ ⟨r0, r1, r2, r7, hi, hc⟩
    simp only at r0 r1 r2 r7
    by_cases hlt : i < note.length
    · have d1 : decide (((i : Nat) : Int) < note.length) = true := by simp only [decide_eq_true_eq]; omega
      have ex : note[i]? = some note[i] := by simp [hlt]
      obtain ⟨b, hb⟩ : ∃ b, note[i] = b := ⟨_, rfl⟩
      rw [hb] at ex
      have ix := fun q => ixs_at ex q
      have e1 : ((b.toNat : Int) == 10) = (b == 10) := u8_eq b 10 (by decide)
      rcases tf (b == 10) with g | g
      · simp (config := { contextual := true, maxSteps := 10000000 }) only [r0, r1, r2, r7, d1, ix, e1, g, go_sem, Nat.reduceAdd, Nat.reduceSub, Nat.reduceMul, Nat.reduceEqDiff, Nat.reduceLeDiff, Nat.reduceLT, Int.reduceToNat, Int.reduceLE, Int.reduceLT, Int.reduceEq, Int.reduceNe, Int.reduceBEq, Int.reduceBNe, Nat.reduceBEq, Nat.reduceBNe, ↓reduceIte, reduceCtorEq, ↓reduceDIte, W_draw]
      · have nx := all_nx' (p := fun b : UInt8 => !(b == 10)) ex hc (by rw [g]; rfl)
        simp (config := { contextual := true, maxSteps := 10000000 }) only [r0, r1, r2, r7, d1, ix, e1, g, wrap_su i (by omega), go_sem, Nat.reduceAdd, Nat.reduceSub, Nat.reduceMul, Nat.reduceEqDiff, Nat.reduceLeDiff, Nat.reduceLT, Int.reduceToNat, Int.reduceLE, Int.reduceLT, Int.reduceEq, Int.reduceNe, Int.reduceBEq, Int.reduceBNe, Nat.reduceBEq, Nat.reduceBNe, ↓reduceIte, reduceCtorEq, ↓reduceDIte, W_draw]
        exact ⟨by omega, nx⟩
    have d1 : decide (((i : Nat) : Int) < note.length) = false := by simp only [decide_eq_false_iff_not]; omega
    have hnote : note.all (fun b => !(b == 10)) = true := by
      have : i = note.length := by omega
      rw [this, List.take_length] at hc; exact hc
    simp (config := { contextual := true, maxSteps := 10000000 }) only [r0, r1, r2, r7, d1, go_sem, Nat.reduceAdd, Nat.reduceSub, Nat.reduceMul, Nat.reduceEqDiff, Nat.reduceLeDiff, Nat.reduceLT, Int.reduceToNat, Int.reduceLE, Int.reduceLT, Int.reduceEq, Int.reduceNe, Int.reduceBEq, Int.reduceBNe, Nat.reduceBEq, Nat.reduceBNe, ↓reduceIte, reduceCtorEq, ↓reduceDIte, W_draw]
    refine W_for (fun i s' => s'.t 0 = sliceD bn xs ∧ s'.t 1 = sliceD bg gs ∧ s'.t 2 = .str note ∧ s'.t 9 = .int .i64 (i : Nat) ∧ s'.t 8 = .str (fl (itemsG xs gs note i)) ∧ i ≤ xs.length ∧ (fl (itemsG xs gs note i)).length ≤ i * 426 ∧ ∀ p ∈ itemsG xs gs note i, gapOk p.1 ∧ fitT p.2) xs.length ⟨0, by simp [upd, r0, r1, r2, itemsG, fl]⟩ (fun i s h => h.2.2.2.2.2.1) ?_ (XL_mono _)
    clear r0 r1 r2 r7 d1 hc hi hlt
    rintro i ⟨t, B, T'⟩ ⟨r0, r1, r2, r9, r8, hi, hlen, hit⟩
    simp only at r0 r1 r2 r9 r8
    by_cases hlt : i < xs.length
    · have d1 : decide (((i : Nat) : Int) < xs.length) = true := by simp only [decide_eq_true_eq]; omega
      have ex : xs[i]? = some xs[i] := by simp [hlt]
      have hsm := small _ (List.getElem_mem hlt)
      obtain ⟨k, s, m, e, hs, hm0, hm⟩ := hx _ (List.getElem_mem hlt)
      rw [e] at ex hsm
      have hsm : s.length ≤ 200 := hsm
      have isc := itemsG_succ gs note ex
      have pf : φform [.agg [.int .i64 k, .str s, .int .i64 m]] = some (.bool (formI k s m)) := by simp only [φform]; rw [if_pos (by omega)]
      have ex' := ex
      simp only [mkT] at ex'
      rcases tf (formI k s m) with g | g
      · rw [g] at pf
        have psh : φshow [.agg [.int .i64 k, .str s, .int .i64 m]] = some (.str (showP k s m)) := by
          simp only [φshow]; rw [if_pos ⟨by omega, fun h => ⟨form_pos g h, hm⟩⟩]
        have sl := showP_len (k := k) (s := s) (n := m) hsm fun _ => hm
        have hK : ∃ kk : Nat, kk < 4 ∧ gapK gs i = kk := ⟨gapK gs i, by unfold gapK; split <;> omega, rfl⟩
        obtain ⟨kk, hk4, hkk⟩ := hK
        rw [hkk] at isc
        have gl := gapS_len (note := note) hn20 kk
        have sa1 : bin2 .add (.str [32, 35]) (.str note) = some (.str (32 :: 35 :: note)) := sadd (by simp; omega)
        have sa2 : bin2 .add (.str (32 :: 35 :: note)) (.str [10]) = some (.str (32 :: 35 :: (note ++ [10]))) := sadd (by simp; omega)
        have ixk : ixa false 1 4 (.agg [.str [32], .str [10], .str (32 :: 35 :: (note ++ [10])), .str [10, 10, 32, 32]]) (.int .u8 (kk : Nat)) = some (.str (gapS note kk)) := by
          have : kk = 0 ∨ kk = 1 ∨ kk = 2 ∨ kk = 3 := by omega
          rcases this with rfl | rfl | rfl | rfl <;> rfl
        have sa3 : bin2 .add (.str (gapS note kk)) (.str (showP k s m)) = some (.str (gapS note kk ++ showP k s m)) := sadd (by omega)
        have sa4 : bin2 .add (.str (fl (itemsG xs gs note i))) (.str (gapS note kk ++ showP k s m)) = some (.str (fl (itemsG xs gs note (i + 1)))) := by
          rw [sadd (by simp only [List.length_append]; omega), isc, fl_app]; rfl
        have fin : (fl (itemsG xs gs note (i + 1))).length ≤ (i + 1) * 426 ∧ ∀ p ∈ itemsG xs gs note (i + 1), gapOk p.1 ∧ fitT p.2 := by
          refine ⟨?_, fun p hp => ?_⟩
          · rw [isc, fl_app]
            have : (showD (mkT k s m)).length = (showP k s m).length := rfl
            simp only [List.length_append, this]; omega
          · rw [isc] at hp
            rcases List.mem_append.1 hp with hp | hp
            · exact hit p hp
            · rw [List.mem_singleton] at hp; subst hp
              exact ⟨gapS_ok hnote kk, k, s, m, rfl, g, hm⟩
        by_cases hgl : i < gs.length
        · have d2 : decide (((i : Nat) : Int) < gs.length) = true := by simp only [decide_eq_true_eq]; omega
          have eg : gs[i]? = some gs[i] := by simp [hgl]
          obtain ⟨gb, hgb⟩ := hg _ (List.getElem_mem hgl)
          rw [hgb] at eg
          have hkb : kk = gb.toNat % 4 := by
            rw [← hkk]; unfold gapK; rw [eg]; simp
          have tm : ((gb.toNat : Int)).tmod 4 = ((kk : Nat) : Int) := by rw [hkb]; rfl
          simp (config := { contextual := true, maxSteps := 10000000 }) only [r0, r1, r2, r9, r8, d1, ex', pf, d2, eg, tm, sa1, sa2, ixk, psh, sa3, sa4, wrap_su i (by omega), go_sem, Nat.reduceAdd, Nat.reduceSub, Nat.reduceMul, Nat.reduceEqDiff, Nat.reduceLeDiff, Nat.reduceLT, Int.reduceToNat, Int.reduceLE, Int.reduceLT, Int.reduceEq, Int.reduceNe, Int.reduceBEq, Int.reduceBNe, Nat.reduceBEq, Nat.reduceBNe, ↓reduceIte, reduceCtorEq, ↓reduceDIte, W_draw]
          exact ⟨by omega, fin⟩
        · have d2 : decide (((i : Nat) : Int) < gs.length) = false := by simp only [decide_eq_false_iff_not]; omega
          have k0 : kk = 0 := by rw [← hkk]; unfold gapK; rw [List.getElem?_eq_none (by omega)]
          subst k0
          have ixk : ixa false 1 4 (.agg [.str [32], .str [10], .str (32 :: 35 :: (note ++ [10])), .str [10, 10, 32, 32]]) (.int .u8 0) = some (.str (gapS note 0)) := rfl
          simp (config := { contextual := true, maxSteps := 10000000 }) only [r0, r1, r2, r9, r8, d1, ex', pf, d2, sa1, sa2, ixk, psh, sa3, sa4, wrap_su i (by omega), go_sem, Nat.reduceAdd, Nat.reduceSub, Nat.reduceMul, Nat.reduceEqDiff, Nat.reduceLeDiff, Nat.reduceLT, Int.reduceToNat, Int.reduceLE, Int.reduceLT, Int.reduceEq, Int.reduceNe, Int.reduceBEq, Int.reduceBNe, Nat.reduceBEq, Nat.reduceBNe, ↓reduceIte, reduceCtorEq, ↓reduceDIte, W_draw]
          exact ⟨by omega, fin⟩
      · rw [g] at pf
        simp (config := { contextual := true, maxSteps := 10000000 }) only [r0, r1, r2, r9, r8, d1, ex', pf, go_sem, Nat.reduceAdd, Nat.reduceSub, Nat.reduceMul, Nat.reduceEqDiff, Nat.reduceLeDiff, Nat.reduceLT, Int.reduceToNat, Int.reduceLE, Int.reduceLT, Int.reduceEq, Int.reduceNe, Int.reduceBEq, Int.reduceBNe, Nat.reduceBEq, Nat.reduceBNe, ↓reduceIte, reduceCtorEq, ↓reduceDIte, W_draw]
    · have d1 : decide (((i : Nat) : Int) < xs.length) = false := by simp only [decide_eq_false_iff_not]; omega
      have ei : i = xs.length := by omega
      subst ei
      obtain ⟨t1, t2⟩ := tail_ok hnote
      have sa1 : bin2 .add (.str [32, 35]) (.str note) = some (.str (32 :: 35 :: note)) := sadd (by simp; omega)
      have sa2 : bin2 .add (.str (fl (itemsG xs gs note xs.length))) (.str (32 :: 35 :: note)) = some (.str (textOf (itemsG xs gs note xs.length) ([32, 35] ++ note))) := sadd (by simp only [List.length_cons]; omega)
      have hln : (textOf (itemsG xs gs note xs.length) ([32, 35] ++ note)).length ≤ 2 ^ 60 := by
        have : textOf (itemsG xs gs note xs.length) ([32, 35] ++ note) = fl (itemsG xs gs note xs.length) ++ ([32, 35] ++ note) := rfl
        rw [this]; simp only [List.length_append, List.length_cons, List.length_nil]; omega
      have hil : (itemsG xs gs note xs.length).length ≤ 600 := by unfold itemsG; simp; omega
      have hX := fun h => lexP_items hit t1 t2 h hil
      have hY := lexP_long (l := textOf (itemsG xs gs note xs.length) ([32, 35] ++ note))
      rw [itemsG_snd] at hX
      obtain ⟨S, hS⟩ : ∃ S, textOf (itemsG xs gs note xs.length) ([32, 35] ++ note) = S := ⟨_, rfl⟩
      rw [hS] at sa2 hX hY hln
      by_cases hbig : 4096 < S.length
      · have d2 : decide ((4096 : Int) < S.length) = true := by simp only [decide_eq_true_eq]; omega
        have pl : φlex [.str S] = some (.tup [.nils, .int .i64 0, .int .i64 3]) := by
          simp only [φlex]; rw [if_pos hln, hY hbig]; rfl
        simp (config := { contextual := true, maxSteps := 10000000 }) only [r0, r1, r2, r9, r8, d1, sa1, sa2, pl, d2, go_sem, Nat.reduceAdd, Nat.reduceSub, Nat.reduceMul, Nat.reduceEqDiff, Nat.reduceLeDiff, Nat.reduceLT, Int.reduceToNat, Int.reduceLE, Int.reduceLT, Int.reduceEq, Int.reduceNe, Int.reduceBEq, Int.reduceBNe, Nat.reduceBEq, Nat.reduceBNe, ↓reduceIte, reduceCtorEq, ↓reduceDIte, W_draw]
      · have d2 : decide ((4096 : Int) < S.length) = false := by simp only [decide_eq_false_iff_not]; omega
        have pl : φlex [.str S] = some (.tup [sliceD true xs, .int .i64 0, .int .i64 0]) := by
          simp only [φlex]; rw [if_pos hln, hX (by omega)]; rfl
        have ps : φsame2 [sliceD true xs, sliceD bn xs] = some (.bool true) := by
          simp only [φsame2]; rw [if_pos ⟨isTks hx hxl, hTs, by rw [elems_sliceD, elems_sliceD]⟩]
        simp (config := { contextual := true, maxSteps := 10000000 }) only [r0, r1, r2, r9, r8, d1, sa1, sa2, pl, d2, eX, ps, go_sem, Nat.reduceAdd, Nat.reduceSub, Nat.reduceMul, Nat.reduceEqDiff, Nat.reduceLeDiff, Nat.reduceLT, Int.reduceToNat, Int.reduceLE, Int.reduceLT, Int.reduceEq, Int.reduceNe, Int.reduceBEq, Int.reduceBNe, Nat.reduceBEq, Nat.reduceBNe, ↓reduceIte, reduceCtorEq, ↓reduceDIte, W_draw]
  · rw [f] at p2
    simp (config := { contextual := true, maxSteps := 10000000 }) only [c3, p1, eX, p2, go_sem, Nat.reduceAdd, Nat.reduceSub, Nat.reduceMul, Nat.reduceEqDiff, Nat.reduceLeDiff, Nat.reduceLT, Int.reduceToNat, Int.reduceLE, Int.reduceLT, Int.reduceEq, Int.reduceNe, Int.reduceBEq, Int.reduceBNe, Nat.reduceBEq, Nat.reduceBNe, ↓reduceIte, reduceCtorEq, ↓reduceDIte, W_draw]
end GP
