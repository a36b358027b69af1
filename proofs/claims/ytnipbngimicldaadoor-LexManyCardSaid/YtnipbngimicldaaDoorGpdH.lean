import Derived.Test.YtnipbngimicldaaDoorGpdF
set_option linter.unusedSimpArgs false
/- The tokens that are told are formed. -/
namespace GP
open Go Go.Proofs
set_option maxRecDepth 100000

def goodT (d : D) : Prop := ∃ k s n, d = mkT k s n ∧ formI k s n = true ∧ s.length ≤ 2 ^ 47
theorem goodT_tok {d : D} (h : goodT d) : isTok d := by obtain ⟨k, s, n, h, _⟩ := h; exact ⟨k, s, n, h⟩
theorem txt_good : ∀ (m : Nat) (r out : List UInt8) (k : Nat), r.length ≤ m → out.all (fun b => pText b.toNat) = true → out.length ≤ 64 → (txtL r out k).2 ≠ 0 → (txtL r out k).1.all (fun b => pText b.toNat) = true ∧ (txtL r out k).1.length ≤ 64
  | _, [], out, k, _, _, _, h => by rw [txtL_nil] at h; exact absurd rfl h
  | 0, _ :: _, _, _, h, _, _, _ => by simp at h
  | m + 1, c :: r, out, k, hm, ha, hl, h => by
    have hm : r.length ≤ m := by simp at hm; omega
    rw [txtL_cons] at h ⊢
    rcases tf (c == 34) with g1 | g1
    · rw [if_pos g1]; exact ⟨ha, hl⟩
    have n1 : ¬ ((c == 34) = true) := by rw [g1]; decide
    rw [if_neg n1] at h ⊢
    rcases tf (c == 92) with g2 | g2
    · rw [if_pos g2] at h ⊢
      cases r with
      | nil => exact absurd rfl h
      | cons d r =>
        simp only at h ⊢
        rcases tf ((d != 34) && (d != 92)) with g3 | g3
        · rw [if_pos g3] at h; exact absurd rfl h
        have n3 : ¬ (((d != 34) && (d != 92)) = true) := by rw [g3]; decide
        rw [if_neg n3] at h ⊢
        by_cases h64 : 64 < out.length + 1
        · rw [if_pos (by simpa using h64)] at h; exact absurd rfl h
        rw [if_neg (by simpa using h64)] at h ⊢
        have hd : pText (d.toNat : Int) = true := by
          have : d = 34 ∨ d = 92 := by
            simp only [Bool.and_eq_false_iff, bne_eq_false_iff_eq] at g3; exact g3
          rcases this with rfl | rfl <;> decide
        exact txt_good m r _ _ (by simp at hm; omega) (by simp [ha, hd]) (by simp; omega) h
    have n2 : ¬ ((c == 92) = true) := by rw [g2]; decide
    rw [if_neg n2] at h ⊢
    rcases tf (pText (c.toNat : Int)) with g3 | g3
    · rw [if_neg (by rw [g3]; decide)] at h ⊢
      by_cases h64 : 64 < out.length + 1
      · rw [if_pos (by simpa using h64)] at h; exact absurd rfl h
      rw [if_neg (by simpa using h64)] at h ⊢
      exact txt_good m r _ _ hm (by simp [ha, g3]) (by simp; omega) h
    · rw [if_pos (by rw [g3]; rfl)] at h; exact absurd rfl h
theorem numQ_good {s : List UInt8} {m : Int} : 0 ≤ (numQ s m).1 ∧ ((numQ s m).1 ≤ m ∨ (numQ s m).1 = 0) := by
  unfold numQ
  split
  · exact ⟨by simp, .inr rfl⟩
  · rename_i h
    simp only [Bool.or_eq_true, not_or, decide_eq_true_eq] at h
    exact ⟨by simp only; omega, .inl (by simp only; omega)⟩
theorem tokQ_good (s : List UInt8) (h : (tokQ s).2 ≠ 0) : goodT (tokQ s).1 := by
  cases s with
  | nil => exact absurd rfl h
  | cons c r =>
    rw [tokQ_cons] at h ⊢
    rcases tf (pLet (c.toNat : Int)) with g1 | g1
    · rw [if_pos g1] at h ⊢
      have hw : pWord (c.toNat : Int) = true := by rw [pWord_let, g1]; rfl
      have e1 := runL_cons (p := pWord) c r hw
      have ht := take_c c r (runL pWord r)
      have hr := take_run pWord r
      have hall : (r.take (runL pWord r)).all (fun b => pWord b.toNat) = true := List.all_eq_true.2 fun b hb => run_all (p := pWord) r b hb
      rw [e1, ht] at h ⊢
      by_cases h64 : (64 : Int) < ((1 + runL pWord r : Nat) : Int)
      · rw [if_pos (by simpa using h64)] at h; exact absurd rfl h
      rw [if_neg (by simpa using h64)]
      refine ⟨1, _, 0, rfl, ?_, by simp only [List.length_cons, hr]; omega⟩
      have w : wordB (c :: r.take (runL pWord r)) = true := by
        rw [wordB_cons, g1, hall]; simp only [Bool.true_and, decide_eq_true_eq, List.length_cons, hr]; omega
      unfold formI; rw [if_pos (by decide), w]; rfl
    rw [if_neg (by rw [g1]; decide)] at h ⊢
    rcases tf (pDigit (c.toNat : Int)) with g2 | g2
    · rw [if_pos g2]
      have hn := (numQ_good (s := c :: r) (m := 9223372036854775807)).1
      refine ⟨2, [], _, rfl, ?_, by simp⟩
      unfold formI; rw [if_neg (by decide), if_pos (by decide)]
      simpa using hn
    rw [if_neg (by rw [g2]; decide)] at h ⊢
    rcases tf (c == 64) with g3 | g3
    · rw [if_pos g3] at h ⊢
      rcases tf (((numQ r 1099511627776).2 : Int) == 0) with q | q
      · rw [if_pos q] at h; exact absurd rfl h
      rw [if_neg (by rw [q]; decide)]
      obtain ⟨h1, h2⟩ := numQ_good (s := r) (m := 1099511627776)
      refine ⟨4, [], _, rfl, ?_, by simp⟩
      unfold formI; rw [if_neg (by decide), if_neg (by decide), if_neg (by decide), if_pos (by decide)]
      simp only [beq_self_eq_true, Bool.true_and, Bool.and_eq_true, decide_eq_true_eq]; omega
    rw [if_neg (by rw [g3]; decide)] at h ⊢
    rcases tf (c == 34) with g4 | g4
    · rw [if_pos g4] at h ⊢
      obtain ⟨h1, h2⟩ := txt_good _ r [] 1 (Nat.le_refl _) rfl (by simp) h
      refine ⟨3, _, 0, rfl, ?_, by omega⟩
      unfold formI; rw [if_neg (by decide), if_neg (by decide), if_pos (by decide), h1]
      simp only [Bool.true_and, Bool.and_eq_true, decide_eq_true_eq]
      exact ⟨by omega, rfl⟩
    rw [if_neg (by rw [g4]; decide)] at h ⊢
    unfold sgnQ at h ⊢
    cases hf : signsB.find? (hasP (c :: r)) with
    | none => rw [hf] at h; exact absurd rfl h
    | some x =>
      have hm := List.mem_of_find?_eq_some hf
      have key : ∀ y ∈ signsB, isSign y = true ∧ y.length ≤ 2 ^ 47 := by decide
      refine ⟨5, x, 0, rfl, ?_, (key x hm).2⟩
      unfold formI; rw [if_neg (by decide), if_neg (by decide), if_neg (by decide), if_neg (by decide), if_pos (by decide), (key x hm).1]; rfl
theorem lexF_good : ∀ (f : Nat) (l : List UInt8) (a : Nat) (out : List D), (∀ x ∈ out, goodT x) → ∀ x ∈ (lexF f l a out).1, goodT x
  | 0, _, _, _, _ => by simp [lexF]
  | f + 1, l, a, out, h => by
    rw [lexF_succ]
    split
    · exact h
    rename_i ha
    have ha : a < l.length := by simp only [decide_eq_true_eq] at ha; omega
    split
    · simp
    rename_i hz
    split
    · simp
    · refine lexF_good f l _ _ fun x hx => ?_
      rcases List.mem_append.1 hx with hx | hx
      · exact h x hx
      · rw [List.mem_singleton] at hx; subst hx
        rw [tokP_Q ha] at hz ⊢
        exact tokQ_good _ (by intro e; apply hz; rw [e]; rfl)
theorem lexP_good (l : List UInt8) : ∀ x ∈ (lexP l).1, goodT x := by
  unfold lexP; split
  · simp
  · exact lexF_good _ _ _ _ (by simp)
theorem lexF_len : ∀ (f : Nat) (l : List UInt8) (a : Nat) (out : List D), out.length ≤ 600 → (lexF f l a out).1.length ≤ 600
  | 0, _, _, _, _ => by simp [lexF]
  | f + 1, l, a, out, h => by
    rw [lexF_succ]
    split
    · exact h
    split
    · simp
    split
    · simp
    · rename_i h6
      refine lexF_len f l _ _ ?_
      have : out.length ≠ 600 := by intro e; apply h6; rw [e]; rfl
      simp; omega
theorem lexP_len (l : List UInt8) : (lexP l).1.length ≤ 600 := by
  unfold lexP; split
  · simp
  · exact lexF_len _ _ _ _ (by simp)
theorem isTs_lex (l : List UInt8) : isTs (sliceD true (lexP l).1) :=
  ⟨true, _, rfl, by have := lexP_len l; omega, fun x hx => goodT_tok (lexP_good l x hx)⟩

/-! ### LexTells -/
set_option maxHeartbeats 8000000 in
theorem main5 (l : List UInt8) (hl : l.length ≤ 2 ^ 47) (H : Hp) (T : Tk) : W (Snd Tryd.prog) c5 (endQ [.inl 2] (fun r _ _ => r = .bool true)) ⟨argT [.str l], H, T⟩ := by
  refine W_mono (X := XL [(8, φtrueD), (12, φlex), (14, φlex), (13, φsame1), (15, φform)]) (Ok.X (.cons ok8 (.cons ok12 (.cons ok14 (.cons ok13 (.cons ok15 .nil)))))) (fun _ _ h => h) ?_
  have p1 : φlex [.str l] = some (tupL (lexP l)) := by simp only [φlex]; rw [if_pos (by omega)]
  have p2 : φsame1 [sliceD true (lexP l).1, sliceD true (lexP l).1] = some (.bool true) := by simp only [φsame1]; rw [if_pos ⟨isTs_lex l, rfl⟩]
  have hg := lexP_good l
  have hT : ∀ x ∈ (lexP l).1, isTok x := fun x hx => goodT_tok (hg x hx)
  have eT := toks_erase hT
  have hlen := lexP_len l
  have p3 : φtrueD [] = some (.bool true) := rfl
  rcases tf (decide ((5000 : Int) < l.length)) with g | g
  · simp (config := { contextual := true, maxSteps := 10000000 }) only [c5, p3, g, go_sem, Nat.reduceAdd, Nat.reduceSub, Nat.reduceMul, Nat.reduceEqDiff, Nat.reduceLeDiff, Nat.reduceLT, Int.reduceToNat, Int.reduceLE, Int.reduceLT, Int.reduceEq, Int.reduceNe, Int.reduceBEq, Int.reduceBNe, Nat.reduceBEq, Nat.reduceBNe, ↓reduceIte, reduceCtorEq, ↓reduceDIte, W_draw]
  obtain ⟨⟨xs, at', e⟩, hq⟩ : ∃ z, lexP l = z := ⟨_, rfl⟩
  simp only [hq, tupL] at p1 p2 hg hT eT hlen
  have ne : (e != e) = false := by simp
  have na : (((at' : Nat) : Int) != (at' : Nat)) = false := by simp
  simp (config := { contextual := true, maxSteps := 10000000 }) only [c5, p3, g, p1, eT, ne, na, p2, go_sem, Nat.reduceAdd, Nat.reduceSub, Nat.reduceMul, Nat.reduceEqDiff, Nat.reduceLeDiff, Nat.reduceLT, Int.reduceToNat, Int.reduceLE, Int.reduceLT, Int.reduceEq, Int.reduceNe, Int.reduceBEq, Int.reduceBNe, Nat.reduceBEq, Nat.reduceBNe, ↓reduceIte, reduceCtorEq, ↓reduceDIte, W_draw]
  refine W_for (fun i s' => s'.t 3 = sliceD true xs ∧ s'.t 9 = .int .i64 (i : Nat) ∧ i ≤ xs.length) xs.length ⟨0, by simp [upd, argT]⟩ (fun i s h => h.2.2) ?_ (XL_mono _)
  rintro i ⟨t, B, T'⟩ ⟨r3, r9, hi⟩
  simp only at r3 r9
  by_cases hlt : i < xs.length
  · have d1 : decide (((i : Nat) : Int) < xs.length) = true := by simp only [decide_eq_true_eq]; omega
    have ex : xs[i]? = some xs[i] := by simp [hlt]
    obtain ⟨k, s, n, ek, hF, hs⟩ := hg _ (List.getElem_mem hlt)
    rw [ek] at ex
    simp only [mkT] at ex
    have pf : φform [.agg [.int .i64 k, .str s, .int .i64 n]] = some (.bool true) := by simp only [φform]; rw [if_pos (by omega), hF]
    simp (config := { contextual := true, maxSteps := 10000000 }) only [r3, r9, d1, ex, pf, wrap_su i (by omega), go_sem, Nat.reduceAdd, Nat.reduceSub, Nat.reduceMul, Nat.reduceEqDiff, Nat.reduceLeDiff, Nat.reduceLT, Int.reduceToNat, Int.reduceLE, Int.reduceLT, Int.reduceEq, Int.reduceNe, Int.reduceBEq, Int.reduceBNe, Nat.reduceBEq, Nat.reduceBNe, ↓reduceIte, reduceCtorEq, ↓reduceDIte, W_draw]
    omega
  · have d1 : decide (((i : Nat) : Int) < xs.length) = false := by simp only [decide_eq_false_iff_not]; omega
    simp (config := { contextual := true, maxSteps := 10000000 }) only [r3, r9, d1, go_sem, Nat.reduceAdd, Nat.reduceSub, Nat.reduceMul, Nat.reduceEqDiff, Nat.reduceLeDiff, Nat.reduceLT, Int.reduceToNat, Int.reduceLE, Int.reduceLT, Int.reduceEq, Int.reduceNe, Int.reduceBEq, Int.reduceBNe, Nat.reduceBEq, Nat.reduceBNe, ↓reduceIte, reduceCtorEq, ↓reduceDIte, W_draw]
end GP
