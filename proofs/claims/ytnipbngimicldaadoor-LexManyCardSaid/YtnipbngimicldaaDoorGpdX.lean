import Derived.Test.YtnipbngimicldaaDoorGpdK
set_option linter.unusedSimpArgs false
/- A text's tokens. -/
namespace GP
open Go Go.Proofs
set_option maxRecDepth 100000

/-- Things put together so far. -/
def accW (sz : Nat) (T : Tk) (xs : List D) (d : D) (T' : Tk) : Prop := (xs = [] ∧ d = .nils ∧ T' = T) ∨ (xs ≠ [] ∧ ∃ L i, T' = T ++ L ∧ d = .sl (some (T.length + i)) xs ∧ L[i]? = some (some (xs.length, sz)))
theorem app_accW {sz bytes : Nat} {K : D → S → Prop} {t : Nat → D} {H : Hp} {T T' : Tk} {xs : List D} {d : D} (x : D) (h : accW sz T xs d T') (hx : fit sz x = true) (hxs : xs.all (fit sz) = true) (hb : (xs.length + 1) * bytes ≤ 2 ^ 47) (hb2 : xs.length + 1 < 2 ^ 62)
    (k : ∀ d2 T2, accW sz T (xs ++ [x]) d2 T2 → K d2 ⟨t, H, T2⟩) : appK sz bytes K ⟨t, H, T' ++ [some (1, sz)]⟩ d (some [x]) := by
  rcases h with ⟨rfl, rfl, rfl⟩ | ⟨h0, L, i, rfl, rfl, hL⟩
  · rw [appK_nils1]
    refine ⟨by simp [hx], by simpa using hb, by simp, k _ _ (.inr ⟨by simp, [some (1, sz), some (1, sz)], 1, ?_, ?_, rfl⟩)⟩
    · simp
    · simp
  · have hi : i < L.length := by
      rcases Nat.lt_or_ge i L.length with h | h
      · exact h
      · rw [List.getElem?_eq_none h] at hL; cases hL
    rw [List.append_assoc, appK_tok]
    refine ⟨by simp [hx], ?_, by simpa using hb, by simpa using hb2, hxs, k _ _ (.inr ⟨by simp, _, i, rfl, rfl, ?_⟩)⟩
    · rw [List.getElem?_append_left hi, hL]
    · rw [List.getElem?_set_self (by simp; omega)]; simp
theorem accW_ext {sz : Nat} {T : Tk} {xs : List D} {d : D} {T' : Tk} (h : accW sz T xs d T') : ExtT T T' := by
  rcases h with ⟨_, _, rfl⟩ | ⟨_, L, _, rfl, _⟩
  · exact ExtT.refl _
  · exact ExtT.of T L
theorem accW_len {sz : Nat} {T : Tk} {xs : List D} {d : D} {T' : Tk} (h : accW sz T xs d T') : lenD d = some xs.length := by
  rcases h with ⟨rfl, rfl, _⟩ | ⟨_, L, i, _, rfl, _⟩ <;> rfl
theorem accW_erase {sz : Nat} {T : Tk} {xs : List D} {d : D} {T' : Tk} (h : accW sz T xs d T') (he : D.eraseL xs = xs) : d.erase = sliceD true xs := by
  rcases h with ⟨rfl, rfl, _⟩ | ⟨h0, L, i, _, rfl, _⟩
  · rfl
  · have : xs.isEmpty = false := by cases xs with
      | nil => exact (h0 rfl).elim
      | cons => rfl
    simp [sliceD, this, D.erase, he]
theorem isTok_erase {d : D} (h : isTok d) : d.erase = d := by obtain ⟨k, s, n, rfl⟩ := h; simp [mkT, D.erase, D.eraseL]
theorem toks_erase {xs : List D} (h : ∀ x ∈ xs, isTok x) : D.eraseL xs = xs := eraseL_id fun x hx => isTok_erase (h x hx)
theorem toks_fit {xs : List D} (h : ∀ x ∈ xs, isTok x) : xs.all (fit 3) = true := List.all_eq_true.2 fun x hx => by obtain ⟨k, s, n, rfl⟩ := h x hx; rfl
theorem toks_cl {xs : List D} (h : ∀ x ∈ xs, isTok x) : (sliceD true xs).cl 0 0 = true := by
  have e : D.clL 0 0 xs = true := by
    induction xs with
    | nil => rfl
    | cons x xs ih =>
      obtain ⟨k, s, n, rfl⟩ := h x (by simp)
      simp only [D.clL, mkT, D.cl, Bool.and_self, Bool.true_and]
      exact ih fun y hy => h y (by simp [hy])
  rcases sliceD_cases true xs with ⟨e1, rfl⟩ | e1 <;> rw [e1]
  · rfl
  · simp [D.cl, e]

/-- The tokens from a place on: with those so far; the place, the error. -/
def lexF : Nat → List UInt8 → Nat → List D → List D × Nat × Int
  | 0, _, _, _ => ([], 0, 99)
  | f + 1, l, a, out => if decide (l.length ≤ a) then (out, 0, 0) else if (((tokP l a).2 : Nat) : Int) == 0 then ([], a, 2) else
    if ((out.length : Nat) : Int) == 600 then ([], a, 13) else lexF f l (betw l (a + (tokP l a).2)) (out ++ [(tokP l a).1])
def lexP (l : List UInt8) : List D × Nat × Int := if decide (4096 < l.length) then ([], 0, 3) else lexF (l.length + 1) l (betw l 0) []
def tupL (p : List D × Nat × Int) : D := .tup [sliceD true p.1, .int .i64 (p.2.1 : Nat), .int .i64 p.2.2]
theorem tokP_T (l : List UInt8) (a : Nat) : isTok (tokP l a).1 := by
  unfold tokP; split
  · exact tokC_T _ _ _
  · exact ⟨_, _, _, rfl⟩
theorem lexF_T : ∀ (f : Nat) (l : List UInt8) (a : Nat) (out : List D), (∀ x ∈ out, isTok x) → ∀ x ∈ (lexF f l a out).1, isTok x
  | 0, _, _, _, _ => by simp [lexF]
  | f + 1, l, a, out, h => by
    unfold lexF
    split
    · exact h
    split
    · simp
    split
    · simp
    · exact lexF_T f l _ _ fun x hx => by
        rcases List.mem_append.1 hx with hx | hx
        · exact h x hx
        · rw [List.mem_singleton] at hx; subst hx; exact tokP_T l a
theorem lexP_T (l : List UInt8) : ∀ x ∈ (lexP l).1, isTok x := by
  unfold lexP; split
  · simp
  · exact lexF_T _ _ _ _ (by simp)
theorem tupL_cl {p : List D × Nat × Int} (h : ∀ x ∈ p.1, isTok x) : (tupL p).cl 0 0 = true := by
  simp [tupL, D.cl, D.clL, toks_cl h]
def φlex : List D → Option D
  | [.str l] => if l.length ≤ 2 ^ 60 then some (tupL (lexP l)) else none
  | _ => none
theorem lexF_succ (f : Nat) (l : List UInt8) (a : Nat) (out : List D) : lexF (f + 1) l a out = if decide (l.length ≤ a) then (out, 0, 0) else if (((tokP l a).2 : Nat) : Int) == 0 then ([], a, 2) else
    if ((out.length : Nat) : Int) == 600 then ([], a, 13) else lexF f l (betw l (a + (tokP l a).2)) (out ++ [(tokP l a).1]) := rfl
set_option maxHeartbeats 8000000 in
theorem ok12 : OkAt Tryd.prog 12 φlex := by
  refine ok_of (l := [(21, φbetw), (22, φtok)]) (.cons ok21 (.cons ok22 .nil)) fn12 fun args r h => ?_
  unfold φlex at h
  split at h
  · rename_i l
    split at h
    · rename_i hl
      injection h with h; subst h
      refine ⟨by simp, tupL_cl (lexP_T l), fun H T => ?_⟩
      unfold lexP
      rcases tf (decide (4096 < l.length)) with g | g
      · rw [if_pos g]
        have g' : decide ((4096 : Int) < l.length) = true := by simp only [decide_eq_true_eq] at g ⊢; omega
        simp (config := { contextual := true, maxSteps := 10000000 }) only [c12, g', tupL, go_sem, Nat.reduceAdd, Nat.reduceSub, Nat.reduceMul, Nat.reduceEqDiff, Nat.reduceLeDiff, Nat.reduceLT, Int.reduceToNat, Int.reduceLE, Int.reduceLT, Int.reduceEq, Int.reduceNe, Int.reduceBEq, Int.reduceBNe, Nat.reduceBEq, Nat.reduceBNe, ↓reduceIte, reduceCtorEq, ↓reduceDIte, W_draw]
        rfl
      rw [if_neg (by rw [g]; decide)]
      have g' : decide ((4096 : Int) < l.length) = false := by simp only [decide_eq_false_iff_not] at g ⊢; omega
      have pb : ∀ a : Nat, a ≤ l.length → φbetw [.str l, .int .i64 (a : Int)] = some (.int .i64 (betw l a : Nat)) := fun a ha => by
        simp only [φbetw]; rw [if_pos ⟨by omega, by omega, by omega⟩]; simp
      have b0 := betw_le (l := l) (a := 0) (by omega)
      have pb0 : φbetw [.str l, .int .i64 0] = some (.int .i64 (betw l 0 : Nat)) := pb 0 (by omega)
      simp (config := { contextual := true, maxSteps := 10000000 }) only [c12, g', pb0, go_sem, Nat.reduceAdd, Nat.reduceSub, Nat.reduceMul, Nat.reduceEqDiff, Nat.reduceLeDiff, Nat.reduceLT, Int.reduceToNat, Int.reduceLE, Int.reduceLT, Int.reduceEq, Int.reduceNe, Int.reduceBEq, Int.reduceBNe, Nat.reduceBEq, Nat.reduceBNe, ↓reduceIte, reduceCtorEq, ↓reduceDIte, W_draw]
      refine W_for (fun i s' => s'.t 0 = .str l ∧ Ext H s'.H ∧ ∃ (a f : Nat) (out : List D), s'.t 6 = .int .i64 (a : Int) ∧ i ≤ a ∧ a ≤ l.length ∧ l.length < a + f ∧ out.length ≤ 600 ∧ (∀ x ∈ out, isTok x) ∧ accW 3 T out (s'.t 5) s'.T ∧ lexF f l a out = lexF (l.length + 1) l (betw l 0) []) l.length ⟨0, rfl, Ext.refl H, betw l 0, l.length + 1, [], rfl, by omega, by omega, by omega, by simp, by simp, .inl ⟨rfl, rfl, rfl⟩, rfl⟩ (fun i s h => by obtain ⟨_, _, a, f, out, h⟩ := h; omega) ?_ (XL_mono _)
      rintro i ⟨t, B, T'⟩ ⟨r0, hE, a, f, out, r6, h1, h2, h3, h4, hT, hA, hS⟩
      simp only at r0 hE r6 hA
      rw [← hS]
      have hX := accW_ext hA
      have hlen := accW_len hA
      have her := accW_erase hA (toks_erase hT)
      cases f with
      | zero => exfalso; omega
      | succ f =>
      rw [lexF_succ] at hS ⊢
      by_cases hlt : a < l.length
      · have d1 : decide ((a : Int) < l.length) = true := by simp only [decide_eq_true_eq]; omega
        have d0 : decide (l.length ≤ a) = false := by simp only [decide_eq_false_iff_not]; omega
        rw [if_neg (by rw [d0]; decide)] at hS ⊢
        have pt : φtok [.str l, .int .i64 (a : Int)] = some (tupT (tokP l a)) := by
          simp only [φtok]; rw [if_pos ⟨by omega, by omega, by omega⟩]; simp
        have hn : a + (tokP l a).2 ≤ l.length := by rw [tokP_at hlt]; exact tokC_le hlt
        have hTk := tokP_T l a
        obtain ⟨⟨tk, n⟩, hq⟩ : ∃ z, tokP l a = z := ⟨_, rfl⟩
        simp only [hq, tupT] at pt hn hTk hS ⊢
        obtain ⟨k, s, m, rfl⟩ := hTk
        rcases tf ((n : Int) == 0) with g1 | g1
        · rw [if_pos g1]
          simp only [mkT] at pt
          simp (config := { contextual := true, maxSteps := 10000000 }) only [r0, r6, d1, pt, g1, leaves_Ea hE hX, tupL, go_sem, Nat.reduceAdd, Nat.reduceSub, Nat.reduceMul, Nat.reduceEqDiff, Nat.reduceLeDiff, Nat.reduceLT, Int.reduceToNat, Int.reduceLE, Int.reduceLT, Int.reduceEq, Int.reduceNe, Int.reduceBEq, Int.reduceBNe, Nat.reduceBEq, Nat.reduceBNe, ↓reduceIte, reduceCtorEq, ↓reduceDIte, W_draw]
          rfl
        rw [if_neg (by rw [g1]; decide)] at hS ⊢
        have n0 : 0 < n := by
          rcases Nat.eq_zero_or_pos n with h | h
          · subst h; simp at g1
          · exact h
        rcases tf ((out.length : Int) == 600) with g2 | g2
        · rw [if_pos g2]
          simp only [mkT] at pt
          simp (config := { contextual := true, maxSteps := 10000000 }) only [r0, r6, d1, pt, g1, hlen, g2, leaves_Ea hE hX, tupL, go_sem, Nat.reduceAdd, Nat.reduceSub, Nat.reduceMul, Nat.reduceEqDiff, Nat.reduceLeDiff, Nat.reduceLT, Int.reduceToNat, Int.reduceLE, Int.reduceLT, Int.reduceEq, Int.reduceNe, Int.reduceBEq, Int.reduceBNe, Nat.reduceBEq, Nat.reduceBNe, ↓reduceIte, reduceCtorEq, ↓reduceDIte, W_draw]
          rfl
        rw [if_neg (by rw [g2]; decide)] at hS ⊢
        have n6 : out.length ≠ 600 := by
          intro h; rw [h] at g2; simp at g2
        have wS : IntKind.i64.wrap ((a : Int) + (n : Int)) = ((a + n : Nat) : Int) := by rw [wrap_in (by omega) (by omega)]; omega
        have pb1 := pb (a + n) hn
        have hb1 := betw_le hn
        simp only [mkT] at pt
        simp (config := { contextual := true, maxSteps := 10000000 }) only [r0, r6, d1, pt, g1, hlen, g2, go_sem, Nat.reduceAdd, Nat.reduceSub, Nat.reduceMul, Nat.reduceEqDiff, Nat.reduceLeDiff, Nat.reduceLT, Int.reduceToNat, Int.reduceLE, Int.reduceLT, Int.reduceEq, Int.reduceNe, Int.reduceBEq, Int.reduceBNe, Nat.reduceBEq, Nat.reduceBNe, ↓reduceIte, reduceCtorEq, ↓reduceDIte, W_draw]
        refine app_accW (mkT k s m) hA rfl (toks_fit hT) (by omega) (by omega) fun d2 T2 hA2 => ?_
        simp (config := { contextual := true, maxSteps := 10000000 }) only [r0, r6, wS, pb1, hE.ta, go_sem, Nat.reduceAdd, Nat.reduceSub, Nat.reduceMul, Nat.reduceEqDiff, Nat.reduceLeDiff, Nat.reduceLT, Int.reduceToNat, Int.reduceLE, Int.reduceLT, Int.reduceEq, Int.reduceNe, Int.reduceBEq, Int.reduceBNe, Nat.reduceBEq, Nat.reduceBNe, ↓reduceIte, reduceCtorEq, ↓reduceDIte, W_draw]
        refine ⟨betw l (a + n), f, out ++ [mkT k s m], rfl, by omega, by omega, by omega, by simp; omega, ?_, hA2, ?_⟩
        · intro x hx
          rcases List.mem_append.1 hx with hx | hx
          · exact hT x hx
          · rw [List.mem_singleton] at hx; subst hx; exact ⟨_, _, _, rfl⟩
        · rfl
      · have d1 : decide ((a : Int) < l.length) = false := by simp only [decide_eq_false_iff_not]; omega
        have d0 : decide (l.length ≤ a) = true := by simp only [decide_eq_true_eq]; omega
        rw [if_pos d0]
        simp (config := { contextual := true, maxSteps := 10000000 }) only [r0, r6, d1, leaves_E hE hX, her, tupL, go_sem, Nat.reduceAdd, Nat.reduceSub, Nat.reduceMul, Nat.reduceEqDiff, Nat.reduceLeDiff, Nat.reduceLT, Int.reduceToNat, Int.reduceLE, Int.reduceLT, Int.reduceEq, Int.reduceNe, Int.reduceBEq, Int.reduceBNe, Nat.reduceBEq, Nat.reduceBNe, ↓reduceIte, reduceCtorEq, ↓reduceDIte, W_draw]
    · cases h
  · cases h
end GP
