import Derived.Test.YtnipbngimicldaaDoorGpdG
set_option linter.unusedSimpArgs false
/- Words of a text: runs of bytes, gaps. -/
namespace GP
open Go Go.Proofs
set_option maxRecDepth 100000

theorem tf (b : Bool) : b = true ∨ b = false := by cases b <;> simp
theorem wrapD (a : Int) : IntKind.i64.wrap a = if a % 2 ^ 64 ≥ 2 ^ 63 then a % 2 ^ 64 - 2 ^ 64 else a % 2 ^ 64 := by simp [IntKind.wrap, IntKind.bits, IntKind.signed]
theorem wrap_in {a : Int} (h1 : -(2 ^ 63) ≤ a) (h2 : a < 2 ^ 63) : IntKind.i64.wrap a = a := by rw [wrapD]; split <;> omega
theorem wrap_su (n : Nat) (h : n < 2 ^ 61) : IntKind.i64.wrap ((n : Int) + 1) = ((n + 1 : Nat) : Int) := by rw [wrap_in (by omega) (by omega)]; rfl
theorem ixs_s (l : List UInt8) (k : IntKind) (n : Int) : ixs (.str l) (.int k n) = if 0 ≤ n then (l[n.toNat]?).map fun b => .int .u8 b.toNat else none := rfl
theorem ixs_at {l : List UInt8} {i : Nat} {b : UInt8} (h : l[i]? = some b) (k : IntKind) : ixs (.str l) (.int k (i : Int)) = some (.int .u8 b.toNat) := by
  rw [ixs_s, if_pos (by omega)]; simp [h]

/-! ### Kinds of bytes -/
def pSmall (n : Int) : Bool := (decide (97 ≤ n) && decide (n ≤ 122)) || n == 95
def pDigit (n : Int) : Bool := decide (48 ≤ n) && decide (n ≤ 57)
def pWord (n : Int) : Bool := pSmall n || pDigit n
def pText (n : Int) : Bool := decide (32 ≤ n) && decide (n ≤ 126)
def pNote (n : Int) : Bool := n != 10
def φb (p : Int → Bool) : List D → Option D
  | [.int .u8 n] => some (.bool (p n))
  | _ => none
theorem ok27 : OkAt Tryd.prog 27 (φb pSmall) := by
  refine ok_of (l := []) .nil fn27 fun args r h => ?_
  unfold φb at h
  split at h
  · rename_i n
    injection h with h; subst h
    refine ⟨by simp, by simp [D.cl], fun H T => ?_⟩
    unfold pSmall
    rcases tf (decide (97 ≤ n)) with h1 | h1
    · rcases tf (decide (n ≤ 122)) with h2 | h2
      · simp (config := { contextual := true, maxSteps := 10000000 }) only [c27, h1, h2, go_sem, Nat.reduceAdd, Nat.reduceSub, Nat.reduceMul, Nat.reduceEqDiff, Nat.reduceLeDiff, Nat.reduceLT, Int.reduceToNat, Int.reduceLE, Int.reduceLT, Int.reduceEq, Int.reduceNe, Int.reduceBEq, Int.reduceBNe, Nat.reduceBEq, Nat.reduceBNe, ↓reduceIte, reduceCtorEq, ↓reduceDIte, W_draw]
      · simp (config := { contextual := true, maxSteps := 10000000 }) only [c27, h1, h2, go_sem, Nat.reduceAdd, Nat.reduceSub, Nat.reduceMul, Nat.reduceEqDiff, Nat.reduceLeDiff, Nat.reduceLT, Int.reduceToNat, Int.reduceLE, Int.reduceLT, Int.reduceEq, Int.reduceNe, Int.reduceBEq, Int.reduceBNe, Nat.reduceBEq, Nat.reduceBNe, ↓reduceIte, reduceCtorEq, ↓reduceDIte, W_draw]
    · simp (config := { contextual := true, maxSteps := 10000000 }) only [c27, h1, go_sem, Nat.reduceAdd, Nat.reduceSub, Nat.reduceMul, Nat.reduceEqDiff, Nat.reduceLeDiff, Nat.reduceLT, Int.reduceToNat, Int.reduceLE, Int.reduceLT, Int.reduceEq, Int.reduceNe, Int.reduceBEq, Int.reduceBNe, Nat.reduceBEq, Nat.reduceBNe, ↓reduceIte, reduceCtorEq, ↓reduceDIte, W_draw]
  · cases h
theorem ok28 : OkAt Tryd.prog 28 (φb pDigit) := by
  refine ok_of (l := []) .nil fn28 fun args r h => ?_
  unfold φb at h
  split at h
  · rename_i n
    injection h with h; subst h
    refine ⟨by simp, by simp [D.cl], fun H T => ?_⟩
    unfold pDigit
    rcases tf (decide (48 ≤ n)) with h1 | h1 <;> simp (config := { contextual := true, maxSteps := 10000000 }) only [c28, h1, go_sem, Nat.reduceAdd, Nat.reduceSub, Nat.reduceMul, Nat.reduceEqDiff, Nat.reduceLeDiff, Nat.reduceLT, Int.reduceToNat, Int.reduceLE, Int.reduceLT, Int.reduceEq, Int.reduceNe, Int.reduceBEq, Int.reduceBNe, Nat.reduceBEq, Nat.reduceBNe, ↓reduceIte, reduceCtorEq, ↓reduceDIte, W_draw]
  · cases h
theorem ok29 : OkAt Tryd.prog 29 (φb pText) := by
  refine ok_of (l := []) .nil fn29 fun args r h => ?_
  unfold φb at h
  split at h
  · rename_i n
    injection h with h; subst h
    refine ⟨by simp, by simp [D.cl], fun H T => ?_⟩
    unfold pText
    rcases tf (decide (32 ≤ n)) with h1 | h1 <;> simp (config := { contextual := true, maxSteps := 10000000 }) only [c29, h1, go_sem, Nat.reduceAdd, Nat.reduceSub, Nat.reduceMul, Nat.reduceEqDiff, Nat.reduceLeDiff, Nat.reduceLT, Int.reduceToNat, Int.reduceLE, Int.reduceLT, Int.reduceEq, Int.reduceNe, Int.reduceBEq, Int.reduceBNe, Nat.reduceBEq, Nat.reduceBNe, ↓reduceIte, reduceCtorEq, ↓reduceDIte, W_draw]
  · cases h
theorem ok38 : OkAt Tryd.prog 38 (φb pNote) := by
  refine ok_of (l := []) .nil fn38 fun args r h => ?_
  unfold φb at h
  split at h
  · rename_i n
    injection h with h; subst h
    refine ⟨by simp, by simp [D.cl], fun H T => ?_⟩
    unfold pNote
    simp (config := { contextual := true, maxSteps := 10000000 }) only [c38, go_sem, Nat.reduceAdd, Nat.reduceSub, Nat.reduceMul, Nat.reduceEqDiff, Nat.reduceLeDiff, Nat.reduceLT, Int.reduceToNat, Int.reduceLE, Int.reduceLT, Int.reduceEq, Int.reduceNe, Int.reduceBEq, Int.reduceBNe, Nat.reduceBEq, Nat.reduceBNe, ↓reduceIte, reduceCtorEq, ↓reduceDIte, W_draw]
  · cases h
theorem ok26 : OkAt Tryd.prog 26 (φb pWord) := by
  refine ok_of (l := [(27, φb pSmall), (28, φb pDigit)]) (.cons ok27 (.cons ok28 .nil)) fn26 fun args r h => ?_
  unfold φb at h
  split at h
  · rename_i n
    injection h with h; subst h
    refine ⟨by simp, by simp [D.cl], fun H T => ?_⟩
    unfold pWord
    have p1 : φb pSmall [.int .u8 n] = some (.bool (pSmall n)) := rfl
    have p2 : φb pDigit [.int .u8 n] = some (.bool (pDigit n)) := rfl
    rcases tf (pSmall n) with h1 | h1 <;> simp (config := { contextual := true, maxSteps := 10000000 }) only [c26, p1, p2, h1, go_sem, Nat.reduceAdd, Nat.reduceSub, Nat.reduceMul, Nat.reduceEqDiff, Nat.reduceLeDiff, Nat.reduceLT, Int.reduceToNat, Int.reduceLE, Int.reduceLT, Int.reduceEq, Int.reduceNe, Int.reduceBEq, Int.reduceBNe, Nat.reduceBEq, Nat.reduceBNe, ↓reduceIte, reduceCtorEq, ↓reduceDIte, W_draw]
  · cases h
theorem ok39 : OkAt Tryd.prog 39 (φb pWord) := by
  refine ok_of (l := [(27, φb pSmall), (28, φb pDigit)]) (.cons ok27 (.cons ok28 .nil)) fn39 fun args r h => ?_
  unfold φb at h
  split at h
  · rename_i n
    injection h with h; subst h
    refine ⟨by simp, by simp [D.cl], fun H T => ?_⟩
    unfold pWord
    have p1 : φb pSmall [.int .u8 n] = some (.bool (pSmall n)) := rfl
    have p2 : φb pDigit [.int .u8 n] = some (.bool (pDigit n)) := rfl
    rcases tf (pSmall n) with h1 | h1 <;> simp (config := { contextual := true, maxSteps := 10000000 }) only [c39, p1, p2, h1, go_sem, Nat.reduceAdd, Nat.reduceSub, Nat.reduceMul, Nat.reduceEqDiff, Nat.reduceLeDiff, Nat.reduceLT, Int.reduceToNat, Int.reduceLE, Int.reduceLT, Int.reduceEq, Int.reduceNe, Int.reduceBEq, Int.reduceBNe, Nat.reduceBEq, Nat.reduceBNe, ↓reduceIte, reduceCtorEq, ↓reduceDIte, W_draw]
  · cases h

/-! ### Runs -/
def runL (p : Int → Bool) (l : List UInt8) : Nat := (l.takeWhile fun b => p (b.toNat : Int)).length
def runN (p : Int → Bool) (l : List UInt8) (a : Nat) : Nat := runL p (l.drop a)
theorem runL_le (p : Int → Bool) (l : List UInt8) : runL p l ≤ l.length := (List.takeWhile_prefix _).sublist.length_le
theorem runL_eq {p : Int → Bool} : ∀ {l : List UInt8} {i : Nat}, (∀ j b, j < i → l[j]? = some b → p b.toNat = true) → i ≤ l.length → (i = l.length ∨ ∃ b, l[i]? = some b ∧ p b.toNat = false) → runL p l = i
  | [], i, _, h, _ => by simp at h; subst h; rfl
  | c :: l, 0, _, _, h => by
    rcases h with h | ⟨b, h1, h2⟩
    · simp at h
    · simp at h1; subst h1; simp [runL, h2]
  | c :: l, i + 1, h, hi, he => by
    have hc := h 0 c (by omega) rfl
    have := runL_eq (p := p) (l := l) (i := i) (fun j b hj hb => h (j + 1) b (by omega) (by simpa using hb)) (by simpa using hi) (by simpa using he)
    simp only [runL, List.takeWhile_cons, hc, if_true, List.length_cons] at this ⊢
    omega
theorem runN_eq {p : Int → Bool} {l : List UInt8} {a i : Nat} (h : ∀ j b, j < i → l[a + j]? = some b → p b.toNat = true) (hi : a + i ≤ l.length) (he : a + i = l.length ∨ ∃ b, l[a + i]? = some b ∧ p b.toNat = false) : runN p l a = i :=
  runL_eq (fun j b hj hb => h j b hj (by simpa using hb)) (by simp; omega) (he.imp (fun h => by simp; omega) (fun ⟨b, h1, h2⟩ => ⟨b, by simpa using h1, h2⟩))
theorem runN_le (p : Int → Bool) (l : List UInt8) (a : Nat) (h : a ≤ l.length) : a + runN p l a ≤ l.length := by
  have := runL_le p (l.drop a)
  unfold runN; simp at this; omega
/-- The sorts of bytes that are asked for. -/
def sorts (f : Nat) : Option (Int → Bool) := if f = 26 then some pWord else if f = 28 then some pDigit else if f = 29 then some pText else if f = 38 then some pNote else if f = 39 then some pWord else none
def lst : Fs := [(26, φb pWord), (28, φb pDigit), (29, φb pText), (38, φb pNote), (39, φb pWord)]
theorem lst_ok : Ok Tryd.prog lst := .cons ok26 (.cons ok28 (.cons ok29 (.cons ok38 (.cons ok39 .nil))))
theorem lst_look {f : Nat} {p : Int → Bool} (h : sorts f = some p) (n : Int) : look lst f [.int .u8 n] = some (.bool (p n)) := by
  unfold sorts at h
  split at h
  · rename_i e; subst e; injection h with h; subst h; rfl
  split at h
  · rename_i e; subst e; injection h with h; subst h; rfl
  split at h
  · rename_i e; subst e; injection h with h; subst h; rfl
  split at h
  · rename_i e; subst e; injection h with h; subst h; rfl
  split at h
  · rename_i e; subst e; injection h with h; subst h; rfl
  · cases h
def φrun : List D → Option D
  | [.str l, .int .i64 a, .fn f [] []] => match sorts f with
    | some p => if 0 ≤ a ∧ a ≤ l.length ∧ l.length ≤ 2 ^ 60 then some (.int .i64 (runN p l a.toNat)) else none
    | none => none
  | _ => none
set_option maxHeartbeats 2000000 in
theorem ok25 : OkAt Tryd.prog 25 φrun := by
  refine ok_of lst_ok fn25 fun args r h => ?_
  unfold φrun at h
  split at h
  · rename_i l a f
    split at h
    · rename_i p hp
      split at h
      · rename_i hc
        obtain ⟨ha0, ha, hl⟩ := hc
        injection h with h; subst h
        obtain ⟨a, rfl⟩ : ∃ k : Nat, a = (k : Int) := ⟨a.toNat, by omega⟩
        have ha : a ≤ l.length := by omega
        refine ⟨by simp, by simp [D.cl], fun H T => ?_⟩
        rw [show ((a : Int)).toNat = a from by omega]
        have pl := fun n => lst_look hp n
        simp (config := { contextual := true, maxSteps := 10000000 }) only [c25, go_sem, Nat.reduceAdd, Nat.reduceSub, Nat.reduceMul, Nat.reduceEqDiff, Nat.reduceLeDiff, Nat.reduceLT, Int.reduceToNat, Int.reduceLE, Int.reduceLT, Int.reduceEq, Int.reduceNe, Int.reduceBEq, Int.reduceBNe, Nat.reduceBEq, Nat.reduceBNe, ↓reduceIte, reduceCtorEq, ↓reduceDIte, W_draw]
        refine W_for (fun i s' => s'.t 0 = .str l ∧ s'.t 1 = .int .i64 a ∧ s'.t 2 = .fn f [] [] ∧ s'.t 7 = .int .i64 ((a + i : Nat) : Int) ∧ s'.H = H ∧ s'.T = T ∧ a + i ≤ l.length ∧ ∀ j b, j < i → l[a + j]? = some b → p b.toNat = true) l.length ⟨0, by simp [upd, argT, ha]⟩ (fun i s h => by have := h.2.2.2.2.2.2.1; omega) ?_ (XL_mono _)
        rintro i ⟨t, B, T'⟩ ⟨r0, r1, r2, r7, rfl, rfl, hi, hc⟩
        simp only at r0 r1 r2 r7
        have fin : ∀ {k : Nat}, k = i → (a + k = l.length ∨ ∃ b, l[a + k]? = some b ∧ p b.toNat = false) → runN p l a = k := fun e h => by subst e; exact runN_eq hc hi h
        have wS : IntKind.i64.wrap (((a + i : Nat) : Int) - (a : Int)) = (i : Int) := by rw [wrap_in (by omega) (by omega)]; omega
        by_cases hlt : a + i < l.length
        · have d1 : decide (((a + i : Nat) : Int) < l.length) = true := by simp only [decide_eq_true_eq]; omega
          have ex : l[a + i]? = some l[a + i] := by simp [hlt]
          obtain ⟨b, hb⟩ : ∃ b, l[a + i] = b := ⟨_, rfl⟩
          rw [hb] at ex
          have q := pl (b.toNat : Int)
          have ix := fun k => ixs_at ex k
          rcases tf (p (b.toNat : Int)) with g | g
          · have hnx : ∀ j b, j < i + 1 → l[a + j]? = some b → p b.toNat = true := fun j c hj hc' => by
              rcases Nat.lt_or_ge j i with h' | h'
              · exact hc j c h' hc'
              · have : j = i := by omega
                subst this; rw [ex] at hc'; injection hc' with hc'; subst hc'; exact g
            simp (config := { contextual := true, maxSteps := 10000000 }) only [r0, r1, r2, r7, d1, ix, q, g, wrap_su (a + i) (by omega), go_sem, Nat.reduceAdd, Nat.reduceSub, Nat.reduceMul, Nat.reduceEqDiff, Nat.reduceLeDiff, Nat.reduceLT, Int.reduceToNat, Int.reduceLE, Int.reduceLT, Int.reduceEq, Int.reduceNe, Int.reduceBEq, Int.reduceBNe, Nat.reduceBEq, Nat.reduceBNe, ↓reduceIte, reduceCtorEq, ↓reduceDIte, W_draw]
            exact ⟨by rw [Nat.add_assoc], by omega, hnx⟩
          · have hr := fin rfl (.inr ⟨b, ex, g⟩)
            rw [hr]
            simp (config := { contextual := true, maxSteps := 10000000 }) only [r0, r1, r2, r7, d1, ix, q, g, wS, go_sem, Nat.reduceAdd, Nat.reduceSub, Nat.reduceMul, Nat.reduceEqDiff, Nat.reduceLeDiff, Nat.reduceLT, Int.reduceToNat, Int.reduceLE, Int.reduceLT, Int.reduceEq, Int.reduceNe, Int.reduceBEq, Int.reduceBNe, Nat.reduceBEq, Nat.reduceBNe, ↓reduceIte, reduceCtorEq, ↓reduceDIte, W_draw]
        · have d1 : decide (((a + i : Nat) : Int) < l.length) = false := by simp only [decide_eq_false_iff_not]; omega
          have hr := fin rfl (.inl (by omega))
          rw [hr]
          simp (config := { contextual := true, maxSteps := 10000000 }) only [r0, r1, r2, r7, d1, wS, go_sem, Nat.reduceAdd, Nat.reduceSub, Nat.reduceMul, Nat.reduceEqDiff, Nat.reduceLeDiff, Nat.reduceLT, Int.reduceToNat, Int.reduceLE, Int.reduceLT, Int.reduceEq, Int.reduceNe, Int.reduceBEq, Int.reduceBNe, Nat.reduceBEq, Nat.reduceBNe, ↓reduceIte, reduceCtorEq, ↓reduceDIte, W_draw]
      · cases h
    · cases h
  · cases h
end GP
