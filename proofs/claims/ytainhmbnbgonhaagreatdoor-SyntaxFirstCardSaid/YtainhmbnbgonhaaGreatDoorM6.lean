import Derived.Test.YtainhmbnbgonhaaGreatDoorM5
set_option linter.unusedSimpArgs false
namespace GP
open Go Go.Proofs
set_option maxRecDepth 100000
theorem wrapD (a : Int) : IntKind.i64.wrap a = if a % 2 ^ 64 ≥ 2 ^ 63 then a % 2 ^ 64 - 2 ^ 64 else a % 2 ^ 64 := by simp [IntKind.wrap, IntKind.bits, IntKind.signed]
theorem wrap_in {a : Int} (h1 : -(2 ^ 63) ≤ a) (h2 : a < 2 ^ 63) : IntKind.i64.wrap a = a := by rw [wrapD]; split <;> omega
theorem wrap_su (n : Nat) (h : n < 2 ^ 61) : IntKind.i64.wrap ((n : Int) + 1) = ((n + 1 : Nat) : Int) := by rw [wrap_in (by omega) (by omega)]; rfl
theorem ixs_s (l : List UInt8) (k : IntKind) (n : Int) : ixs (.str l) (.int k n) = if 0 ≤ n then (l[n.toNat]?).map fun b => .int .u8 b.toNat else none := rfl
theorem ixs_at {l : List UInt8} {i : Nat} {b : UInt8} (h : l[i]? = some b) (k : IntKind) : ixs (.str l) (.int k (i : Int)) = some (.int .u8 b.toNat) := by
  rw [ixs_s, if_pos (by omega)]; simp [h]
def pSmall (n : Int) : Bool := (decide (97 ≤ n) && decide (n ≤ 122)) || n == 95
def pDigit (n : Int) : Bool := decide (48 ≤ n) && decide (n ≤ 57)
def pWord (n : Int) : Bool := pSmall n || pDigit n
def pText (n : Int) : Bool := decide (32 ≤ n) && decide (n ≤ 126)
def pNote (n : Int) : Bool := n != 10
def φb (p : Int → Bool) : List D → Option D
  | [.int .u8 n] => some (.bool (p n))
  | _ => none
theorem ok147 : OkAt Tryz.prog 147 (φb pSmall) := by
  refine ok_of (l := []) .nil fn147 fun args r h => ?_
  unfold φb at h
  split at h
  · rename_i n
    injection h with h; subst h
    refine ⟨by simp, by simp [D.cl], fun H T => ?_⟩
    unfold pSmall
    rcases tf (decide (97 ≤ n)) with h1 | h1
    · rcases tf (decide (n ≤ 122)) with h2 | h2
      · simp (config := { contextual := true, maxSteps := 10000000 }) only [c147, h1, h2, go_sem, Nat.reduceAdd, Nat.reduceSub, Nat.reduceMul, Nat.reduceEqDiff, Nat.reduceLeDiff, Nat.reduceLT, Int.reduceToNat, Int.reduceLE, Int.reduceLT, Int.reduceEq, Int.reduceNe, Int.reduceBEq, Int.reduceBNe, Nat.reduceBEq, Nat.reduceBNe, ↓reduceIte, reduceCtorEq, ↓reduceDIte, W_draw]
      · simp (config := { contextual := true, maxSteps := 10000000 }) only [c147, h1, h2, go_sem, Nat.reduceAdd, Nat.reduceSub, Nat.reduceMul, Nat.reduceEqDiff, Nat.reduceLeDiff, Nat.reduceLT, Int.reduceToNat, Int.reduceLE, Int.reduceLT, Int.reduceEq, Int.reduceNe, Int.reduceBEq, Int.reduceBNe, Nat.reduceBEq, Nat.reduceBNe, ↓reduceIte, reduceCtorEq, ↓reduceDIte, W_draw]
    · simp (config := { contextual := true, maxSteps := 10000000 }) only [c147, h1, go_sem, Nat.reduceAdd, Nat.reduceSub, Nat.reduceMul, Nat.reduceEqDiff, Nat.reduceLeDiff, Nat.reduceLT, Int.reduceToNat, Int.reduceLE, Int.reduceLT, Int.reduceEq, Int.reduceNe, Int.reduceBEq, Int.reduceBNe, Nat.reduceBEq, Nat.reduceBNe, ↓reduceIte, reduceCtorEq, ↓reduceDIte, W_draw]
  · cases h
theorem ok148 : OkAt Tryz.prog 148 (φb pDigit) := by
  refine ok_of (l := []) .nil fn148 fun args r h => ?_
  unfold φb at h
  split at h
  · rename_i n
    injection h with h; subst h
    refine ⟨by simp, by simp [D.cl], fun H T => ?_⟩
    unfold pDigit
    rcases tf (decide (48 ≤ n)) with h1 | h1 <;> simp (config := { contextual := true, maxSteps := 10000000 }) only [c148, h1, go_sem, Nat.reduceAdd, Nat.reduceSub, Nat.reduceMul, Nat.reduceEqDiff, Nat.reduceLeDiff, Nat.reduceLT, Int.reduceToNat, Int.reduceLE, Int.reduceLT, Int.reduceEq, Int.reduceNe, Int.reduceBEq, Int.reduceBNe, Nat.reduceBEq, Nat.reduceBNe, ↓reduceIte, reduceCtorEq, ↓reduceDIte, W_draw]
  · cases h
theorem ok200 : OkAt Tryz.prog 200 (φb pText) := by
  refine ok_of (l := []) .nil fn200 fun args r h => ?_
  unfold φb at h
  split at h
  · rename_i n
    injection h with h; subst h
    refine ⟨by simp, by simp [D.cl], fun H T => ?_⟩
    unfold pText
    rcases tf (decide (32 ≤ n)) with h1 | h1 <;> simp (config := { contextual := true, maxSteps := 10000000 }) only [c200, h1, go_sem, Nat.reduceAdd, Nat.reduceSub, Nat.reduceMul, Nat.reduceEqDiff, Nat.reduceLeDiff, Nat.reduceLT, Int.reduceToNat, Int.reduceLE, Int.reduceLT, Int.reduceEq, Int.reduceNe, Int.reduceBEq, Int.reduceBNe, Nat.reduceBEq, Nat.reduceBNe, ↓reduceIte, reduceCtorEq, ↓reduceDIte, W_draw]
  · cases h
theorem ok145 : OkAt Tryz.prog 145 (φb pNote) := by
  refine ok_of (l := []) .nil fn145 fun args r h => ?_
  unfold φb at h
  split at h
  · rename_i n
    injection h with h; subst h
    refine ⟨by simp, by simp [D.cl], fun H T => ?_⟩
    unfold pNote
    simp (config := { contextual := true, maxSteps := 10000000 }) only [c145, go_sem, Nat.reduceAdd, Nat.reduceSub, Nat.reduceMul, Nat.reduceEqDiff, Nat.reduceLeDiff, Nat.reduceLT, Int.reduceToNat, Int.reduceLE, Int.reduceLT, Int.reduceEq, Int.reduceNe, Int.reduceBEq, Int.reduceBNe, Nat.reduceBEq, Nat.reduceBNe, ↓reduceIte, reduceCtorEq, ↓reduceDIte, W_draw]
  · cases h
theorem ok199 : OkAt Tryz.prog 199 (φb pWord) := by
  refine ok_of (l := [(147, φb pSmall), (148, φb pDigit)]) (.cons ok147 (.cons ok148 .nil)) fn199 fun args r h => ?_
  unfold φb at h
  split at h
  · rename_i n
    injection h with h; subst h
    refine ⟨by simp, by simp [D.cl], fun H T => ?_⟩
    unfold pWord
    have p1 : φb pSmall [.int .u8 n] = some (.bool (pSmall n)) := rfl
    have p2 : φb pDigit [.int .u8 n] = some (.bool (pDigit n)) := rfl
    rcases tf (pSmall n) with h1 | h1 <;> simp (config := { contextual := true, maxSteps := 10000000 }) only [c199, p1, p2, h1, go_sem, Nat.reduceAdd, Nat.reduceSub, Nat.reduceMul, Nat.reduceEqDiff, Nat.reduceLeDiff, Nat.reduceLT, Int.reduceToNat, Int.reduceLE, Int.reduceLT, Int.reduceEq, Int.reduceNe, Int.reduceBEq, Int.reduceBNe, Nat.reduceBEq, Nat.reduceBNe, ↓reduceIte, reduceCtorEq, ↓reduceDIte, W_draw]
  · cases h
theorem ok146 : OkAt Tryz.prog 146 (φb pWord) := by
  refine ok_of (l := [(147, φb pSmall), (148, φb pDigit)]) (.cons ok147 (.cons ok148 .nil)) fn146 fun args r h => ?_
  unfold φb at h
  split at h
  · rename_i n
    injection h with h; subst h
    refine ⟨by simp, by simp [D.cl], fun H T => ?_⟩
    unfold pWord
    have p1 : φb pSmall [.int .u8 n] = some (.bool (pSmall n)) := rfl
    have p2 : φb pDigit [.int .u8 n] = some (.bool (pDigit n)) := rfl
    rcases tf (pSmall n) with h1 | h1 <;> simp (config := { contextual := true, maxSteps := 10000000 }) only [c146, p1, p2, h1, go_sem, Nat.reduceAdd, Nat.reduceSub, Nat.reduceMul, Nat.reduceEqDiff, Nat.reduceLeDiff, Nat.reduceLT, Int.reduceToNat, Int.reduceLE, Int.reduceLT, Int.reduceEq, Int.reduceNe, Int.reduceBEq, Int.reduceBNe, Nat.reduceBEq, Nat.reduceBNe, ↓reduceIte, reduceCtorEq, ↓reduceDIte, W_draw]
  · cases h
def runL (p : Int → Bool) (l : List UInt8) : Nat := (l.takeWhile fun b => p (b.toNat : Int)).length
def runN (p : Int → Bool) (l : List UInt8) (a : Nat) : Nat := runL p (l.drop a)
theorem runL_le (p : Int → Bool) (l : List UInt8) : runL p l ≤ l.length := (List.takeWhile_prefix _).sublist.length_le
theorem runL_eq {p : Int → Bool} : ∀ {l : List UInt8} {i : Nat}, (∀ j b, j < i → l[j]? = some b → p b.toNat = true) → i ≤ l.length → (i = l.length ∨ ∃ b, l[i]? = some b ∧ p b.toNat = false) → runL p l = i
  | [], i, _, h, _ => by simp at h; subst h; rfl
  | c :: l, 0, _, _, h => by
    rcases h with h | ⟨b, h1, h2⟩
    · simp at h
    · simp at h1; subst h1; simp [runL, h2]
  | c :: l, i + 1, h, hi, he => by
    have hc := h 0 c (by omega) rfl
    have := runL_eq (p := p) (l := l) (i := i) (fun j b hj hb => h (j + 1) b (by omega) (by simpa using hb)) (by simpa using hi) (by simpa using he)
    simp only [runL, List.takeWhile_cons, hc, if_true, List.length_cons] at this ⊢
    omega
theorem runN_eq {p : Int → Bool} {l : List UInt8} {a i : Nat} (h : ∀ j b, j < i → l[a + j]? = some b → p b.toNat = true) (hi : a + i ≤ l.length) (he : a + i = l.length ∨ ∃ b, l[a + i]? = some b ∧ p b.toNat = false) : runN p l a = i :=
  runL_eq (fun j b hj hb => h j b hj (by simpa using hb)) (by simp; omega) (he.imp (fun h => by simp; omega) (fun ⟨b, h1, h2⟩ => ⟨b, by simpa using h1, h2⟩))
theorem runN_le (p : Int → Bool) (l : List UInt8) (a : Nat) (h : a ≤ l.length) : a + runN p l a ≤ l.length := by
  have := runL_le p (l.drop a)
  unfold runN; simp at this; omega
def sorts (f : Nat) : Option (Int → Bool) := if f = 199 then some pWord else if f = 148 then some pDigit else if f = 200 then some pText else if f = 145 then some pNote else if f = 146 then some pWord else none
def lst : Fs := [(199, φb pWord), (148, φb pDigit), (200, φb pText), (145, φb pNote), (146, φb pWord)]
theorem lst_ok : Ok Tryz.prog lst := .cons ok199 (.cons ok148 (.cons ok200 (.cons ok145 (.cons ok146 .nil))))
theorem lst_look {f : Nat} {p : Int → Bool} (h : sorts f = some p) (n : Int) : look lst f [.int .u8 n] = some (.bool (p n)) := by
  unfold sorts at h
  split at h
  · rename_i e; subst e; injection h with h; subst h; rfl
  split at h
  · rename_i e; subst e; injection h with h; subst h; rfl
  split at h
  · rename_i e; subst e; injection h with h; subst h; rfl
  split at h
  · rename_i e; subst e; injection h with h; subst h; rfl
  split at h
  · rename_i e; subst e; injection h with h; subst h; rfl
  · cases h
def φrun : List D → Option D
  | [.str l, .int .i64 a, .fn f [] []] => match sorts f with
    | some p => if 0 ≤ a ∧ a ≤ l.length ∧ l.length ≤ 2 ^ 60 then some (.int .i64 (runN p l a.toNat)) else none
    | none => none
  | _ => none
set_option maxHeartbeats 2000000 in
theorem ok144 : OkAt Tryz.prog 144 φrun := by
  refine ok_of lst_ok fn144 fun args r h => ?_
  unfold φrun at h
  split at h
  · rename_i l a f
    split at h
    · rename_i p hp
      split at h
      · rename_i hc
        obtain ⟨ha0, ha, hl⟩ := hc
        injection h with h; subst h
        obtain ⟨a, rfl⟩ : ∃ k : Nat, a = (k : Int) := ⟨a.toNat, by omega⟩
        have ha : a ≤ l.length := by omega
        refine ⟨by simp, by simp [D.cl], fun H T => ?_⟩
        rw [show ((a : Int)).toNat = a from by omega]
        have pl := fun n => lst_look hp n
        simp (config := { contextual := true, maxSteps := 10000000 }) only [c144, go_sem, Nat.reduceAdd, Nat.reduceSub, Nat.reduceMul, Nat.reduceEqDiff, Nat.reduceLeDiff, Nat.reduceLT, Int.reduceToNat, Int.reduceLE, Int.reduceLT, Int.reduceEq, Int.reduceNe, Int.reduceBEq, Int.reduceBNe, Nat.reduceBEq, Nat.reduceBNe, ↓reduceIte, reduceCtorEq, ↓reduceDIte, W_draw]
        refine W_for (fun i s' => s'.t 0 = .str l ∧ s'.t 1 = .int .i64 a ∧ s'.t 2 = .fn f [] [] ∧ s'.t 7 = .int .i64 ((a + i : Nat) : Int) ∧ s'.H = H ∧ s'.T = T ∧ a + i ≤ l.length ∧ ∀ j b, j < i → l[a + j]? = some b → p b.toNat = true) l.length ⟨0, by simp [upd, argT, ha]⟩ (fun i s h => by have := h.2.2.2.2.2.2.1; omega) ?_ (XL_mono _)
        rintro i ⟨t, B, T'⟩ ⟨r0, r1, r2, r7, rfl, rfl, hi, hc⟩
        simp only at r0 r1 r2 r7
        have fin : ∀ {k : Nat}, k = i → (a + k = l.length ∨ ∃ b, l[a + k]? = some b ∧ p b.toNat = false) → runN p l a = k := fun e h => by subst e; exact runN_eq hc hi h
        have wS : IntKind.i64.wrap (((a + i : Nat) : Int) - (a : Int)) = (i : Int) := by rw [wrap_in (by omega) (by omega)]; omega
        by_cases hlt : a + i < l.length
        · have d1 : decide (((a + i : Nat) : Int) < l.length) = true := by simp only [decide_eq_true_eq]; omega
          have ex : l[a + i]? = some l[a + i] := by simp [hlt]
          obtain ⟨b, hb⟩ : ∃ b, l[a + i] = b := ⟨_, rfl⟩
          rw [hb] at ex
          have q := pl (b.toNat : Int)
          have ix := fun k => ixs_at ex k
          rcases tf (p (b.toNat : Int)) with g | g
          · have hnx : ∀ j b, j < i + 1 → l[a + j]? = some b → p b.toNat = true := fun j c hj hc' => by
              rcases Nat.lt_or_ge j i with h' | h'
              · exact hc j c h' hc'
              · have : j = i := by omega
                subst this; rw [ex] at hc'; injection hc' with hc'; subst hc'; exact g
            simp (config := { contextual := true, maxSteps := 10000000 }) only [r0, r1, r2, r7, d1, ix, q, g, wrap_su (a + i) (by omega), go_sem, Nat.reduceAdd, Nat.reduceSub, Nat.reduceMul, Nat.reduceEqDiff, Nat.reduceLeDiff, Nat.reduceLT, Int.reduceToNat, Int.reduceLE, Int.reduceLT, Int.reduceEq, Int.reduceNe, Int.reduceBEq, Int.reduceBNe, Nat.reduceBEq, Nat.reduceBNe, ↓reduceIte, reduceCtorEq, ↓reduceDIte, W_draw]
            exact ⟨by rw [Nat.add_assoc], by omega, hnx⟩
          · have hr := fin rfl (.inr ⟨b, ex, g⟩)
            rw [hr]
            simp (config := { contextual := true, maxSteps := 10000000 }) only [r0, r1, r2, r7, d1, ix, q, g, wS, go_sem, Nat.reduceAdd, Nat.reduceSub, Nat.reduceMul, Nat.reduceEqDiff, Nat.reduceLeDiff, Nat.reduceLT, Int.reduceToNat, Int.reduceLE, Int.reduceLT, Int.reduceEq, Int.reduceNe, Int.reduceBEq, Int.reduceBNe, Nat.reduceBEq, Nat.reduceBNe, ↓reduceIte, reduceCtorEq, ↓reduceDIte, W_draw]
        · have d1 : decide (((a + i : Nat) : Int) < l.length) = false := by simp only [decide_eq_false_iff_not]; omega
          have hr := fin rfl (.inl (by omega))
          rw [hr]
          simp (config := { contextual := true, maxSteps := 10000000 }) only [r0, r1, r2, r7, d1, wS, go_sem, Nat.reduceAdd, Nat.reduceSub, Nat.reduceMul, Nat.reduceEqDiff, Nat.reduceLeDiff, Nat.reduceLT, Int.reduceToNat, Int.reduceLE, Int.reduceLT, Int.reduceEq, Int.reduceNe, Int.reduceBEq, Int.reduceBNe, Nat.reduceBEq, Nat.reduceBNe, ↓reduceIte, reduceCtorEq, ↓reduceDIte, W_draw]
      · cases h
    · cases h
  · cases h
end GP
set_option linter.unusedSimpArgs false
namespace GP
open Go Go.Proofs
set_option maxRecDepth 100000
def gapL : Bool → List UInt8 → Nat
  | _, [] => 0
  | true, c :: r => if c == 10 then 1 + gapL false r else 1 + gapL true r
  | false, c :: r => if c == 32 || c == 10 then 1 + gapL false r else if c == 35 then 1 + gapL true r else 0
theorem gapL_le : ∀ (b : Bool) (l : List UInt8), gapL b l ≤ l.length
  | b, [] => by cases b <;> simp [gapL]
  | true, c :: r => by
    have h1 := gapL_le false r; have h2 := gapL_le true r
    simp only [gapL, List.length_cons]; split <;> omega
  | false, c :: r => by
    have h1 := gapL_le false r; have h2 := gapL_le true r
    simp only [gapL, List.length_cons]; split
    · omega
    · split <;> omega
def betw (l : List UInt8) (a : Nat) : Nat := a + gapL false (l.drop a)
theorem betw_le {l : List UInt8} {a : Nat} (h : a ≤ l.length) : a ≤ betw l a ∧ betw l a ≤ l.length := by
  have := gapL_le false (l.drop a)
  unfold betw; simp at this; omega
theorem gap_note : ∀ (l : List UInt8), gapL true l = runL pNote l + gapL false (l.drop (runL pNote l))
  | [] => rfl
  | c :: r => by
    have ih := gap_note r
    by_cases h : c = 10
    · subst h; simp [gapL, runL, pNote]
    · have h1 : (c == 10) = false := by simpa using h
      have h2 : pNote (c.toNat : Int) = true := by
        simp only [pNote, bne_iff_ne, ne_eq]
        intro e; apply h
        exact UInt8.toNat_inj.1 (by simpa using (by omega : c.toNat = 10))
      simp only [gapL, h1, Bool.false_eq_true, if_false, runL, List.takeWhile_cons, h2, if_true, List.length_cons, List.drop_succ_cons]
      simp only [runL] at ih
      omega
theorem drop_at {l : List UInt8} {a : Nat} {b : UInt8} (h : l[a]? = some b) : l.drop a = b :: l.drop (a + 1) := by
  have hlt : a < l.length := by
    rcases Nat.lt_or_ge a l.length with h' | h'
    · exact h'
    · rw [List.getElem?_eq_none h'] at h; cases h
  have : l[a] = b := by simpa [hlt] using h
  rw [← this]; exact List.drop_eq_getElem_cons hlt
theorem u8_eq (b : UInt8) (n : Nat) (hn : n < 256) : ((b.toNat : Int) == (n : Int)) = (b == UInt8.ofNat n) := by
  rw [Bool.eq_iff_iff, beq_iff_eq, beq_iff_eq]
  constructor
  · intro h
    have h : b.toNat = n := by omega
    rw [← h]; simp
  · rintro rfl
    simp [UInt8.toNat_ofNat, Nat.mod_eq_of_lt hn]
def φbetw : List D → Option D
  | [.str l, .int .i64 a] => if 0 ≤ a ∧ a ≤ l.length ∧ l.length ≤ 2 ^ 60 then some (.int .i64 (betw l a.toNat : Nat)) else none
  | _ => none
set_option maxHeartbeats 4000000 in
theorem ok91 : OkAt Tryz.prog 91 φbetw := by
  refine ok_of (l := [(144, φrun)]) (.cons ok144 .nil) fn91 fun args r h => ?_
  unfold φbetw at h
  split at h
  · rename_i l a
    split at h
    · rename_i hc
      obtain ⟨ha0, ha, hl⟩ := hc
      injection h with h; subst h
      obtain ⟨a, rfl⟩ : ∃ k : Nat, a = (k : Int) := ⟨a.toNat, by omega⟩
      have ha : a ≤ l.length := by omega
      refine ⟨by simp, by simp [D.cl], fun H T => ?_⟩
      rw [show ((a : Int)).toNat = a from by omega]
      simp (config := { contextual := true, maxSteps := 10000000 }) only [c91, go_sem, Nat.reduceAdd, Nat.reduceSub, Nat.reduceMul, Nat.reduceEqDiff, Nat.reduceLeDiff, Nat.reduceLT, Int.reduceToNat, Int.reduceLE, Int.reduceLT, Int.reduceEq, Int.reduceNe, Int.reduceBEq, Int.reduceBNe, Nat.reduceBEq, Nat.reduceBNe, ↓reduceIte, reduceCtorEq, ↓reduceDIte, W_draw]
      refine W_for (fun i s' => s'.t 0 = .str l ∧ s'.H = H ∧ s'.T = T ∧ i ≤ l.length ∧ ∃ k : Nat, s'.t 1 = .int .i64 (k : Int) ∧ i ≤ k ∧ k ≤ l.length ∧ betw l k = betw l a) l.length ⟨0, by simp [upd, argT]; exact ⟨a, rfl, ha, rfl⟩⟩ (fun i s h => h.2.2.2.1) ?_ (XL_mono _)
      rintro i ⟨t, B, T'⟩ ⟨r0, rfl, rfl, hi, k, r1, h1, h2, h3⟩
      simp only at r0 r1
      by_cases hlt : k < l.length
      · have d1 : decide ((k : Int) < l.length) = true := by simp only [decide_eq_true_eq]; omega
        have ex : l[k]? = some l[k] := by simp [hlt]
        obtain ⟨b, hb⟩ : ∃ b, l[k] = b := ⟨_, rfl⟩
        rw [hb] at ex
        have ix := fun q => ixs_at ex q
        have dr := drop_at ex
        have e1 : ((b.toNat : Int) == 32) = (b == 32) := u8_eq b 32 (by decide)
        have e2 : ((b.toNat : Int) == 10) = (b == 10) := u8_eq b 10 (by decide)
        have e3 : ((b.toNat : Int) == 35) = (b == 35) := u8_eq b 35 (by decide)
        have blank : (b == 32 || b == 10) = true → betw l (k + 1) = betw l a := fun h => by
          rw [← h3]; unfold betw; rw [dr]; simp only [gapL]; rw [if_pos h]; omega
        rcases tf (b == 32) with g1 | g1
        · have hB := blank (by rw [g1]; rfl)
          simp (config := { contextual := true, maxSteps := 10000000 }) only [r0, r1, d1, ix, e1, g1, wrap_su k (by omega), go_sem, Nat.reduceAdd, Nat.reduceSub, Nat.reduceMul, Nat.reduceEqDiff, Nat.reduceLeDiff, Nat.reduceLT, Int.reduceToNat, Int.reduceLE, Int.reduceLT, Int.reduceEq, Int.reduceNe, Int.reduceBEq, Int.reduceBNe, Nat.reduceBEq, Nat.reduceBNe, ↓reduceIte, reduceCtorEq, ↓reduceDIte, W_draw]
          exact ⟨by omega, k + 1, rfl, by omega, by omega, hB⟩
        rcases tf (b == 10) with g2 | g2
        · have hB := blank (by rw [g1, g2]; rfl)
          simp (config := { contextual := true, maxSteps := 10000000 }) only [r0, r1, d1, ix, e1, e2, g1, g2, wrap_su k (by omega), go_sem, Nat.reduceAdd, Nat.reduceSub, Nat.reduceMul, Nat.reduceEqDiff, Nat.reduceLeDiff, Nat.reduceLT, Int.reduceToNat, Int.reduceLE, Int.reduceLT, Int.reduceEq, Int.reduceNe, Int.reduceBEq, Int.reduceBNe, Nat.reduceBEq, Nat.reduceBNe, ↓reduceIte, reduceCtorEq, ↓reduceDIte, W_draw]
          exact ⟨by omega, k + 1, rfl, by omega, by omega, hB⟩
        rcases tf (b == 35) with g3 | g3
        · have pr : φrun [.str l, .int .i64 (k : Int), .fn 145 [] []] = some (.int .i64 (runN pNote l k : Nat)) := by
            simp only [φrun]; rw [show sorts 145 = some pNote from rfl]; simp only; rw [if_pos ⟨by omega, by omega, by omega⟩]; simp
          have hle := runN_le pNote l k (by omega)
          have hnote : pNote (b.toNat : Int) = true := by
            simp only [pNote, bne]; rw [e2, g2]; rfl
          have hrun : runN pNote l k = 1 + runL pNote (l.drop (k + 1)) := by
            unfold runN runL; rw [dr]; simp only [List.takeWhile_cons, hnote, if_true, List.length_cons]; omega
          have hB : betw l (k + runN pNote l k) = betw l a := by
            rw [← h3]; unfold betw
            rw [dr]
            have : gapL false (b :: l.drop (k + 1)) = 1 + gapL true (l.drop (k + 1)) := by
              simp only [gapL, g1, g2, g3, Bool.or_self, Bool.false_eq_true, if_false, if_true]
            rw [this, gap_note, List.drop_drop, hrun, show k + 1 + runL pNote (l.drop (k + 1)) = k + (1 + runL pNote (l.drop (k + 1))) from by omega]
            omega
          have wS : IntKind.i64.wrap ((k : Int) + ((runN pNote l k : Nat) : Int)) = ((k + runN pNote l k : Nat) : Int) := by rw [wrap_in (by omega) (by omega)]; omega
          simp (config := { contextual := true, maxSteps := 10000000 }) only [r0, r1, d1, ix, e1, e2, e3, g1, g2, g3, pr, wS, go_sem, Nat.reduceAdd, Nat.reduceSub, Nat.reduceMul, Nat.reduceEqDiff, Nat.reduceLeDiff, Nat.reduceLT, Int.reduceToNat, Int.reduceLE, Int.reduceLT, Int.reduceEq, Int.reduceNe, Int.reduceBEq, Int.reduceBNe, Nat.reduceBEq, Nat.reduceBNe, ↓reduceIte, reduceCtorEq, ↓reduceDIte, W_draw]
          exact ⟨by omega, k + runN pNote l k, rfl, by omega, hle, hB⟩
        · have hB : betw l a = k := by
            rw [← h3]; unfold betw; rw [dr]; simp only [gapL, g1, g2, g3, Bool.or_self, Bool.false_eq_true, if_false]; rfl
          rw [hB]
          simp (config := { contextual := true, maxSteps := 10000000 }) only [r0, r1, d1, ix, e1, e2, e3, g1, g2, g3, go_sem, Nat.reduceAdd, Nat.reduceSub, Nat.reduceMul, Nat.reduceEqDiff, Nat.reduceLeDiff, Nat.reduceLT, Int.reduceToNat, Int.reduceLE, Int.reduceLT, Int.reduceEq, Int.reduceNe, Int.reduceBEq, Int.reduceBNe, Nat.reduceBEq, Nat.reduceBNe, ↓reduceIte, reduceCtorEq, ↓reduceDIte, W_draw]
      · have d1 : decide ((k : Int) < l.length) = false := by simp only [decide_eq_false_iff_not]; omega
        have hB : betw l a = k := by
          rw [← h3]; unfold betw; rw [List.drop_eq_nil_of_le (by omega)]; rfl
        rw [hB]
        simp (config := { contextual := true, maxSteps := 10000000 }) only [r0, r1, d1, go_sem, Nat.reduceAdd, Nat.reduceSub, Nat.reduceMul, Nat.reduceEqDiff, Nat.reduceLeDiff, Nat.reduceLT, Int.reduceToNat, Int.reduceLE, Int.reduceLT, Int.reduceEq, Int.reduceNe, Int.reduceBEq, Int.reduceBNe, Nat.reduceBEq, Nat.reduceBNe, ↓reduceIte, reduceCtorEq, ↓reduceDIte, W_draw]
    · cases h
  · cases h
def signsB : List (List UInt8) := [[61, 61], [33, 61], [60, 61], [62, 61], [123], [125], [40], [41], [91], [93], [59], [46], [44], [43], [45], [42], [60], [62]]
def φsigns : List D → Option D
  | [] => some (.sl none (signsB.map .str))
  | _ => none
theorem ok151 : OkAt Tryz.prog 151 φsigns := by
  refine ok_of (l := []) .nil fn151 fun args r h => ?_
  unfold φsigns at h
  split at h
  · injection h with h; subst h
    refine ⟨by simp, by decide, fun H T => ?_⟩
    simp (config := { contextual := true, maxSteps := 10000000 }) only [c151, go_sem, Nat.reduceAdd, Nat.reduceSub, Nat.reduceMul, Nat.reduceEqDiff, Nat.reduceLeDiff, Nat.reduceLT, Int.reduceToNat, Int.reduceLE, Int.reduceLT, Int.reduceEq, Int.reduceNe, Int.reduceBEq, Int.reduceBNe, Nat.reduceBEq, Nat.reduceBNe, ↓reduceIte, reduceCtorEq, ↓reduceDIte, W_draw]
    rfl
  · cases h
def hasP (l p : List UInt8) : Bool := l.take p.length == p
def φpre : List D → Option D
  | [.str l, .str p] => some (.bool (hasP l p))
  | _ => none
theorem ok186 : OkAt Tryz.prog 186 φpre := by
  refine ok_of (l := []) .nil fn186 fun args r h => ?_
  unfold φpre at h
  split at h
  · rename_i l p
    injection h with h; subst h
    refine ⟨by simp, by simp [D.cl], fun H T => ?_⟩
    unfold hasP
    by_cases hl : p.length ≤ l.length
    · have d1 : decide ((p.length : Int) ≤ l.length) = true := by simp only [decide_eq_true_eq]; omega
      have hs : sub (some 0) (some (p.length : Int)) (.str l) = some (.str (l.take p.length)) := by
        rw [sub_s, if_pos ⟨by omega, by omega, by omega⟩]; simp [subList]
      simp (config := { contextual := true, maxSteps := 10000000 }) only [c186, d1, hs, go_sem, Nat.reduceAdd, Nat.reduceSub, Nat.reduceMul, Nat.reduceEqDiff, Nat.reduceLeDiff, Nat.reduceLT, Int.reduceToNat, Int.reduceLE, Int.reduceLT, Int.reduceEq, Int.reduceNe, Int.reduceBEq, Int.reduceBNe, Nat.reduceBEq, Nat.reduceBNe, ↓reduceIte, reduceCtorEq, ↓reduceDIte, W_draw]
    · have d1 : decide ((p.length : Int) ≤ l.length) = false := by simp only [decide_eq_false_iff_not]; omega
      have hf : (l.take p.length == p) = false := by
        rw [beq_eq_false_iff_ne]; intro e
        have := congrArg List.length e
        simp at this; omega
      simp (config := { contextual := true, maxSteps := 10000000 }) only [c186, d1, hf, go_sem, Nat.reduceAdd, Nat.reduceSub, Nat.reduceMul, Nat.reduceEqDiff, Nat.reduceLeDiff, Nat.reduceLT, Int.reduceToNat, Int.reduceLE, Int.reduceLT, Int.reduceEq, Int.reduceNe, Int.reduceBEq, Int.reduceBNe, Nat.reduceBEq, Nat.reduceBNe, ↓reduceIte, reduceCtorEq, ↓reduceDIte, W_draw]
  · cases h
theorem ok152 : OkAt Tryz.prog 152 φpre := by
  refine ok_of (l := [(186, φpre)]) (.cons ok186 .nil) fn152 fun args r h => ?_
  unfold φpre at h
  split at h
  · rename_i l p
    injection h with h; subst h
    refine ⟨by simp, by simp [D.cl], fun H T => ?_⟩
    have q : φpre [.str l, .str p] = some (.bool (hasP l p)) := rfl
    simp (config := { contextual := true, maxSteps := 10000000 }) only [c152, q, go_sem, Nat.reduceAdd, Nat.reduceSub, Nat.reduceMul, Nat.reduceEqDiff, Nat.reduceLeDiff, Nat.reduceLT, Int.reduceToNat, Int.reduceLE, Int.reduceLT, Int.reduceEq, Int.reduceNe, Int.reduceBEq, Int.reduceBNe, Nat.reduceBEq, Nat.reduceBNe, ↓reduceIte, reduceCtorEq, ↓reduceDIte, W_draw]
  · cases h
def txtL : List UInt8 → List UInt8 → Nat → List UInt8 × Nat
  | [], _, _ => ([], 0)
  | c :: r, out, k =>
    if c == 34 then (out, k + 1) else
    if c == 92 then (match r with
      | [] => ([], 0)
      | d :: r => if (d != 34) && (d != 92) then ([], 0) else if decide (64 < out.length + 1) then ([], 0) else txtL r (out ++ [d]) (k + 2)) else
    if !(pText c.toNat) then ([], 0) else if decide (64 < out.length + 1) then ([], 0) else txtL r (out ++ [c]) (k + 1)
def txtP (l : List UInt8) (a : Nat) : List UInt8 × Nat := txtL (l.drop (a + 1)) [] 1
def tupS (p : List UInt8 × Nat) : D := .tup [.str p.1, .int .i64 (p.2 : Nat)]
def φtext : List D → Option D
  | [.str l, .int .i64 a] => if 0 ≤ a ∧ a + 1 ≤ l.length ∧ l.length ≤ 2 ^ 60 then some (tupS (txtP l a.toNat)) else none
  | _ => none
theorem tupS_cl (p : List UInt8 × Nat) : (tupS p).cl 0 0 = true := by simp [tupS, D.cl, D.clL]
end GP
