import Derived.Test.YtnipbngimicldaaDoorGpdD
set_option linter.unusedSimpArgs false
/- LexGaps: gaps between tokens change nothing. -/
namespace GP
open Go Go.Proofs
set_option maxRecDepth 100000

/-! ### Tokens handed in -/
def isTkR (d : D) : Prop := ∃ k s n, d = mkT k s n ∧ s.length ≤ 2 ^ 47 ∧ -(2 ^ 63) ≤ n ∧ n < 2 ^ 63
theorem isTkR_tok {d : D} (h : isTkR d) : isTok d := by obtain ⟨k, s, n, h, _⟩ := h; exact ⟨k, s, n, h⟩
open Classical in
noncomputable def φsame2 : List D → Option D
  | [a, b] => if isTs a ∧ isTs b ∧ elems a = elems b then some (.bool true) else none
  | _ => none
set_option maxHeartbeats 4000000 in
theorem ok13b : OkAt Tryd.prog 13 φsame2 := by
  refine ok_of (l := []) .nil fn13 fun args r h => ?_
  unfold φsame2 at h
  split at h
  · rename_i a b
    split at h
    · rename_i hv
      obtain ⟨⟨n, xs, rfl, hl, hx⟩, ⟨n', xs', rfl, hl', hx'⟩, he⟩ := hv
      rw [elems_sliceD, elems_sliceD] at he
      subst he
      injection h with h; subst h
      refine ⟨by simp, by simp [D.cl], fun H T => ?_⟩
      have en : ((xs.length : Int) != (xs.length : Int)) = false := by simp
      simp (config := { contextual := true, maxSteps := 10000000 }) only [c13, en, go_sem, Nat.reduceAdd, Nat.reduceSub, Nat.reduceMul, Nat.reduceEqDiff, Nat.reduceLeDiff, Nat.reduceLT, Int.reduceToNat, Int.reduceLE, Int.reduceLT, Int.reduceEq, Int.reduceNe, Int.reduceBEq, Int.reduceBNe, Nat.reduceBEq, Nat.reduceBNe, ↓reduceIte, reduceCtorEq, ↓reduceDIte, W_draw]
      refine W_for (fun i s' => s'.t 0 = sliceD n xs ∧ s'.t 1 = sliceD n' xs ∧ s'.t 5 = .int .i64 (i : Nat) ∧ s'.H = H ∧ s'.T = T ∧ i ≤ xs.length) xs.length ⟨0, by simp [upd, argT]⟩ (fun i s h => h.2.2.2.2.2) ?_ (XL_mono _)
      rintro i ⟨t, B, T'⟩ ⟨r0, r1, r5, rfl, rfl, hi⟩
      simp only at r0 r1 r5
      by_cases hlt : i < xs.length
      · have d1 : decide (((i : Nat) : Int) < xs.length) = true := by simp only [decide_eq_true_eq]; omega
        have ex : xs[i]? = some xs[i] := by simp [hlt]
        obtain ⟨k, s, m, e⟩ := hx _ (List.getElem_mem hlt)
        rw [e] at ex
        simp only [mkT] at ex
        simp (config := { contextual := true, maxSteps := 10000000 }) only [r0, r1, r5, d1, ex, eqa_refl, wrap_su i (by omega), go_sem, Nat.reduceAdd, Nat.reduceSub, Nat.reduceMul, Nat.reduceEqDiff, Nat.reduceLeDiff, Nat.reduceLT, Int.reduceToNat, Int.reduceLE, Int.reduceLT, Int.reduceEq, Int.reduceNe, Int.reduceBEq, Int.reduceBNe, Nat.reduceBEq, Nat.reduceBNe, ↓reduceIte, reduceCtorEq, ↓reduceDIte, W_draw]
        omega
      · have d1 : decide (((i : Nat) : Int) < xs.length) = false := by simp only [decide_eq_false_iff_not]; omega
        simp (config := { contextual := true, maxSteps := 10000000 }) only [r0, r1, r5, d1, go_sem, Nat.reduceAdd, Nat.reduceSub, Nat.reduceMul, Nat.reduceEqDiff, Nat.reduceLeDiff, Nat.reduceLT, Int.reduceToNat, Int.reduceLE, Int.reduceLT, Int.reduceEq, Int.reduceNe, Int.reduceBEq, Int.reduceBNe, Nat.reduceBEq, Nat.reduceBNe, ↓reduceIte, reduceCtorEq, ↓reduceDIte, W_draw]
    · cases h
  · cases h
def tkS : D → List UInt8
  | .agg [_, .str s, _] => s
  | _ => []
def fewT (xs : List D) (n : Int) : Bool := (xs.take 100).all (fun d => decide (((tkS d).length : Int) ≤ 200)) && decide ((xs.length : Int) ≤ n)
open Classical in
noncomputable def φfew : List D → Option D
  | [a, .int .i64 n] => if isTs a then some (.bool (fewT (elems a) n)) else none
  | _ => none
theorem take_no {α : Type} {p : α → Bool} {l : List α} {j m : Nat} {x : α} (hx : l[j]? = some x) (hp : p x = false) (h : j < m) : (l.take m).all p = false :=
  all_no' (l := l.take m) (j := j) (by rw [List.getElem?_take, if_pos h]; exact hx) hp
set_option maxHeartbeats 4000000 in
theorem ok9 : OkAt Tryd.prog 9 φfew := by
  refine ok_of (l := []) .nil fn9 fun args r h => ?_
  unfold φfew at h
  split at h
  · rename_i a n
    split at h
    · rename_i hv
      obtain ⟨b, xs, rfl, hl, hx⟩ := hv
      injection h with h; subst h
      rw [elems_sliceD]
      refine ⟨by simp, by simp [D.cl], fun H T => ?_⟩
      unfold fewT
      simp (config := { contextual := true, maxSteps := 10000000 }) only [c9, go_sem, Nat.reduceAdd, Nat.reduceSub, Nat.reduceMul, Nat.reduceEqDiff, Nat.reduceLeDiff, Nat.reduceLT, Int.reduceToNat, Int.reduceLE, Int.reduceLT, Int.reduceEq, Int.reduceNe, Int.reduceBEq, Int.reduceBNe, Nat.reduceBEq, Nat.reduceBNe, ↓reduceIte, reduceCtorEq, ↓reduceDIte, W_draw]
      refine W_for (fun i s' => s'.t 0 = sliceD b xs ∧ s'.t 1 = .int .i64 n ∧ s'.t 5 = .int .i64 (i : Nat) ∧ s'.H = H ∧ s'.T = T ∧ i ≤ xs.length ∧ i ≤ 100 ∧ (xs.take i).all (fun d => decide (((tkS d).length : Int) ≤ 200)) = true) xs.length ⟨0, by simp [upd, argT]⟩ (fun i s h => h.2.2.2.2.2.1) ?_ (XL_mono _)
      rintro i ⟨t, B, T'⟩ ⟨r0, r1, r5, rfl, rfl, hi, hi2, hc⟩
      simp only at r0 r1 r5
      by_cases hlt : i < xs.length
      · have d1 : decide (((i : Nat) : Int) < xs.length) = true := by simp only [decide_eq_true_eq]; omega
        by_cases h100 : i < 100
        · have d2 : decide (((i : Nat) : Int) < 100) = true := by simp only [decide_eq_true_eq]; omega
          have ex : xs[i]? = some xs[i] := by simp [hlt]
          obtain ⟨k, s, m, e⟩ := hx _ (List.getElem_mem hlt)
          rw [e] at ex
          have no := fun hp => take_no (p := fun d => decide (((tkS d).length : Int) ≤ 200)) ex hp h100
          have nx := fun hp => all_nx' (p := fun d => decide (((tkS d).length : Int) ≤ 200)) ex hc hp
          have es : tkS (mkT k s m) = s := rfl
          simp only [es] at no nx
          simp only [mkT] at ex
          by_cases h200 : (200 : Int) < s.length
          · have d3 : decide ((200 : Int) < s.length) = true := by simpa using h200
            have no := no (decide_eq_false (by omega))
            rw [no]
            simp (config := { contextual := true, maxSteps := 10000000 }) only [r0, r1, r5, d1, d2, ex, d3, go_sem, Nat.reduceAdd, Nat.reduceSub, Nat.reduceMul, Nat.reduceEqDiff, Nat.reduceLeDiff, Nat.reduceLT, Int.reduceToNat, Int.reduceLE, Int.reduceLT, Int.reduceEq, Int.reduceNe, Int.reduceBEq, Int.reduceBNe, Nat.reduceBEq, Nat.reduceBNe, ↓reduceIte, reduceCtorEq, ↓reduceDIte, W_draw]
          · have d3 : decide ((200 : Int) < s.length) = false := by simpa using h200
            have nx := nx (decide_eq_true (by omega))
            simp (config := { contextual := true, maxSteps := 10000000 }) only [r0, r1, r5, d1, d2, ex, d3, wrap_su i (by omega), go_sem, Nat.reduceAdd, Nat.reduceSub, Nat.reduceMul, Nat.reduceEqDiff, Nat.reduceLeDiff, Nat.reduceLT, Int.reduceToNat, Int.reduceLE, Int.reduceLT, Int.reduceEq, Int.reduceNe, Int.reduceBEq, Int.reduceBNe, Nat.reduceBEq, Nat.reduceBNe, ↓reduceIte, reduceCtorEq, ↓reduceDIte, W_draw]
            exact ⟨by omega, by omega, nx⟩
        · have d2 : decide (((i : Nat) : Int) < 100) = false := by simp only [decide_eq_false_iff_not]; omega
          have : i = 100 := by omega
          subst this
          rw [hc, Bool.true_and]
          simp (config := { contextual := true, maxSteps := 10000000 }) only [r0, r1, r5, d1, d2, go_sem, Nat.reduceAdd, Nat.reduceSub, Nat.reduceMul, Nat.reduceEqDiff, Nat.reduceLeDiff, Nat.reduceLT, Int.reduceToNat, Int.reduceLE, Int.reduceLT, Int.reduceEq, Int.reduceNe, Int.reduceBEq, Int.reduceBNe, Nat.reduceBEq, Nat.reduceBNe, ↓reduceIte, reduceCtorEq, ↓reduceDIte, W_draw]
      · have d1 : decide (((i : Nat) : Int) < xs.length) = false := by simp only [decide_eq_false_iff_not]; omega
        have ht : xs.take 100 = xs.take i := by rw [List.take_of_length_le (by omega), List.take_of_length_le (by omega)]
        rw [ht, hc, Bool.true_and]
        simp (config := { contextual := true, maxSteps := 10000000 }) only [r0, r1, r5, d1, go_sem, Nat.reduceAdd, Nat.reduceSub, Nat.reduceMul, Nat.reduceEqDiff, Nat.reduceLeDiff, Nat.reduceLT, Int.reduceToNat, Int.reduceLE, Int.reduceLT, Int.reduceEq, Int.reduceNe, Int.reduceBEq, Int.reduceBNe, Nat.reduceBEq, Nat.reduceBNe, ↓reduceIte, reduceCtorEq, ↓reduceDIte, W_draw]
    · cases h
  · cases h

/-! ### LexGaps -/
def gapS (note : List UInt8) (k : Nat) : List UInt8 := if k = 0 then [32] else if k = 1 then [10] else if k = 2 then [32, 35] ++ note ++ [10] else [10, 10, 32, 32]
def isU8 (d : D) : Prop := ∃ b : UInt8, d = .int .u8 b.toNat
def gapK (gs : List D) (i : Nat) : Nat := match gs[i]? with
  | some (.int _ v) => v.toNat % 4
  | _ => 0
theorem gapL_note : ∀ (note r : List UInt8), note.all (fun b => !(b == 10)) = true → gapL true (note ++ 10 :: r) = note.length + 1 + gapL false r
  | [], r, _ => by simp [gapL]
  | c :: note, r, h => by
    simp only [List.all_cons, Bool.and_eq_true, Bool.not_eq_true'] at h
    have := gapL_note note r h.2
    simp only [List.cons_append, gapL, h.1, Bool.false_eq_true, if_false, this, List.length_cons]; omega
theorem gapL_end : ∀ (note : List UInt8), note.all (fun b => !(b == 10)) = true → gapL true note = note.length
  | [], _ => rfl
  | c :: note, h => by
    simp only [List.all_cons, Bool.and_eq_true, Bool.not_eq_true'] at h
    have := gapL_end note h.2
    simp only [gapL, h.1, Bool.false_eq_true, if_false, this, List.length_cons]; omega
theorem gapS_ok {note : List UInt8} (h : note.all (fun b => !(b == 10)) = true) (k : Nat) : gapOk (gapS note k) := by
  unfold gapS
  split
  · exact ⟨⟨32, [], rfl, .inl rfl⟩, fun r => by simp [gapL]⟩
  split
  · exact ⟨⟨10, [], rfl, .inr rfl⟩, fun r => by simp [gapL]⟩
  split
  · refine ⟨⟨32, _, rfl, .inl rfl⟩, fun r => ?_⟩
    have e : [32, 35] ++ note ++ [10] ++ r = 32 :: 35 :: (note ++ 10 :: r) := by simp
    rw [e]
    have g := gapL_note note r h
    simp [gapL, g]; omega
  · exact ⟨⟨10, _, rfl, .inr rfl⟩, fun r => by simp [gapL]; omega⟩
theorem tail_ok {note : List UInt8} (h : note.all (fun b => !(b == 10)) = true) : okRest ([32, 35] ++ note) ∧ gapL false ([32, 35] ++ note) = ([32, 35] ++ note).length := by
  refine ⟨.inr ⟨32, _, rfl, .inl rfl⟩, ?_⟩
  have e : [32, 35] ++ note = 32 :: 35 :: note := rfl
  rw [e]
  have g := gapL_end note h
  simp [gapL, g]; omega
theorem gapS_len {note : List UInt8} (h : note.length ≤ 20) (k : Nat) : (gapS note k).length ≤ 24 := by
  unfold gapS; split
  · simp
  split
  · simp
  split
  · simp; omega
  · simp
/-- The gaps and tokens so far. -/
def itemsG (xs gs : List D) (note : List UInt8) (i : Nat) : List (List UInt8 × D) := (List.range i).map fun j => (gapS note (gapK gs j), xs.getD j .top)
theorem itemsG_succ {xs : List D} (gs : List D) (note : List UInt8) {i : Nat} {x : D} (hx : xs[i]? = some x) : itemsG xs gs note (i + 1) = itemsG xs gs note i ++ [(gapS note (gapK gs i), x)] := by
  unfold itemsG; rw [List.range_succ, List.map_append]; simp [hx]
theorem itemsG_snd (xs gs : List D) (note : List UInt8) : (itemsG xs gs note xs.length).map (·.2) = xs := by
  unfold itemsG; rw [List.map_map]
  apply List.ext_getElem?
  intro i
  simp only [List.getElem?_map]
  by_cases h : i < xs.length
  · rw [List.getElem?_range h]; simp [h]
  · rw [List.getElem?_eq_none (by simp; omega), List.getElem?_eq_none (by omega)]; rfl
def fl (items : List (List UInt8 × D)) : List UInt8 := items.flatMap (fun p => p.1 ++ showD p.2)
theorem fl_app (a : List (List UInt8 × D)) (p : List UInt8 × D) : fl (a ++ [p]) = fl a ++ (p.1 ++ showD p.2) := by simp [fl]
theorem showP_len {k : Int} {s : List UInt8} {n : Int} (hs : s.length ≤ 200) (hn : k = 2 ∨ k = 4 → n < 2 ^ 63) : (showP k s n).length ≤ 402 := by
  have h1 := escL_len s
  unfold showP
  split
  · rename_i h
    have := hn (.inl (by simpa using h))
    have := dd_len (u := n.toNat) (by omega)
    omega
  split
  · rename_i h
    have := hn (.inr (by simpa using h))
    have := dd_len (u := n.toNat) (by omega)
    simp; omega
  split
  · simp; omega
  · omega
theorem form_pos {k : Int} {s : List UInt8} {n : Int} (h : formI k s n = true) : k = 2 ∨ k = 4 → 0 ≤ n := by
  rintro (rfl | rfl)
  · unfold formI at h; rw [if_neg (by decide), if_pos (by decide)] at h
    simp only [Bool.and_eq_true, decide_eq_true_eq] at h; exact h.2
  · unfold formI at h; rw [if_neg (by decide), if_neg (by decide), if_neg (by decide), if_pos (by decide)] at h
    simp only [Bool.and_eq_true, decide_eq_true_eq] at h; exact h.1.2
end GP
