import Derived.Test.YtnipbngimicldaaDoorGpYh
set_option linter.unusedSimpArgs false
/- Index, Contains: of texts. -/
namespace GP
open Go
open Rd O
set_option maxRecDepth 100000
variable {P : Program} [HasG P]

mutual
theorem isV_cl : ∀ {d : D}, d.isV = true → d.cl 0 0 = true
  | d, h => by
    unfold D.isV at h
    split at h
    · simp [D.cl, D.clL]
    · simp only [Bool.and_eq_true] at h
      simp [D.cl, D.clL, isVs_cl h.2]
    · cases h
theorem isVs_cl : ∀ {l : List D}, D.isVs l = true → D.clL 0 0 l = true
  | [], _ => by simp [D.clL]
  | d :: l, h => by
    simp only [D.isVs, Bool.and_eq_true] at h
    simp [D.clL, isV_cl h.1, isVs_cl h.2]
end
/-- A text. -/
def isTx (x : D) : Prop := ∃ w, x = .str w ∧ w.length ≤ 2 ^ 47
def strOf : D → List UInt8
  | .str w => w
  | _ => []
theorem isTx_erase {x : D} (h : isTx x) : x.erase = x := by obtain ⟨w, rfl, _⟩ := h; rfl
theorem isTx_El {x : D} (h : isTx x) : El false 1 x := by obtain ⟨w, rfl, _⟩ := h; exact ⟨rfl, rfl, rfl⟩

def idxSC : C :=
  (.seq (.reg [⟨(some 4), none, .mv (k (.int .i64 0))⟩])
  (.seq (.seq (.reg [⟨(some 6), none, .mv (t 0)⟩, ⟨(some 7), none, .len (t 6)⟩, ⟨(some 8), none, .mv (k (.int .i64 0))⟩])
  (.block 0
  (.loop
  (.seq (.reg [⟨(some 9), none, .bin .lss (t 8) (t 7)⟩])
  (.seq (.cond (t 9)
  .skip
  (.exit 0))
  (.seq (.block 1
  (.seq (.reg [⟨(some 10), none, .mv (t 8)⟩, ⟨(some 5), none, .mv (t 10)⟩])
  (.seq (.reg [⟨(some 11), none, .mv (t 1)⟩, ⟨(some 12), none, .mv (t 0)⟩, ⟨(some 13), none, .mv (t 5)⟩, ⟨(some 14), none, .iaddr 1 (t 12) (t 13)⟩, ⟨(some 15), none, .load false 1 (t 14)⟩, ⟨(some 16), none, .bin .eql (t 11) (t 15)⟩])
  (.cond (t 16)
  (.seq (.reg [⟨(some 17), none, .mv (t 5)⟩, ⟨(some 4), none, .mv (t 17)⟩])
  .ret)
  .skip))))
  (.reg [⟨(some 18), none, .bin .add (t 8) (k (.int .i64 1))⟩, ⟨(some 8), none, .mv (t 18)⟩])))))))
  (.seq (.reg [⟨(some 4), none, .mv (k (.int .i64 (-1)))⟩])
  .ret)))

open Classical in
noncomputable def φidxS : List D → Option D
  | [l, .str w] => if isLs isTx l then some (.int .i64 (idxP (fun x => w == strOf x) (elems l))) else none
  | _ => none
theorem okIdxS {N : FuncId} (hf : Fn P N 19 [.inl 4] idxSC) : OkAt P N φidxS := by
  refine ok_of (l := []) .nil hf fun args r h => ?_
  unfold φidxS at h
  split at h
  · rename_i l w
    split at h
    · rename_i hc
      obtain ⟨n, xs, rfl, hl, hx⟩ := hc
      rw [elems_sliceD] at h
      injection h with h; subst h
      refine ⟨by simp, by simp [D.cl], fun H T => ?_⟩
      simp (config := { contextual := true, maxSteps := 10000000 }) only [idxSC, go_sem, Nat.reduceAdd, Nat.reduceSub, Nat.reduceMul, Nat.reduceEqDiff, Nat.reduceLeDiff, Nat.reduceLT, Int.reduceToNat, Int.reduceLE, Int.reduceLT, Int.reduceEq, Int.reduceNe, Int.reduceBEq, Int.reduceBNe, Nat.reduceBEq, Nat.reduceBNe, ↓reduceIte, reduceCtorEq, ↓reduceDIte, W_draw]
      refine W_for (fun i s => s.t 0 = sliceD n xs ∧ s.t 1 = .str w ∧ s.t 6 = sliceD n xs ∧ s.t 7 = .int .i64 xs.length ∧ s.t 8 = .int .i64 i ∧ s.H = H ∧ s.T = T ∧ i ≤ xs.length ∧ ∀ (j : Nat) x, j < i → xs[j]? = some x → (w == strOf x) = false) xs.length ⟨0, by simp [upd, argT]⟩ (fun i s h => h.2.2.2.2.2.2.2.1) ?_ (XL_mono _)
      rintro i ⟨t, H', T'⟩ ⟨h0, h1, h6, h7, h8, rfl, rfl, hi, hc⟩
      simp only at h0 h1 h6 h7 h8
      by_cases ha : i < xs.length
      · have d1 : decide ((i : Int) < xs.length) = true := by simpa using ha
        have e : xs[i]? = some xs[i] := by simp [ha]
        obtain ⟨v, hv, _⟩ := hx _ (List.getElem_mem ha)
        generalize xs[i] = x at *
        subst hv
        have nx : (w == v) = false → ∀ (j : Nat) x, j < i + 1 → xs[j]? = some x → (w == strOf x) = false := fun hb j y hj hy => by
          by_cases hji : j = i
          · subst hji; rw [e] at hy; injection hy with hy; subst hy; exact hb
          · exact hc j y (by omega) hy
        have hI : (w == v) = true → idxP (fun x => w == strOf x) xs = i := fun hb => by
          unfold idxP
          rw [findIdx_at e hb hc]
        cases hb : (w == v) with
        | true =>
          have hI := hI hb
          simp (config := { contextual := true, maxSteps := 10000000 }) only [h0, h1, h6, h7, h8, d1, e, hb, hI, wrap_natY i (by omega), go_sem, Nat.reduceAdd, Nat.reduceSub, Nat.reduceMul, Nat.reduceEqDiff, Nat.reduceLeDiff, Nat.reduceLT, Int.reduceToNat, Int.reduceLE, Int.reduceLT, Int.reduceEq, Int.reduceNe, Int.reduceBEq, Int.reduceBNe, Nat.reduceBEq, Nat.reduceBNe, ↓reduceIte, reduceCtorEq, ↓reduceDIte, W_draw]
        | false =>
          have nx := nx hb
          simp (config := { contextual := true, maxSteps := 10000000 }) only [h0, h1, h6, h7, h8, d1, e, hb, wrap_natY i (by omega), go_sem, Nat.reduceAdd, Nat.reduceSub, Nat.reduceMul, Nat.reduceEqDiff, Nat.reduceLeDiff, Nat.reduceLT, Int.reduceToNat, Int.reduceLE, Int.reduceLT, Int.reduceEq, Int.reduceNe, Int.reduceBEq, Int.reduceBNe, Nat.reduceBEq, Nat.reduceBNe, ↓reduceIte, reduceCtorEq, ↓reduceDIte, W_draw]
          exact ⟨by omega, nx⟩
      · have d1 : decide ((i : Int) < xs.length) = false := by simpa using ha
        have hI : idxP (fun x => w == strOf x) xs = -1 := by
          unfold idxP
          rw [findIdx_no (fun j y hy => hc j y (by
            rcases Nat.lt_or_ge j i with h' | h'
            · exact h'
            · rw [List.getElem?_eq_none (by omega)] at hy; cases hy) hy)]
        simp (config := { contextual := true, maxSteps := 10000000 }) only [h0, h1, h6, h7, h8, d1, hI, go_sem, Nat.reduceAdd, Nat.reduceSub, Nat.reduceMul, Nat.reduceEqDiff, Nat.reduceLeDiff, Nat.reduceLT, Int.reduceToNat, Int.reduceLE, Int.reduceLT, Int.reduceEq, Int.reduceNe, Int.reduceBEq, Int.reduceBNe, Nat.reduceBEq, Nat.reduceBNe, ↓reduceIte, reduceCtorEq, ↓reduceDIte, W_draw]
    · cases h
  · cases h
open Classical in
noncomputable def φcontS : List D → Option D
  | [l, .str w] => if isLs isTx l then some (.bool ((elems l).any (fun x => w == strOf x))) else none
  | _ => none
theorem okContS {N M : FuncId} (hf : Fn P N 9 [.inl 4] (cfC M)) (hi : OkAt P M φidxS) : OkAt P N φcontS := by
  refine ok_of (l := [(M, φidxS)]) (.cons hi .nil) hf fun args r h => ?_
  unfold φcontS at h
  split at h
  · rename_i l w
    split at h
    · rename_i hc
      have p : φidxS [l, .str w] = some (.int .i64 (idxP (fun x => w == strOf x) (elems l))) := by
        simp only [φidxS]; rw [if_pos hc]
      have a := idxP_any (fun x => w == strOf x) (elems l)
      have el := isLs_erase (fun _ => isTx_erase) hc
      injection h with h; subst h
      refine ⟨by simp, by simp [D.cl], fun H T => ?_⟩
      simp (config := { contextual := true, maxSteps := 10000000 }) only [cfC, el, p, a, go_sem, Nat.reduceAdd, Nat.reduceSub, Nat.reduceMul, Nat.reduceEqDiff, Nat.reduceLeDiff, Nat.reduceLT, Int.reduceToNat, Int.reduceLE, Int.reduceLT, Int.reduceEq, Int.reduceNe, Int.reduceBEq, Int.reduceBNe, Nat.reduceBEq, Nat.reduceBNe, ↓reduceIte, reduceCtorEq, ↓reduceDIte, W_draw]
    · cases h
  · cases h
/-- A contract that looks at no memory, of a call that does. -/
theorem OkAtH.low {f : FuncId} {φ : List D → Option D} (h : OkAtH P f (fun _ => φ)) : OkAt P f φ := fun args r hr args' he H T Q hQ => h H args r hr args' he T Q hQ
end GP
