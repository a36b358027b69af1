import Derived.Test.YtnipbngimicldaaDoorGpYs
set_option linter.unusedSimpArgs false
/- Loops run out; a cut between two steps. -/
namespace GP
open Go
variable {X : Pred} {c a b : C} {Q : Ex → S → Prop} {s : S}
/-- A loop of so many rounds, run out. -/
def unr (X : Pred) (c : C) (Q : Ex → S → Prop) : Nat → S → Prop
  | 0, _ => False
  | n + 1, s => W X c (seqK (unr X c Q n) Q) s
theorem W_unr (N : Nat) (h : unr X c Q N s) (hX : Mono X) : W X (.loop c) Q s := by
  refine W_for (fun i s => i ≤ N ∧ unr X c Q (N - i) s) N ⟨0, Nat.zero_le _, h⟩ (fun i s h => h.1) (fun i s h => ?_) hX
  obtain ⟨h1, h2⟩ := h
  cases hk : N - i with
  | zero => rw [hk] at h2; exact h2.elim
  | succ m =>
    rw [hk] at h2
    refine W_mono hX ?_ h2
    intro e s' h
    cases e with
    | normal =>
      have : N - (i + 1) = m := by omega
      exact ⟨by omega, by rw [this]; exact h⟩
    | exit i => exact h
    | ret => exact h
theorem unr_s (n : Nat) : unr X c Q (n + 1) s = W X c (seqK (unr X c Q n) Q) s := id rfl
/-- Ahead of b a state of this kind is enough. -/
theorem W_cut {I : S → Prop} (hX : Mono X) (h : W X a (seqK I Q) s) (k : ∀ s, I s → W X b Q s) : W X (.seq a b) Q s := by
  show W X a (seqK (W X b Q) Q) s
  refine W_mono hX ?_ h
  intro e s' h
  cases e with
  | normal => exact k _ h
  | exit i => exact h
  | ret => exact h
end GP
