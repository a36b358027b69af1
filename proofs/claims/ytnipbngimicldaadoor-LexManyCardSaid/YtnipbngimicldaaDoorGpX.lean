import Derived.Test.YtnipbngimicldaaDoorGpW
/- Functions by what they answer. -/
namespace GP
open Go

abbrev Fs := List (FuncId × (List D → Option D))

def look : Fs → FuncId → List D → Option D
  | [], _, _ => none
  | (g, φ) :: l, f, a => if f = g then φ a else look l f a

/-- Calls by a list of answers. -/
def XL (l : Fs) : Pred := fun f args H T Q => match look l f (D.eraseL args) with
  | some r => Q r H T
  | none => False

def OkAt (P : Program) [HasG P] (f : FuncId) (φ : List D → Option D) : Prop := ∀ args r, φ args = some r → ∀ args', D.eraseL args' = args → ∀ H T (Q : Post), Q r H T → Snd P f args' H T Q

def Ok (P : Program) [HasG P] (l : Fs) : Prop := ∀ f args r, look l f args = some r → ∀ args', D.eraseL args' = args → ∀ H T (Q : Post), Q r H T → Snd P f args' H T Q

variable {P : Program} [HasG P]

theorem Ok.nil : Ok P [] := fun _ _ _ h => by simp [look] at h
theorem Ok.cons {f : FuncId} {φ : List D → Option D} {l : Fs} (h : OkAt P f φ) (k : Ok P l) : Ok P ((f, φ) :: l) := by
  intro g args r hr
  simp only [look] at hr
  split at hr
  · rename_i e; subst e; exact h args r hr
  · exact k g args r hr

theorem Ok.X {l : Fs} (k : Ok P l) : ∀ f args H T Q Q', (∀ r H T, Q r H T → Q' r H T) → XL l f args H T Q → Snd P f args H T Q' := by
  intro f args H T Q Q' hQ h
  unfold XL at h
  split at h
  · rename_i r hr
    exact k f _ r hr args rfl H T Q' (hQ _ _ _ h)
  · exact h.elim

mutual
theorem D.cl_mono {n m n' m' : Nat} (hn : n ≤ n') (hm : m ≤ m') : ∀ (d : D), d.cl n m = true → d.cl n' m' = true
  | .sl t xs, h => by
    simp only [D.cl, Bool.and_eq_true] at h ⊢
    refine ⟨?_, D.clL_mono hn hm xs h.2⟩
    cases t with
    | none => rfl
    | some τ => have := h.1; simp only [decide_eq_true_eq] at this ⊢; omega
  | .el cs, h => by simp only [D.cl] at h ⊢; exact D.clL_mono hn hm cs h
  | .agg cs, h => by simp only [D.cl] at h ⊢; exact D.clL_mono hn hm cs h
  | .tup cs, h => by simp only [D.cl] at h ⊢; exact D.clL_mono hn hm cs h
  | .fn _ a b, h => by
    simp only [D.cl, Bool.and_eq_true] at h ⊢
    exact ⟨D.clL_mono hn hm a h.1, D.clL_mono hn hm b h.2⟩
  | .ifc _ d, h => by simp only [D.cl] at h ⊢; exact D.cl_mono hn hm d h
  | .ptr o _, h => by simp only [D.cl, decide_eq_true_eq] at h ⊢; omega
  | .mp o, h => by simp only [D.cl, decide_eq_true_eq] at h ⊢; omega
  | .ms _ _ o _ _ _, h => by simp only [D.cl, decide_eq_true_eq] at h ⊢; omega
  | .e0, _ | .bool _, _ | .int _ _, _ | .str _, _ | .nilp, _ | .nils, _ | .nilf, _ | .nilm, _ | .nili, _ | .top, _ => by simp [D.cl]
theorem D.clL_mono {n m n' m' : Nat} (hn : n ≤ n') (hm : m ≤ m') : ∀ (l : List D), D.clL n m l = true → D.clL n' m' l = true
  | [], _ => by simp [D.clL]
  | d :: l, h => by
    simp only [D.clL, Bool.and_eq_true] at h ⊢
    exact ⟨D.cl_mono hn hm d h.1, D.clL_mono hn hm l h.2⟩
end

/-- What a pure call leaves. -/
def Leaves (r0 : D) (H : Hp) (T : Tk) : Post := fun r H' T' => r.erase = r0 ∧ (∃ L, H' = H ++ L) ∧ ∃ U, T' = T ++ U

/-- A pure function, by its body. -/
theorem ok_of {l : Fs} (hl : Ok P l) {f : FuncId} {n : Nat} {rs : List (Sum Nat (Nat × Bool × Nat))} {cc : C} (hf : Fn P f n rs cc) {φ : List D → Option D}
    (h : ∀ args r, φ args = some r → args.length ≤ n ∧ r.cl 0 0 = true ∧ ∀ H T, W (XL l) cc (endQ rs (Leaves r H T)) ⟨argT args, H, T⟩) : OkAt P f φ := by
  intro args r hr args' he H T Q hQ
  obtain ⟨h1, h2, h3⟩ := h args r hr
  have hS : Snd P f args H T (Leaves r H T) := call_of hf h1 (W_mono hl.X (fun _ _ h => h) (h3 H T))
  intro c w vs kg k1 k2 k3
  have k3' : Reps c args vs := by rw [← he]; exact k3.erase
  have hcl := D.cl_mono (Nat.zero_le H.length) (Nat.zero_le T.length) r h2
  rcases hS c w vs kg k1 k2 k3' with ⟨g1, g2⟩ | ⟨v, w', g1, g2⟩
  · exact .inl ⟨g1, g2.mono fun e w' k => CallPost.forget k1 k2 hcl hQ k⟩
  · exact .inr ⟨v, w', g1, CallPost.forget k1 k2 hcl hQ g2⟩

end GP
