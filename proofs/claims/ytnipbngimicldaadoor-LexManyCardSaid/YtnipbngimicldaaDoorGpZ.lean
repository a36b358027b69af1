import Derived.Test.YtnipbngimicldaaDoorGpY
/- Functions whose answer looks at the caller's memory. -/
namespace GP
open Go

abbrev FsH := List (FuncId × (Hp → List D → Option D))

def lookH : FsH → Hp → FuncId → List D → Option D
  | [], _, _, _ => none
  | (g, φ) :: l, H, f, a => if f = g then φ H a else lookH l H f a

def MonoH (m : FsH) : Prop := ∀ H H' f a r, Hle H H' → lookH m H f a = some r → lookH m H' f a = some r

/-- Calls by a list of answers, some of which look at memory. -/
def XM (l : Fs) (m : FsH) : Pred := fun f args H T Q => match look l f (D.eraseL args) with
  | some r => Q r H T
  | none => match lookH m H f (D.eraseL args) with
    | some r => Q r H T
    | none => False

variable {P : Program} [HasG P]

def OkAtH (P : Program) [HasG P] (f : FuncId) (φ : Hp → List D → Option D) : Prop := ∀ H args r, φ H args = some r → ∀ args', D.eraseL args' = args → ∀ T (Q : Post), Q r H T → Snd P f args' H T Q
def OkH (P : Program) [HasG P] (m : FsH) : Prop := ∀ H f args r, lookH m H f args = some r → ∀ args', D.eraseL args' = args → ∀ T (Q : Post), Q r H T → Snd P f args' H T Q

theorem OkH.nil : OkH P [] := fun _ _ _ _ h => by simp [lookH] at h
theorem OkH.cons {f : FuncId} {φ : Hp → List D → Option D} {m : FsH} (h : OkAtH P f φ) (k : OkH P m) : OkH P ((f, φ) :: m) := by
  intro H g args r hr
  simp only [lookH] at hr
  split at hr
  · rename_i e; subst e; exact h H args r hr
  · exact k H g args r hr
theorem MonoH.nil : MonoH [] := fun _ _ _ _ _ _ h => by simp [lookH] at h
theorem MonoH.cons {f : FuncId} {φ : Hp → List D → Option D} {m : FsH} (h : ∀ H H' a r, Hle H H' → φ H a = some r → φ H' a = some r) (k : MonoH m) : MonoH ((f, φ) :: m) := by
  intro H H' g a r hl hr
  simp only [lookH] at hr ⊢
  split at hr
  · rename_i e; rw [if_pos e]; exact h H H' a r hl hr
  · rename_i e; rw [if_neg e]; exact k H H' g a r hl hr

theorem XM.X {l : Fs} {m : FsH} (k : Ok P l) (k' : OkH P m) : ∀ f args H T Q Q', (∀ r H T, Q r H T → Q' r H T) → XM l m f args H T Q → Snd P f args H T Q' := by
  intro f args H T Q Q' hQ h
  unfold XM at h
  split at h
  · rename_i r hr
    exact k f _ r hr args rfl H T Q' (hQ _ _ _ h)
  · split at h
    · rename_i r hr
      exact k' H f _ r hr args rfl T Q' (hQ _ _ _ h)
    · exact h.elim

theorem XM_mono (l : Fs) (m : FsH) : Mono (XM l m) := by
  intro f args H T Q Q' hQ h
  unfold XM at h ⊢
  split at h
  · exact hQ _ _ _ h
  · split at h
    · exact hQ _ _ _ h
    · exact h.elim

def orK (K : D → S → Prop) (s : S) : Option D → Option D → Prop
  | some r, _ => K r s
  | none, some r => K r s
  | none, none => False

theorem orK_s (K : D → S → Prop) (s : S) (r : D) (o : Option D) : orK K s (some r) o = K r s := id rfl
theorem orK_n (K : D → S → Prop) (s : S) (r : D) : orK K s none (some r) = K r s := id rfl

theorem pcallH {l : Fs} {m : FsH} (hm : MonoH m) (args : List D) (K : D → S → Prop) (s : S) (f : FuncId) (first cap : List D) :
    pcallK (XM l m) args K s (.fn f first cap) = orK K s (look l f (D.eraseL (first ++ args ++ cap))) (lookH m s.H f (D.eraseL (first ++ args ++ cap))) := by
  simp only [pcallK, eq_iff_iff]
  constructor
  · rintro ⟨r, h1, h2⟩
    have := h1 s.H s.T (fun r' _ _ => r' = r) (fun _ _ h _ => h) rfl
    unfold XM at this
    cases hr : look l f (D.eraseL (first ++ args ++ cap)) with
    | some r' => rw [hr] at this; simp only at this; subst this; exact h2
    | none =>
      rw [hr] at this
      cases hr' : lookH m s.H f (D.eraseL (first ++ args ++ cap)) with
      | some r' => rw [hr'] at this; simp only at this; subst this; exact h2
      | none => rw [hr'] at this; exact this.elim
  · intro h
    cases hr : look l f (D.eraseL (first ++ args ++ cap)) with
    | some r =>
      rw [hr] at h
      refine ⟨r, fun H' T' Q' _ hQ => ?_, h⟩
      unfold XM
      rw [hr]; exact hQ
    | none =>
      rw [hr] at h
      cases hr' : lookH m s.H f (D.eraseL (first ++ args ++ cap)) with
      | none => rw [hr'] at h; exact h.elim
      | some r =>
        rw [hr'] at h
        refine ⟨r, fun H' T' Q' hl hQ => ?_, h⟩
        unfold XM
        rw [hr]
        simp only
        rw [hm _ _ _ _ _ hl hr']
        exact hQ

/-- A function that only reads the caller's memory, by its body. -/
theorem okH_of {l : Fs} {m : FsH} (hl : Ok P l) (hm : OkH P m) {f : FuncId} {n : Nat} {rs : List (Sum Nat (Nat × Bool × Nat))} {cc : C} (hf : Fn P f n rs cc) {φ : Hp → List D → Option D}
    (h : ∀ H args r, φ H args = some r → args.length ≤ n ∧ r.cl 0 0 = true ∧ ∀ T, W (XM l m) cc (endQ rs (Leaves r H T)) ⟨argT args, H, T⟩) : OkAtH P f φ := by
  intro H args r hr args' he T Q hQ
  obtain ⟨h1, h2, h3⟩ := h H args r hr
  have hS : Snd P f args H T (Leaves r H T) := call_of hf h1 (W_mono (XM.X hl hm) (fun _ _ h => h) (h3 T))
  intro c w vs kg k1 k2 k3
  have k3' : Reps c args vs := by rw [← he]; exact k3.erase
  have hcl := D.cl_mono (Nat.zero_le H.length) (Nat.zero_le T.length) r h2
  rcases hS c w vs kg k1 k2 k3' with ⟨g1, g2⟩ | ⟨v, w', g1, g2⟩
  · exact .inl ⟨g1, g2.mono fun e w' k => CallPost.forget k1 k2 hcl hQ k⟩
  · exact .inr ⟨v, w', g1, CallPost.forget k1 k2 hcl hQ g2⟩

theorem lookH_nil (H : Hp) (f : FuncId) (a : List D) : lookH [] H f a = none := id rfl
theorem lookH_cons (g : FuncId) (φ : Hp → List D → Option D) (l : FsH) (H : Hp) (f : FuncId) (a : List D) : lookH ((g, φ) :: l) H f a = if f = g then φ H a else lookH l H f a := id rfl
end GP
