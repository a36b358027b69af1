import Derived.Test.YtnipbngimicldaaDoorGpY
/- Heaps that have grown: what was there is there. -/
namespace GP
open Go
variable {X : Pred} {K : D → S → Prop}

/-- B begins as H. -/
def Ext (H B : Hp) : Prop := ∃ L, B = H ++ L
theorem Ext.refl (H : Hp) : Ext H H := ⟨[], by simp⟩
theorem Ext.app {H B : Hp} (h : Ext H B) (X : Hp) : Ext H (B ++ X) := by obtain ⟨L, rfl⟩ := h; exact ⟨L ++ X, by simp⟩
theorem Ext.trans {A B C : Hp} (h : Ext A B) (k : Ext B C) : Ext A C := by obtain ⟨L, rfl⟩ := h; exact (Ext.refl A).app L |>.elim fun M e => by obtain ⟨N, rfl⟩ := k; exact ⟨M ++ N, by rw [e]; simp⟩
theorem Ext.of (H L : Hp) : Ext H (H ++ L) := ⟨L, rfl⟩
theorem Ext.pre {H L B : Hp} (h : Ext (H ++ L) B) : Ext H B := (Ext.of H L).trans h
theorem Ext.get {H B : Hp} (h : Ext H B) {o : Nat} {x : Ob} (hg : H[o]? = some x) : B[o]? = some x := by
  obtain ⟨L, rfl⟩ := h
  have : o < H.length := by
    rcases Nat.lt_or_ge o H.length with h' | h'
    · exact h'
    · rw [List.getElem?_eq_none h'] at hg; cases hg
  rw [List.getElem?_append_left this]; exact hg
theorem ext_self (H : Hp) : Ext H H = True := eq_true (Ext.refl H)
theorem ext_of (H L : Hp) : Ext H (H ++ L) = True := eq_true (Ext.of H L)
theorem Ext.t {H B : Hp} (h : Ext H B) : Ext H B = True := eq_true h
theorem Ext.ta {H B : Hp} (h : Ext H B) (X : Hp) : Ext H (B ++ X) = True := eq_true (h.app X)
theorem rdAt_E {B : Hp} {o : Nat} {cs : List D} (h : B[o]? = some (.row cs)) (off : Nat) : rdAt B (.ptr o off) = some (cs.drop off) := by simp [rdAt, h]
theorem rdAt_Ea {B : Hp} {o : Nat} {cs : List D} (h : B[o]? = some (.row cs)) (L : Hp) (off : Nat) : rdAt (B ++ L) (.ptr o off) = some (cs.drop off) := rdAt_E ((Ext.of B L).get h) off
theorem storeK_E {B : Hp} {o : Nat} {cs : List D} (h : B[o]? = some (.row cs)) (t : Nat → D) (T : Tk) (n off : Nat) (v : D) : storeK n K ⟨t, B, T⟩ (.ptr o off) v = (v.okc = true ∧ v.cells.length = n ∧ off + n ≤ cs.length ∧ K .top ⟨t, B.set o (.row (cs.take off ++ v.cells ++ cs.drop (off + n))), T⟩) := by simp [storeK, h]
theorem storeK_Ea {B : Hp} {o : Nat} {cs : List D} (h : B[o]? = some (.row cs)) (L : Hp) (t : Nat → D) (T : Tk) (n off : Nat) (v : D) : storeK n K ⟨t, B ++ L, T⟩ (.ptr o off) v = (v.okc = true ∧ v.cells.length = n ∧ off + n ≤ cs.length ∧ K .top ⟨t, B.set o (.row (cs.take off ++ v.cells ++ cs.drop (off + n))) ++ L, T⟩) := by
  have hlt : o < B.length := by
    rcases Nat.lt_or_ge o B.length with h' | h'
    · exact h'
    · rw [List.getElem?_eq_none h'] at h; cases h
  rw [storeK_E ((Ext.of B L).get h), List.set_append_left _ _ hlt]

/-- Tokens likewise. -/
def ExtT (T U : Tk) : Prop := ∃ L, U = T ++ L
theorem ExtT.refl (T : Tk) : ExtT T T := ⟨[], by simp⟩
theorem ExtT.app {T U : Tk} (h : ExtT T U) (X : Tk) : ExtT T (U ++ X) := by obtain ⟨L, rfl⟩ := h; exact ⟨L ++ X, by simp⟩
theorem ExtT.of (T L : Tk) : ExtT T (T ++ L) := ⟨L, rfl⟩
theorem extT_self (T : Tk) : ExtT T T = True := eq_true (ExtT.refl T)
theorem extT_of (T L : Tk) : ExtT T (T ++ L) = True := eq_true (ExtT.of T L)
theorem ExtT.t {T U : Tk} (h : ExtT T U) : ExtT T U = True := eq_true h
theorem ExtT.ta {T U : Tk} (h : ExtT T U) (X : Tk) : ExtT T (U ++ X) = True := eq_true (h.app X)
theorem leaves_E {r r0 : D} {H B : Hp} {T U : Tk} (h : Ext H B) (k : ExtT T U) : Leaves r0 H T r B U = (r.erase = r0) := by
  obtain ⟨L, rfl⟩ := h; obtain ⟨M, rfl⟩ := k; simp [Leaves]
theorem leaves_Ea {r r0 : D} {H B : Hp} {T U : Tk} (h : Ext H B) (k : ExtT T U) (L : Hp) : Leaves r0 H T r (B ++ L) U = (r.erase = r0) := leaves_E (h.app L) k
theorem leaves_Et {r r0 : D} {H B : Hp} {T U : Tk} (h : Ext H B) (k : ExtT T U) (M : Tk) : Leaves r0 H T r B (U ++ M) = (r.erase = r0) := leaves_E h (k.app M)
theorem leaves_Eat {r r0 : D} {H B : Hp} {T U : Tk} (h : Ext H B) (k : ExtT T U) (L : Hp) (M : Tk) : Leaves r0 H T r (B ++ L) (U ++ M) = (r.erase = r0) := leaves_E (h.app L) (k.app M)
end GP
