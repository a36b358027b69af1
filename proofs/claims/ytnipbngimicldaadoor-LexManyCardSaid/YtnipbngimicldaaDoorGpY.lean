import Derived.Test.YtnipbngimicldaaDoorGpS
import Derived.Test.YtnipbngimicldaaDoorGpU
/- Loops, and shapes of values. -/
namespace GP
open Go

theorem max_of {p : Nat → Prop} {N : Nat} (hN : ∀ i, p i → i ≤ N) : ∀ (k i : Nat), N - i ≤ k → p i → ∃ m, p m ∧ ∀ j, p j → j ≤ m
  | 0, i, hk, hi => ⟨i, hi, fun j hj => by have := hN j hj; omega⟩
  | k + 1, i, hk, hi => by
    by_cases h : ∃ j, p j ∧ i < j
    · obtain ⟨j, hj, hij⟩ := h
      exact max_of hN k j (by have := hN j hj; omega) hj
    · exact ⟨i, hi, fun j hj => Nat.le_of_not_lt fun hij => h ⟨j, hj, hij⟩⟩

open Classical in
noncomputable def topI (I : Nat → S → Prop) (s : S) : Nat := if h : ∃ m, I m s ∧ ∀ j, I j s → j ≤ m then h.choose else 0

/-- A loop that counts. -/
theorem W_for {X : Pred} {c : C} {Q : Ex → S → Prop} {s : S} (I : Nat → S → Prop) (N : Nat) (h0 : ∃ i, I i s) (hN : ∀ i s, I i s → i ≤ N) (step : ∀ i s, I i s → W X c (seqK (I (i + 1)) Q) s) (hX : Mono X) : W X (.loop c) Q s := by
  rw [W_loop]
  have hm : ∀ s, (∃ i, I i s) → I (topI I s) s ∧ ∀ j, I j s → j ≤ topI I s := by
    intro s ⟨i, hi⟩
    have h := max_of (p := fun i => I i s) (fun i h => hN i s h) (N - i) i (Nat.le_refl _) hi
    unfold topI
    rw [dif_pos h]
    exact h.choose_spec
  refine ⟨fun s => ∃ i, I i s, fun s => N - topI I s, h0, fun s hs => ?_⟩
  obtain ⟨h1, h2⟩ := hm s hs
  refine W_mono hX ?_ (step _ s h1)
  intro e s' h
  cases e with
  | normal =>
    simp only [seqK] at h ⊢
    obtain ⟨h3, h4⟩ := hm s' ⟨_, h⟩
    have := h4 _ h
    have := hN _ _ h3
    exact ⟨⟨_, h⟩, by omega⟩
  | exit i => exact h
  | ret => exact h

theorem XL_mono (l : Fs) : Mono (XL l) := by
  intro f args H T Q Q' hQ h
  unfold XL at h ⊢
  split at h
  · exact hQ _ _ _ h
  · exact h.elim

/-! ### Values -/
def elems : D → List D
  | .sl _ xs => xs
  | _ => []
def isSl : D → Bool
  | .nils => true
  | .sl none _ => true
  | _ => false

mutual
/-- The shape of a value of the program: kind, number, text, list. -/
def D.isV : D → Bool
  | .agg [.int .i64 _, .int .i64 _, .str s, .nils] => decide (s.length ≤ 2 ^ 47)
  | .agg [.int .i64 _, .int .i64 _, .str s, .sl none xs] => decide (s.length ≤ 2 ^ 47) && decide (xs.length ≤ 2 ^ 47) && D.isVs xs
  | _ => false
def D.isVs : List D → Bool
  | [] => true
  | d :: l => d.isV && D.isVs l
end

theorem isVs_iff : ∀ {l : List D}, D.isVs l = true ↔ ∀ d ∈ l, d.isV = true
  | [] => by simp [D.isVs]
  | d :: l => by simp [D.isVs, isVs_iff (l := l)]

/-- A value. -/
def mkV (k i : Int) (s : List UInt8) (n : Bool) (l : List D) : D := .agg [.int .i64 k, .int .i64 i, .str s, sliceD n l]

theorem isV_elim {d : D} (h : d.isV = true) : ∃ k i s n l, d = mkV k i s n l ∧ s.length ≤ 2 ^ 47 ∧ l.length ≤ 2 ^ 47 ∧ ∀ x ∈ l, x.isV = true := by
  unfold D.isV at h
  split at h
  · exact ⟨_, _, _, true, [], rfl, by simpa using h, by simp, by simp⟩
  · simp only [Bool.and_eq_true, decide_eq_true_eq] at h
    exact ⟨_, _, _, false, _, rfl, h.1.1, h.1.2, isVs_iff.1 h.2⟩
  · cases h

theorem isV_mk {k i : Int} {s : List UInt8} {n : Bool} {l : List D} (h1 : s.length ≤ 2 ^ 47) (h2 : l.length ≤ 2 ^ 47) (h3 : ∀ x ∈ l, x.isV = true) : (mkV k i s n l).isV = true := by
  unfold mkV
  rcases sliceD_cases n l with ⟨e, rfl⟩ | e <;> rw [e]
  · simp [D.isV, h1]
  · simp [D.isV, h1, h2, isVs_iff.2 h3]

@[go_sem] theorem elems_sliceD (n : Bool) (xs : List D) : elems (sliceD n xs) = xs := by
  rcases sliceD_cases n xs with ⟨h, rfl⟩ | h <;> rw [h] <;> rfl

def vk : D → Int
  | .agg (.int _ k :: _) => k
  | _ => 0
def vi : D → Int
  | .agg (_ :: .int _ k :: _) => k
  | _ => 0
def vs : D → List UInt8
  | .agg (_ :: _ :: .str s :: _) => s
  | _ => []
def vl : D → List D
  | .agg (_ :: _ :: _ :: l :: _) => elems l
  | _ => []

@[go_sem] theorem vk_mk (k i : Int) (s : List UInt8) (n : Bool) (l : List D) : vk (mkV k i s n l) = k := id rfl
@[go_sem] theorem vi_mk (k i : Int) (s : List UInt8) (n : Bool) (l : List D) : vi (mkV k i s n l) = i := id rfl
@[go_sem] theorem vs_mk (k i : Int) (s : List UInt8) (n : Bool) (l : List D) : vs (mkV k i s n l) = s := id rfl
@[go_sem] theorem vl_mk (k i : Int) (s : List UInt8) (n : Bool) (l : List D) : vl (mkV k i s n l) = l := by simp only [vl, mkV, elems_sliceD]

mutual
theorem isV_erase : ∀ {d : D}, d.isV = true → d.erase = d
  | d, h => by
    unfold D.isV at h
    split at h
    · simp [D.erase, D.eraseL]
    · rename_i s xs
      simp only [Bool.and_eq_true, decide_eq_true_eq] at h
      simp [D.erase, D.eraseL, isVs_erase h.2]
    · cases h
theorem isVs_erase : ∀ {l : List D}, D.isVs l = true → D.eraseL l = l
  | [], _ => by simp [D.eraseL]
  | d :: l, h => by
    simp only [D.isVs, Bool.and_eq_true] at h
    simp [D.eraseL, isV_erase h.1, isVs_erase h.2]
end
end GP
