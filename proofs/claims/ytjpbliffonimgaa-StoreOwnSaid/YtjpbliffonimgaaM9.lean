import Derived.Lib.Overlaps
import Derived.Test.YtjpbliffonimgaaM0
import Derived.Test.YtjpbliffonimgaaM5
import Derived.Test.YtjpbliffonimgaaM6
import Derived.Test.YtjpbliffonimgaaM8
set_option linter.unusedSimpArgs false
set_option linter.unnecessarySimpa false
set_option linter.unusedSectionVars false
namespace GP
structure Ord {α : Type} (o : α → α → Int) : Prop where
  anti : ∀ a b, o b a = - o a b
  tr : ∀ a b c, o a b < 0 → o b c < 0 → o a c < 0
  eq : ∀ a b c, o a b = 0 → o a c = o b c
variable {α : Type} {o : α → α → Int}
def Ris (o : α → α → Int) (l : List α) : Prop := l.Pairwise fun a b => o a b < 0
namespace Ord
theorem refl (h : Ord o) (a : α) : o a a = 0 := by have := h.anti a a; omega
theorem eqr (h : Ord o) {a b c : α} (e : o b c = 0) : o a b = o a c := by
  have h1 := h.eq b c a e
  rw [h.anti a b, h.anti a c] at h1; omega
def pos (o : α → α → Int) (x : α) : List α → Nat
  | [] => 0
  | y :: l => if o y x < 0 then pos o x l + 1 else 0
theorem pos_le (x : α) : ∀ l : List α, pos o x l ≤ l.length
  | [] => by simp [pos]
  | y :: l => by have := pos_le x l; unfold pos; split <;> simp <;> omega
theorem pos_lt (x : α) : ∀ (l : List α) (i : Nat) (h : i < l.length), i < pos o x l → o l[i] x < 0
  | y :: l, i, h, hp => by
    unfold pos at hp
    split at hp
    · rename_i h1
      cases i with
      | zero => exact h1
      | succ i => exact pos_lt x l i (by simpa using h) (by omega)
    · omega
theorem pos_ge (h : Ord o) (x : α) : ∀ (l : List α), Ris o l → ∀ (i : Nat) (hi : i < l.length), pos o x l ≤ i → ¬ o l[i] x < 0
  | y :: l, hr, i, hi, hp => by
    unfold Ris at hr
    rw [List.pairwise_cons] at hr
    unfold pos at hp
    split at hp
    · cases i with
      | zero => omega
      | succ i => exact pos_ge h x l hr.2 i (by simpa using hi) (by omega)
    · rename_i h1
      cases i with
      | zero => exact h1
      | succ i =>
        have h2 := hr.1 (l[i]'(by simpa using hi)) (List.getElem_mem _)
        simp only [List.getElem_cons_succ]
        intro h3
        exact h1 (h.tr _ _ _ h2 h3)
def has (o : α → α → Int) (x : α) (l : List α) : Bool := l.any fun y => o y x == 0
def put (o : α → α → Int) (x : α) (l : List α) : List α := l.take (pos o x l) ++ x :: l.drop (pos o x l + if has o x l then 1 else 0)
def rem (o : α → α → Int) (x : α) (l : List α) : List α := l.take (pos o x l) ++ l.drop (pos o x l + 1)
theorem has_at (h : Ord o) {x : α} {l : List α} (hr : Ris o l) : has o x l = true ↔ ∃ h : pos o x l < l.length, o (l[pos o x l]) x = 0 := by
  unfold has
  rw [List.any_eq_true]
  constructor
  · rintro ⟨y, hy, e⟩
    have e : o y x = 0 := by simpa using e
    obtain ⟨i, hi, rfl⟩ := List.getElem_of_mem hy
    have hp : i = pos o x l := by
      rcases Nat.lt_trichotomy i (pos o x l) with h1 | h1 | h1
      · have := pos_lt (o := o) x l i hi h1; omega
      · exact h1
      · exfalso
        have hpl : pos o x l < l.length := by omega
        have h2 := pos_ge h x l hr _ hpl (Nat.le_refl _)
        unfold Ris at hr
        rw [List.pairwise_iff_getElem] at hr
        have h3 := hr _ _ hpl hi h1
        rw [h.eqr e] at h3
        exact h2 h3
    subst hp
    exact ⟨hi, e⟩
  · rintro ⟨hi, e⟩
    exact ⟨_, List.getElem_mem hi, by simp [e]⟩
theorem split (h : Ord o) {x : α} {l : List α} (hr : Ris o l) : (∀ y ∈ l.take (pos o x l), o y x < 0) ∧ (∀ y ∈ l.drop (pos o x l + if has o x l then 1 else 0), 0 < o y x) := by
  have hr0 := hr
  unfold Ris at hr
  rw [List.pairwise_iff_getElem] at hr
  constructor
  · intro y hy
    obtain ⟨i, hi, rfl⟩ := List.getElem_of_mem hy
    rw [List.length_take] at hi
    rw [List.getElem_take]
    exact pos_lt x l i (by omega) (by omega)
  · intro y hy
    obtain ⟨i, hi, rfl⟩ := List.getElem_of_mem hy
    rw [List.length_drop] at hi
    rw [List.getElem_drop]
    have h1 := pos_ge h x l hr0 ((pos o x l + if has o x l then 1 else 0) + i) (by omega) (by omega)
    have h2 : o (l[(pos o x l + if has o x l then 1 else 0) + i]'(by omega)) x ≠ 0 := fun e => by
      have hk : (pos o x l + if has o x l then 1 else 0) + i < l.length := by omega
      have hh : has o x l = true := List.any_eq_true.2 ⟨_, List.getElem_mem hk, by rw [beq_iff_eq]; exact e⟩
      rw [has_at h hr0] at hh
      obtain ⟨h3, h4⟩ := hh
      have hh : has o x l = true := (has_at h hr0).2 ⟨h3, h4⟩
      have h5 := hr _ _ h3 (show (pos o x l + if has o x l then 1 else 0) + i < l.length by omega) (by rw [if_pos hh]; omega)
      rw [h.eqr e, h4] at h5; omega
    omega
theorem rest (h : Ord o) {x : α} {l : List α} (hr : Ris o l) (y : α) : y ∈ l.take (pos o x l) ++ l.drop (pos o x l + if has o x l then 1 else 0) ↔ y ∈ l ∧ o y x ≠ 0 := by
  obtain ⟨s1, s2⟩ := h.split (x := x) hr
  constructor
  · intro hy
    rcases List.mem_append.1 hy with hy | hy
    · exact ⟨List.mem_of_mem_take hy, by have := s1 y hy; omega⟩
    · exact ⟨List.mem_of_mem_drop hy, by have := s2 y hy; omega⟩
  · rintro ⟨hy, hne⟩
    rw [List.mem_append]
    by_cases hh : has o x l = true
    · rw [if_pos hh]
      obtain ⟨h3, h4⟩ := (has_at h hr).1 hh
      have e : l = l.take (pos o x l) ++ l[pos o x l] :: l.drop (pos o x l + 1) := by rw [← List.drop_eq_getElem_cons h3, List.take_append_drop]
      rw [e, List.mem_append, List.mem_cons] at hy
      rcases hy with hy | rfl | hy
      · exact .inl hy
      · exact absurd h4 hne
      · exact .inr hy
    · rw [if_neg hh, Nat.add_zero]
      rw [← List.take_append_drop (pos o x l) l, List.mem_append] at hy
      exact hy
theorem put_mem (h : Ord o) {x : α} {l : List α} (hr : Ris o l) (y : α) : y ∈ put o x l ↔ y = x ∨ (y ∈ l ∧ o y x ≠ 0) := by
  unfold put
  rw [← h.rest hr y]
  simp only [List.mem_append, List.mem_cons]
  constructor
  · rintro (h | h | h) <;> simp [h]
  · rintro (h | h | h) <;> simp [h]
theorem put_ris (h : Ord o) {x : α} {l : List α} (hr : Ris o l) : Ris o (put o x l) := by
  obtain ⟨s1, s2⟩ := h.split (x := x) hr
  have r1 : Ris o (l.take (pos o x l)) := List.Pairwise.sublist (List.take_sublist _ _) hr
  have r2 : Ris o (l.drop (pos o x l + if has o x l then 1 else 0)) := List.Pairwise.sublist (List.drop_sublist _ _) hr
  unfold put Ris
  refine List.pairwise_append.2 ⟨r1, List.pairwise_cons.2 ⟨fun y hy => ?_, r2⟩, fun a ha b hb => ?_⟩
  · have := s2 y hy; have := h.anti x y; omega
  · rcases List.mem_cons.1 hb with rfl | hb
    · exact s1 a ha
    · have := s2 b hb; have := h.anti x b
      exact h.tr a x b (s1 a ha) (by omega)
theorem rem_mem (h : Ord o) {x : α} {l : List α} (hr : Ris o l) (hh : has o x l = true) (y : α) : y ∈ rem o x l ↔ y ∈ l ∧ o y x ≠ 0 := by
  have := h.rest (x := x) hr y
  rw [if_pos hh] at this
  exact this
theorem rem_ris {x : α} {l : List α} (hr : Ris o l) : Ris o (rem o x l) := by
  refine List.Pairwise.sublist ?_ hr
  have h1 : (l.drop (pos o x l + 1)).Sublist (l.drop (pos o x l)) := by
    rw [← List.drop_drop]; exact List.drop_sublist _ _
  have h2 := List.Sublist.append (List.Sublist.refl (l.take (pos o x l))) h1
  rw [List.take_append_drop] at h2
  exact h2
def Dis (o : α → α → Int) (l : List α) : Prop := l.Pairwise fun a b => o a b ≠ 0
def at_ (o : α → α → Int) (x : α) (l : List α) : Option Nat := l.findIdx? fun y => o y x == 0
def set_ (o : α → α → Int) (x : α) (l : List α) : List α := match at_ o x l with
  | none => l ++ [x]
  | some i => l.set i x
def del_ (o : α → α → Int) (x : α) (l : List α) : List α := match at_ o x l with
  | none => l
  | some i => l.take i ++ l.drop (i + 1)
theorem at_none {x : α} {l : List α} : at_ o x l = none ↔ has o x l = false := by
  unfold at_ has
  rw [List.findIdx?_eq_none_iff, List.any_eq_false]
  simp
theorem at_some {x : α} {l : List α} {i : Nat} (h : at_ o x l = some i) : ∃ hi : i < l.length, o l[i] x = 0 ∧ has o x l = true := by
  unfold at_ at h
  rw [List.findIdx?_eq_some_iff_getElem] at h
  obtain ⟨hi, h1, _⟩ := h
  have h1 : o l[i] x = 0 := by simpa using h1
  exact ⟨hi, h1, List.any_eq_true.2 ⟨_, List.getElem_mem hi, by simp [h1]⟩⟩
theorem dis_ne (h : Ord o) {l : List α} (hd : Dis o l) {i j : Nat} (hi : i < l.length) (hj : j < l.length) (hij : i ≠ j) : o l[i] l[j] ≠ 0 := by
  unfold Dis at hd
  rw [List.pairwise_iff_getElem] at hd
  rcases Nat.lt_or_ge i j with h1 | h1
  · exact hd i j hi hj h1
  · have := hd j i hj hi (by omega)
    have := h.anti l[i] l[j]
    omega
theorem splitAt (h : Ord o) {x : α} {l : List α} {i : Nat} (hd : Dis o l) (ha : at_ o x l = some i) (y : α) : y ∈ l.take i ++ l.drop (i + 1) ↔ y ∈ l ∧ o y x ≠ 0 := by
  obtain ⟨hi, h1, _⟩ := at_some ha
  constructor
  · intro hy
    rcases List.mem_append.1 hy with hy | hy
    · obtain ⟨k, hk, rfl⟩ := List.getElem_of_mem hy
      rw [List.length_take] at hk
      rw [List.getElem_take]
      refine ⟨List.getElem_mem _, fun e => ?_⟩
      refine dis_ne h hd (i := k) (j := i) (by omega) hi (by omega) ?_
      rw [h.eqr (b := l[i]) (c := x) h1]; exact e
    · obtain ⟨k, hk, rfl⟩ := List.getElem_of_mem hy
      rw [List.length_drop] at hk
      rw [List.getElem_drop]
      refine ⟨List.getElem_mem _, fun e => ?_⟩
      refine dis_ne h hd (i := i + 1 + k) (j := i) (by omega) hi (by omega) ?_
      rw [h.eqr (b := l[i]) (c := x) h1]; exact e
  · rintro ⟨hy, hne⟩
    have e : l = l.take i ++ l[i] :: l.drop (i + 1) := by rw [← List.drop_eq_getElem_cons hi, List.take_append_drop]
    rw [e, List.mem_append, List.mem_cons] at hy
    rw [List.mem_append]
    rcases hy with hy | rfl | hy
    · exact .inl hy
    · exact absurd h1 hne
    · exact .inr hy
theorem set_mem (h : Ord o) {x : α} {l : List α} (hd : Dis o l) (y : α) : y ∈ set_ o x l ↔ y = x ∨ (y ∈ l ∧ o y x ≠ 0) := by
  unfold set_
  split
  · rename_i ha
    have := at_none.1 ha
    unfold has at this
    rw [List.any_eq_false] at this
    simp only [List.mem_append, List.mem_singleton]
    constructor
    · rintro (h1 | h1)
      · exact .inr ⟨h1, by simpa using this y h1⟩
      · exact .inl h1
    · rintro (h1 | h1)
      · exact .inr h1
      · exact .inl h1.1
  · rename_i i ha
    obtain ⟨hi, h1, _⟩ := at_some ha
    rw [← splitAt h hd ha y, List.set_eq_take_append_cons_drop, if_pos hi]
    simp only [List.mem_append, List.mem_cons]
    constructor
    · rintro (h | h | h) <;> simp [h]
    · rintro (h | h | h) <;> simp [h]
theorem dis_of {l m : List α} (h : m.Sublist l) (hd : Dis o l) : Dis o m := List.Pairwise.sublist h hd
theorem sub_del (l : List α) (i : Nat) : (l.take i ++ l.drop (i + 1)).Sublist l := by
  have h1 : (l.drop (i + 1)).Sublist (l.drop i) := by
    rw [← List.drop_drop]; exact List.drop_sublist _ _
  have h2 := List.Sublist.append (List.Sublist.refl (l.take i)) h1
  rw [List.take_append_drop] at h2
  exact h2
theorem set_dis (h : Ord o) {x : α} {l : List α} (hd : Dis o l) : Dis o (set_ o x l) := by
  unfold set_
  split
  · rename_i ha
    have := at_none.1 ha
    unfold has at this
    rw [List.any_eq_false] at this
    refine List.pairwise_append.2 ⟨hd, by simp, fun a hm b hb => ?_⟩
    rw [List.mem_singleton] at hb; subst hb
    simpa using this a hm
  · rename_i i ha
    obtain ⟨hi, h1, _⟩ := at_some ha
    rw [List.set_eq_take_append_cons_drop, if_pos hi]
    have hs := dis_of (sub_del l i) hd
    unfold Dis at hs ⊢
    rw [List.pairwise_append] at hs ⊢
    refine ⟨hs.1, List.pairwise_cons.2 ⟨fun b hb => ?_, hs.2.1⟩, fun a ha' b hb => ?_⟩
    · have := ((splitAt h hd ha b).1 (by simp [hb])).2
      have := h.anti b x; omega
    · rcases List.mem_cons.1 hb with rfl | hb
      · exact ((splitAt h hd ha a).1 (by simp [ha'])).2
      · exact hs.2.2 a ha' b hb
theorem del_mem (h : Ord o) {x : α} {l : List α} (hd : Dis o l) (hh : has o x l = true) (y : α) : y ∈ del_ o x l ↔ y ∈ l ∧ o y x ≠ 0 := by
  unfold del_
  split
  · rename_i ha; rw [at_none.1 ha] at hh; cases hh
  · rename_i i ha; exact splitAt h hd ha y
theorem del_dis {x : α} {l : List α} (hd : Dis o l) : Dis o (del_ o x l) := by
  unfold del_
  split
  · exact hd
  · exact dis_of (sub_del l _) hd
structure Alike (o : α → α → Int) (P R : List α) : Prop where
  ris : Ris o P
  dis : Dis o R
  mem : ∀ x, x ∈ P ↔ x ∈ R
theorem Alike.has {P R : List α} (k : Alike o P R) (x : α) : has o x P = has o x R := by
  unfold Ord.has
  rw [Bool.eq_iff_iff, List.any_eq_true, List.any_eq_true]
  simp only [k.mem]
theorem Alike.put (h : Ord o) {P R : List α} (k : Alike o P R) (x : α) : Alike o (put o x P) (set_ o x R) :=
  ⟨h.put_ris k.ris, set_dis h k.dis, fun y => by rw [h.put_mem k.ris, set_mem h k.dis, k.mem]⟩
theorem Alike.rem (h : Ord o) {P R : List α} (k : Alike o P R) {x : α} (hh : Ord.has o x P = true) : Alike o (rem o x P) (del_ o x R) :=
  ⟨rem_ris k.ris, del_dis k.dis, fun y => by rw [h.rem_mem k.ris hh, del_mem h k.dis (by rw [← k.has]; exact hh), k.mem]⟩
theorem nodup_of (h : Ord o) {l : List α} (hd : Dis o l) : l.Nodup := hd.imp fun {a b} hab => by rintro rfl; exact hab (h.refl a)
theorem ris_dis {l : List α} (hr : Ris o l) : Dis o l := hr.imp fun {a b} h => by omega
theorem Alike.perm (h : Ord o) {P R : List α} (k : Alike o P R) : P.Perm R := (List.perm_ext_iff_of_nodup (nodup_of h (ris_dis k.ris)) (nodup_of h k.dis)).2 k.mem
theorem Alike.len (h : Ord o) {P R : List α} (k : Alike o P R) : P.length = R.length := (k.perm h).length_eq
end Ord
end GP
namespace GP
open Go Go.Proofs
set_option maxRecDepth 100000
variable [HasG Try.prog]
theorem cmpS_anti : ∀ a b : List UInt8, cmpS b a = - cmpS a b
  | [], [] => rfl
  | [], _ :: _ => rfl
  | _ :: _, [] => rfl
  | x :: a, y :: b => by
    simp only [cmpS]
    have := cmpS_anti a b
    split <;> split <;> simp_all <;> omega
theorem cmpS_zero : ∀ {a b : List UInt8}, cmpS a b = 0 → a = b
  | [], [], _ => rfl
  | [], _ :: _, h => by simp [cmpS] at h
  | _ :: _, [], h => by simp [cmpS] at h
  | x :: a, y :: b, h => by
    simp only [cmpS] at h
    split at h
    · cases h
    · split at h
      · cases h
      · rename_i h1 h2
        have e : x = y := UInt8.toNat_inj.1 (by omega)
        rw [e, cmpS_zero h]
theorem cmpS_self : ∀ a : List UInt8, cmpS a a = 0
  | [] => rfl
  | x :: a => by simp [cmpS, cmpS_self a]
theorem cmpS_tr : ∀ {a b c : List UInt8}, cmpS a b < 0 → cmpS b c < 0 → cmpS a c < 0
  | [], [], _, h, _ => by simp [cmpS] at h
  | [], _ :: _, [], _, h => by simp [cmpS] at h
  | [], _ :: _, _ :: _, _, _ => by simp [cmpS]
  | _ :: _, [], _, h, _ => by simp [cmpS] at h
  | _ :: _, _ :: _, [], _, h => by simp [cmpS] at h
  | x :: a, y :: b, z :: c, h1, h2 => by
    simp only [cmpS] at h1 h2 ⊢
    have ih := cmpS_tr (a := a) (b := b) (c := c)
    split at h1
    · split at h2
      · rw [if_pos (by omega)]; decide
      · split at h2
        · cases h2
        · rw [if_pos (by omega)]; decide
    · split at h1
      · cases h1
      · split at h2
        · rw [if_pos (by omega)]; decide
        · split at h2
          · cases h2
          · rw [if_neg (by omega), if_neg (by omega)]; exact ih h1 h2
theorem cmpS_v (a b : List UInt8) : cmpS a b = 0 ∨ cmpS a b = 1 ∨ cmpS a b = -1 := by
  induction a generalizing b with
  | nil => cases b <;> simp [cmpS]
  | cons x a ih =>
    cases b with
    | nil => simp [cmpS]
    | cons y b => simp only [cmpS]; split; · simp
                  · split
                    · simp
                    · exact ih b
theorem ordD_zero {a b : D} : ordD a b = 0 ↔ rwho a = rwho b ∧ rname a = rname b ∧ rattr a = rattr b := by
  unfold ordD or3
  constructor
  · intro h
    split at h
    · rename_i h1; exact absurd h (by simpa [bne] using h1)
    · rename_i h1
      split at h
      · rename_i h2; exact absurd h (by simpa [bne] using h2)
      · rename_i h2
        exact ⟨cmpS_zero (by simpa [bne] using h1), cmpS_zero (by simpa [bne] using h2), cmpS_zero h⟩
  · rintro ⟨h1, h2, h3⟩
    rw [h1, h2, h3, cmpS_self, cmpS_self, cmpS_self]; rfl
theorem keyB_ord (a b : D) : keyB a b = (ordD a b == 0) := by
  rw [Bool.eq_iff_iff]
  simp only [keyB, Bool.and_eq_true, beq_iff_eq, ordD_zero, and_assoc]
theorem ordD_ord : Ord ordD where
  anti := fun a b => by
    unfold ordD or3
    rw [cmpS_anti (rwho a), cmpS_anti (rname a), cmpS_anti (rattr a)]
    simp only [bne, Int.neg_eq_zero, beq_iff_eq]
    rcases cmpS_v (rwho a) (rwho b) with h | h | h <;> rw [h] <;> simp
    rcases cmpS_v (rname a) (rname b) with h | h | h <;> rw [h] <;> simp
  tr := fun a b c h1 h2 => by
    unfold ordD or3 at h1 h2 ⊢
    simp only [bne, Bool.not_eq_true', beq_eq_false_iff_ne, ne_eq] at h1 h2 ⊢
    by_cases a1 : cmpS (rwho a) (rwho b) = 0
    · have e1 := cmpS_zero a1
      rw [e1] at h1 ⊢
      rw [cmpS_self] at h1
      simp only [not_true_eq_false, if_false] at h1
      by_cases b1 : cmpS (rwho b) (rwho c) = 0
      · have e2 := cmpS_zero b1
        rw [e2] at h2 ⊢
        rw [cmpS_self] at h2 ⊢
        simp only [not_true_eq_false, if_false] at h2 ⊢
        by_cases a2 : cmpS (rname a) (rname b) = 0
        · have e3 := cmpS_zero a2
          rw [e3] at h1 ⊢
          rw [cmpS_self] at h1
          simp only [not_true_eq_false, if_false] at h1
          by_cases b2 : cmpS (rname b) (rname c) = 0
          · have e4 := cmpS_zero b2
            rw [e4] at h2 ⊢
            rw [cmpS_self] at h2 ⊢
            simp only [not_true_eq_false, if_false] at h2 ⊢
            exact cmpS_tr h1 h2
          · rw [if_pos b2] at h2 ⊢; exact h2
        · rw [if_pos a2] at h1
          by_cases b2 : cmpS (rname b) (rname c) = 0
          · have e4 := cmpS_zero b2
            rw [← e4, if_pos a2]; exact h1
          · rw [if_pos b2] at h2
            have := cmpS_tr h1 h2
            rw [if_pos (by omega)]; exact this
      · rw [if_pos b1] at h2 ⊢; exact h2
    · rw [if_pos a1] at h1
      by_cases b1 : cmpS (rwho b) (rwho c) = 0
      · have e2 := cmpS_zero b1
        rw [← e2, if_pos a1]; exact h1
      · rw [if_pos b1] at h2
        have := cmpS_tr h1 h2
        rw [if_pos (by omega)]; exact this
  eq := fun a b c h => by
    obtain ⟨h1, h2, h3⟩ := ordD_zero.1 h
    unfold ordD
    rw [h1, h2, h3]
def okRow (xs ys : List D) (i : Nat) : Bool := match xs[i]?, ys[i]? with
  | some x, some y => keyB x y && sameB (rV x) (rV y)
  | _, _ => true
def sameRs (xs ys : List D) : Bool := (xs.length == ys.length) && (List.range xs.length).all (okRow xs ys)
open Classical in
noncomputable def φ17 : List D → Option D
  | [a, b] => if isLs isRw a ∧ isLs isRw b then some (.bool (sameRs (elems a) (elems b))) else none
  | _ => none
set_option maxHeartbeats 4000000 in
theorem ok17 : OkAt Try.prog 17 φ17 := by
  refine ok_of (l := [(38, φSame)]) (.cons ok38 .nil) fn17 fun args r h => ?_
  unfold φ17 at h
  split at h
  · rename_i a b
    split at h
    · rename_i hv
      obtain ⟨⟨n, xs, rfl, hl, hx⟩, ⟨m, ys, rfl, hl2, hy⟩⟩ := hv
      injection h with h; subst h
      refine ⟨by simp, by simp [D.cl], fun H T => ?_⟩
      simp only [elems_sliceD]
      rcases tf (xs.length == ys.length) with c | c
      · have c' : ((xs.length : Int) != (ys.length : Int)) = false := by rw [bne_len, c]; rfl
        have hlen : xs.length = ys.length := by simpa using c
        have hs : sameRs xs ys = (List.range xs.length).all (okRow xs ys) := by unfold sameRs; rw [c]; rfl
        rw [hs]
        simp +contextual (maxSteps := 10000000) only [c17, c', go_sem, W_draw]
        refine W_for (fun j s' => s'.t 0 = sliceD n xs ∧ s'.t 1 = sliceD m ys ∧ s'.t 5 = .int .i64 (j : Nat) ∧ s'.H = H ∧ s'.T = T ∧ j ≤ xs.length ∧ (List.range j).all (okRow xs ys) = true) xs.length
          ⟨0, by simp [upd, argT], by simp [upd, argT], by simp [upd], rfl, rfl, by omega, by simp⟩ (fun i s h => h.2.2.2.2.2.1) ?_ (XL_mono _)
        rintro j ⟨t, B, T'⟩ ⟨r0, r1, r5, rfl, rfl, hj, hF⟩
        simp only at r0 r1 r5
        by_cases ha : j < xs.length
        · have d1 : decide ((j : Int) < xs.length) = true := by simpa using ha
          obtain ⟨p, hp, hpo⟩ := hx _ (List.getElem_mem ha)
          obtain ⟨q, hq, hqo⟩ := hy _ (List.getElem_mem (show j < ys.length by omega))
          have e1 : xs[j]? = some (rwD p) := by rw [← hp]; simp [ha]
          have e2 : ys[j]? = some (rwD q) := by rw [← hq, List.getElem?_eq_getElem (by omega)]
          have ps : φSame [p.v, q.v] = some (.bool (sameB p.v q.v)) := by simp only [φSame]; rw [if_pos ⟨hpo.v.1, hqo.v.1⟩]
          have ho : okRow xs ys j = (((p.who == q.who) && (p.name == q.name) && (p.attr == q.attr)) && sameB p.v q.v) := by
            unfold okRow; rw [e1, e2]; rfl
          obtain ⟨sb, hsb⟩ : ∃ b, sameB p.v q.v = b := ⟨_, rfl⟩
          rw [hsb] at ps ho
          simp only [Rw.v, mkV] at ps
          have bad : okRow xs ys j = false → (List.range xs.length).all (okRow xs ys) = false := fun h => range_false_of h ha
          have good : okRow xs ys j = true → (List.range (j + 1)).all (okRow xs ys) = true := fun h => by rw [all_range_succ, hF, h]; rfl
          rw [ho] at bad good
          have f1 := hpo.eL
          have f2 := hqo.eL
          simp only [rwD] at e1 e2
          have n1 : (p.who != q.who) = !(p.who == q.who) := rfl
          have n2 : (p.name != q.name) = !(p.name == q.name) := rfl
          have n3 : (p.attr != q.attr) = !(p.attr == q.attr) := rfl
          rcases tf (p.who == q.who) with g1 | g1
          · rcases tf (p.name == q.name) with g2 | g2
            · rcases tf (p.attr == q.attr) with g3 | g3
              · rw [g1, g2, g3] at bad good
                rw [g1] at n1; rw [g2] at n2; rw [g3] at n3
                cases sb with
                | true =>
                  simp +contextual (maxSteps := 10000000) only [r0, r1, r5, d1, e1, e2, f1, f2, n1, n2, n3, ps, wrap_succ j (by omega), go_sem, W_draw]
                  exact ⟨by omega, by rw [← List.range_succ]; exact good rfl⟩
                | false =>
                  simp +contextual (maxSteps := 10000000) only [r0, r1, r5, d1, e1, e2, f1, f2, n1, n2, n3, ps, bad rfl, go_sem, W_draw]
              · rw [g1, g2, g3] at bad
                rw [g1] at n1; rw [g2] at n2; rw [g3] at n3
                simp +contextual (maxSteps := 10000000) only [r0, r1, r5, d1, e1, e2, f1, f2, n1, n2, n3, bad rfl, go_sem, W_draw]
            · rw [g1, g2] at bad
              rw [g1] at n1; rw [g2] at n2
              simp +contextual (maxSteps := 10000000) only [r0, r1, r5, d1, e1, e2, f1, f2, n1, n2, bad rfl, go_sem, W_draw]
          · rw [g1] at bad
            rw [g1] at n1
            simp +contextual (maxSteps := 10000000) only [r0, r1, r5, d1, e1, e2, f1, f2, n1, bad rfl, go_sem, W_draw]
        · have d1 : decide ((j : Int) < xs.length) = false := by simpa using ha
          have ej : j = xs.length := by omega
          subst ej
          simp +contextual (maxSteps := 10000000) only [r0, r1, r5, d1, hF, go_sem, W_draw]
      · have c' : ((xs.length : Int) != (ys.length : Int)) = true := by rw [bne_len, c]; rfl
        have hs : sameRs xs ys = false := by unfold sameRs; rw [c]; rfl
        rw [hs]
        simp +contextual (maxSteps := 10000000) only [c17, c', go_sem, W_draw]
    · cases h
  · cases h
end GP
namespace GP
open Go Go.Proofs
set_option maxRecDepth 100000
variable [HasG Try.prog]
theorem isRw_cl {d : D} (h : isRw d) : d.cl 0 0 = true := by
  obtain ⟨r, rfl, h⟩ := h
  have h1 := isVs_cl (isVs_iff.2 (mkV_erase h.v.1).2.2.2)
  rcases sliceD_cases r.n r.l with ⟨e, _⟩ | e <;> simp [rwD, e, D.cl, D.clL, h1]
theorem isRws_cl : ∀ {l : List D}, (∀ x ∈ l, isRw x) → D.clL 0 0 l = true
  | [], _ => rfl
  | x :: l, h => by
    have ih : D.clL 0 0 l = true := isRws_cl fun y hy => h y (List.mem_cons_of_mem _ hy)
    simp [D.clL, isRw_cl (h x (by simp)), ih]
theorem rows_cl {n : Bool} {l : List D} (h : ∀ x ∈ l, isRw x) : (sliceD n l).cl 0 0 = true := by
  rcases sliceD_cases n l with ⟨e, _⟩ | e <;> rw [e] <;> simp [D.cl, isRws_cl h]
theorem rows_er {l : List D} (h : ∀ x ∈ l, isRw x) : D.eraseL l = l := eraseL_id fun x hx => isRw_erase (h x hx)
theorem rows_ag {l : List D} (h : ∀ x ∈ l, isRw x) : isAg 7 l := fun x hx => by
  obtain ⟨r, rfl, _⟩ := h x hx
  exact ⟨_, rfl, rfl⟩
theorem rows_fit {l : List D} (h : ∀ x ∈ l, isRw x) : l.all (fit 7) = true := (rows_ag h).fit
theorem rows_cells {l : List D} (h : ∀ x ∈ l, isRw x) : l.all (fun d => d.cells.length == 7) = true := List.all_eq_true.2 fun x hx => by
  obtain ⟨r, rfl, _⟩ := h x hx
  rfl
def Lg (zs : List D) (d : D) : Prop := (zs = [] ∧ d = .nils) ∨ (zs ≠ [] ∧ ∃ tok, d = .sl tok zs)
theorem Lg.len {zs : List D} {d : D} (h : Lg zs d) : lenD d = some zs.length := by
  rcases h with ⟨rfl, rfl⟩ | ⟨_, _, rfl⟩ <;> rfl
theorem Lg.ia {sz : Nat} {zs : List D} {d : D} (h : Lg zs d) (k : IntKind) (i : Nat) : ia sz d (.int k (i : Int)) = iaE sz zs[i]? := by
  rcases h with ⟨rfl, rfl⟩ | ⟨_, _, rfl⟩
  · simp [GP.ia, iaE]
  · rw [iab_nat']
theorem Lg.cell {zs : List D} {d : D} (h : Lg zs d) : d.okc = true ∧ d.cells = [d] := by
  rcases h with ⟨rfl, rfl⟩ | ⟨_, _, rfl⟩ <;> exact ⟨rfl, rfl⟩
theorem Lg.er {zs : List D} {d : D} (h : Lg zs d) (he : D.eraseL zs = zs) : d.erase = sliceD true zs := by
  rcases h with ⟨rfl, rfl⟩ | ⟨hn, _, rfl⟩
  · rfl
  · simp only [D.erase, he]
    rcases sliceD_cases true zs with ⟨_, e⟩ | e
    · exact absurd e hn
    · exact e.symm
theorem Lg.lo {sz : Nat} {zs : List D} {d : D} (h : Lg zs d) (hc : zs.all (fun d => d.cells.length == sz) = true) {a : Nat} (ha : a ≤ zs.length) : ∃ d1, slc sz (some 0) (some (a : Int)) d = some d1 ∧ appSrc false d1 = some (zs.take a) := by
  rcases h with ⟨rfl, rfl⟩ | ⟨_, tok, rfl⟩
  · have : a = 0 := by simpa using ha
    subst this
    exact ⟨.nils, rfl, rfl⟩
  · exact ⟨_, by rw [slc_sl, if_pos ⟨by omega, by omega, by omega, hc⟩], by simp [appSrc, subList]⟩
theorem Lg.hi {sz : Nat} {zs : List D} {d : D} (h : Lg zs d) (hc : zs.all (fun d => d.cells.length == sz) = true) {a : Nat} (ha : a ≤ zs.length) : ∃ d1, slc sz (some (a : Int)) (some (zs.length : Int)) d = some d1 ∧ appSrc false d1 = some (zs.drop a) := by
  rcases h with ⟨rfl, rfl⟩ | ⟨_, tok, rfl⟩
  · have : a = 0 := by simpa using ha
    subst this
    exact ⟨.nils, rfl, rfl⟩
  · exact ⟨_, by rw [slc_sl, if_pos ⟨by omega, by omega, by omega, hc⟩], by simp [appSrc, subList]⟩
end GP
namespace GP
open Go
variable {P : Program} [HasG P]
def XU (P : Program) [HasG P] (u : List FuncId) (l : Fs) (m : FsH) (e : FsE) : Pred := fun f a H T Q => if u.contains f = true then Snd P f a H T Q else XE l m e f a H T Q
theorem XU.X {u : List FuncId} {l : Fs} {m : FsH} {e : FsE} (k : Ok P l) (k' : OkH P m) (k'' : OkE P e) : ∀ f args H T Q Q', (∀ r H T, Q r H T → Q' r H T) → XU P u l m e f args H T Q → Snd P f args H T Q' := by
  intro f args H T Q Q' hQ h
  unfold XU at h
  split at h
  · exact Snd.mono _ _ _ _ _ _ hQ h
  · exact XE.X k k' k'' f args H T Q Q' hQ h
theorem XU_mono (u : List FuncId) (l : Fs) (m : FsH) (e : FsE) : Mono (XU P u l m e) := by
  intro f args H T Q Q' hQ h
  unfold XU at h ⊢
  split at h
  · rename_i c; rw [if_pos c]; exact Snd.mono _ _ _ _ _ _ hQ h
  · rename_i c; rw [if_neg c]; exact XE_mono l m e _ _ _ _ _ _ hQ h
theorem XU_eq (u : List FuncId) (l : Fs) (m : FsH) (e : FsE) (f : FuncId) (args : List D) (H : Hp) (T : Tk) (Q : Post) : XU P u l m e f args H T Q = if u.contains f = true then Snd P f args H T Q else orX Q H T (look l f (D.eraseL args)) (lookH m H f (D.eraseL args)) (lookE e H f (D.eraseL args)) := by
  unfold XU
  rw [XE_eq]
theorem pcallU {u : List FuncId} {l : Fs} {m : FsH} {e : FsE} (hm : MonoH m) (args : List D) (K : D → S → Prop) (s : S) (f : FuncId) (first cap : List D) :
    pcallK (XU P u l m e) args K s (.fn f first cap) = if (u.contains f || inE e f) = true then pcallN (XU P u l m e) args K s (.fn f first cap) else orK K s (look l f (D.eraseL (first ++ args ++ cap))) (lookH m s.H f (D.eraseL (first ++ args ++ cap))) := by
  cases hu : u.contains f with
  | true => rfl
  | false =>
    simp only [Bool.false_or]
    have hx : ∀ a H T Q, XU P u l m e f a H T Q = XE l m e f a H T Q := by
      intro a H T Q; unfold XU; rw [hu]; rfl
    cases he : inE e f with
    | true => rfl
    | false =>
      rw [if_neg (by simp)]
      have := pcallE (l := l) (e := e) hm args K s f first cap
      rw [he, if_neg (by simp)] at this
      rw [← this]
      simp only [pcallK, eq_iff_iff]
      unfold Pure
      simp only [hx]
def callQ (K : D → S → Prop) (t : Nat → D) : Post := fun r H T => K r ⟨t, H, T⟩
theorem callK_fn (X : Pred) (args : List D) (K : D → S → Prop) (s : S) (f : FuncId) (first cap : List D) : callK X args K s (.fn f first cap) = X f (first ++ args ++ cap) s.H s.T (callQ K s.t) := id rfl
theorem callQ_eq (K : D → S → Prop) (t : Nat → D) (r : D) (H : Hp) (T : Tk) : callQ K t r H T = K r ⟨t, H, T⟩ := id rfl
def orL (Q : Post) (H : Hp) (T : Tk) : Option D → Prop
  | some r => Q r H T
  | none => False
theorem XL_eq (l : Fs) (f : FuncId) (args : List D) (H : Hp) (T : Tk) (Q : Post) : XL l f args H T Q = orL Q H T (look l f (D.eraseL args)) := by
  unfold XL orL
  cases look l f (D.eraseL args) <;> rfl
theorem orL_s (Q : Post) (H : Hp) (T : Tk) (r : D) : orL Q H T (some r) = Q r H T := id rfl
attribute [go_sem] callK_fn callQ_eq XL_eq orL_s XE_eq orX_s orX_n orX_e orE_s lookE_nil lookE_cons inE_nil inE_cons lookH_nil lookH_cons orK_s orK_n
theorem okEX_of {X : Pred} (hX : ∀ f args H T Q Q', (∀ r H T, Q r H T → Q' r H T) → X f args H T Q → Snd P f args H T Q') {f : FuncId} {n : Nat} {rs : List (Sum Nat (Nat × Bool × Nat))} {cc : C} (hf : Fn P f n rs cc) {φ : Hp → List D → Option (D × Hp)}
    (h : ∀ H args r H1, φ H args = some (r, H1) → args.length ≤ n ∧ r.cl H1.length 0 = true ∧ Closed H H1 0 ∧ ∀ T, W X cc (endQ rs (LeavesE r H1 T)) ⟨argT args, H, T⟩) : OkAtE P f φ := by
  intro H args r H1 hr args' he T Q hQ
  obtain ⟨h1, h2, h4, h3⟩ := h H args r H1 hr
  have hS : Snd P f args H T (LeavesE r H1 T) := call_of hf h1 (W_mono hX (fun _ _ h => h) (h3 T))
  intro c w vs kg k1 k2 k3
  have k3' : Reps c args vs := by rw [← he]; exact k3.erase
  have hcl := D.cl_mono (Nat.le_refl H1.length) (Nat.zero_le T.length) r h2
  have hC : Closed H H1 T.length := ⟨h4.1, fun o x cs a b => (h4.2 o x cs a b).imp id (D.clL_mono (Nat.le_refl _) (Nat.zero_le _) cs)⟩
  rcases hS c w vs kg k1 k2 k3' with ⟨g1, g2⟩ | ⟨v, w', g1, g2⟩
  · exact .inl ⟨g1, g2.mono fun e w' k => CallPost.forgetE k1 k2 hcl hC hQ k⟩
  · exact .inr ⟨v, w', g1, CallPost.forgetE k1 k2 hcl hC hQ g2⟩
theorem okFX_of {X : Pred} (hX : ∀ f args H T Q Q', (∀ r H T, Q r H T → Q' r H T) → X f args H T Q → Snd P f args H T Q') {f : FuncId} {n : Nat} {rs : List (Sum Nat (Nat × Bool × Nat))} {cc : C} (hf : Fn P f n rs cc) {φ : List D → Option D}
    (h : ∀ args r, φ args = some r → args.length ≤ n ∧ r.cl 0 0 = true ∧ ∀ H T, W X cc (endQ rs (LeavesE r H T)) ⟨argT args, H, T⟩) : OkAt P f φ := by
  intro args r hr args' he H T Q hQ
  refine okEX_of hX hf (φ := fun H a => (φ a).map fun r => (r, H)) (fun H a r H1 hr => ?_) H args r H (by simp [hr]) args' he T Q hQ
  cases ha : φ a with
  | none => rw [ha] at hr; cases hr
  | some r' =>
    rw [ha] at hr; simp only [Option.map_some, Option.some.injEq, Prod.mk.injEq] at hr
    obtain ⟨rfl, rfl⟩ := hr
    obtain ⟨h1, h2, h3⟩ := h a r' ha
    exact ⟨h1, D.cl_mono (Nat.zero_le _) (Nat.le_refl _) r' h2, Closed.refl _ _, fun T => h3 H T⟩
theorem Ext.set {H B : Hp} (h : Ext H B) {o : Nat} (ho : H.length ≤ o) (x : Ob) : Ext H (B.set o x) := by
  obtain ⟨L, rfl⟩ := h
  exact ⟨L.set (o - H.length) x, by rw [List.set_append_right _ _ ho]⟩
theorem leavesE_end {r r0 : D} {H B : Hp} {T U : Tk} (hr : Crs r r0) (h : Ext H B) (k : ExtT T U) : LeavesE r0 H T r B U := by
  obtain ⟨L, rfl⟩ := h; obtain ⟨M, rfl⟩ := k
  exact ⟨r, _, .refl _ _, hr, ⟨H, L, rfl, SameH.refl H⟩, M, rfl⟩
theorem leavesE_fz {r r0 : D} {H B : Hp} {T U : Tk} (o : Nat) (cs : List D) (ho : B[o]? = some (.row cs)) (hl : H.length ≤ o) (hr : Crs (r.fz o cs) r0) (h : Ext H B) (k : ExtT T U) : LeavesE r0 H T r B U := by
  obtain ⟨L, e⟩ := h.set hl .dead; obtain ⟨M, rfl⟩ := k
  exact ⟨_, _, .step o cs ho (.refl _ _), hr, ⟨H, L, e, SameH.refl H⟩, M, rfl⟩
@[go_sem] theorem fld_f (off n : Nat) (cs : List D) : fld false off n (.agg cs) = cs[off]? := id rfl
@[go_sem] theorem fld_t (off n : Nat) (cs : List D) : fld true off n (.agg cs) = if off + n ≤ cs.length then some (.agg ((cs.take (off + n)).drop off)) else none := id rfl
end GP
namespace GP
open Go Go.Proofs
set_option maxRecDepth 100000
variable [HasG Try.prog]
theorem idx_at (xs : List D) (d : D) : idxP (fun x => keyB x d) xs = match Ord.at_ ordD d xs with | some i => (i : Int) | none => -1 := by
  have : (fun x => keyB x d) = (fun y => ordD y d == 0) := funext fun x => keyB_ord x d
  rw [this]
  rfl
theorem appm_new {K : D → S → Prop} {t : Nat → D} {U : Tk} {P : Hp} {xs : List D} (hag : isAg 7 xs) (hl : xs.length ≤ 2 ^ 30) (k : ∀ H' o' c' X, Ext P H' → P.length ≤ o' → H'[o']? = some (.row (flatD xs ++ X)) → xs.length ≤ c' → X.length = (c' - xs.length) * 7 → (∀ d ∈ X, d.one = true) → K (.ms true 7 o' 0 xs.length c') ⟨t, H', U⟩) :
    appmK true 7 104 K ⟨t, P ++ [.row []], U⟩ (.ms true 7 P.length 0 0 0) (some xs) := by
  refine ⟨hag.fit, ?_⟩
  have ho : (P ++ [Ob.row []])[P.length]? = some (.row []) := by simp
  simp only [ho]
  refine ⟨trivial, ?_⟩
  by_cases h0 : xs = []
  · subst h0
    rw [if_pos (by simp)]
    refine ⟨by simp, ?_⟩
    refine k _ P.length 0 [] (Ext.set (Ext.of _ _) (Nat.le_refl _) _) (Nat.le_refl _) ?_ (by simp) (by simp) (by simp)
    rw [List.getElem?_set_self (by simp)]; simp [flatD]
  · have : 0 < xs.length := List.length_pos_iff.2 h0
    rw [if_neg (by omega)]
    refine ⟨trivial, by simp, by omega, by omega, fun c' X hc hX hX1 => ?_⟩
    rw [Nat.zero_add] at hc hX
    have := k ((P ++ [Ob.row []]).set P.length .dead ++ [.row (flatD xs ++ X)]) (P ++ [Ob.row []]).length c' X ((Ext.set (Ext.of _ _) (Nat.le_refl _) _).app _) (by simp) (by simp) hc hX hX1
    simpa using this
theorem appm_one {K : D → S → Prop} {t : Nat → D} {U : Tk} {P H' : Hp} {o c : Nat} {xs X : List D} {d : D} (hE : Ext P H') (hP : P.length ≤ o) (ho : H'[o]? = some (.row (flatD xs ++ X))) (hag : isAg 7 xs) (hd : isAg 7 [d]) (hl : xs.length ≤ 2 ^ 30) (hc : xs.length ≤ c) (hX : X.length = (c - xs.length) * 7) (hX1 : ∀ d ∈ X, d.one = true)
    (k : ∀ H2 o' c' X', Ext P H2 → P.length ≤ o' → H2[o']? = some (.row (flatD (xs ++ [d]) ++ X')) → xs.length + 1 ≤ c' → X'.length = (c' - (xs.length + 1)) * 7 → (∀ d ∈ X', d.one = true) → K (.ms true 7 o' 0 (xs.length + 1) c') ⟨t, H2, U⟩) :
    appmK true 7 104 K ⟨t, H' ++ [.row (flatD [d])], U⟩ (.ms true 7 o 0 xs.length c) (some [d]) := by
  refine ⟨hd.fit, ?_⟩
  have ho' : (H' ++ [Ob.row (flatD [d])])[o]? = some (.row (flatD xs ++ X)) := (Ext.of H' _).get ho
  have hlo : o < (H' ++ [Ob.row (flatD [d])]).length := by
    rcases Nat.lt_or_ge o (H' ++ [Ob.row (flatD [d])]).length with h' | h'
    · exact h'
    · rw [List.getElem?_eq_none h'] at ho'; cases ho'
  have hfl := hag.flat
  have hfd : (flatD [d]).length = 7 := by rw [hd.flat]; rfl
  simp only [ho']
  refine ⟨trivial, ?_⟩
  simp only [List.length_cons, List.length_nil, Nat.zero_add]
  by_cases hroom : xs.length + 1 ≤ c
  · rw [if_pos hroom]
    refine ⟨by rw [List.length_append, hfl, hX]; omega, ?_⟩
    refine k _ o c (X.drop 7) ((hE.app _).set hP _) hP ?_ hroom (by rw [List.length_drop, hX]; omega) (fun d hd => hX1 d (List.mem_of_mem_drop hd))
    rw [List.getElem?_set_self hlo, List.take_left' hfl, show (xs.length + 1) * 7 = xs.length * 7 + 7 by omega, ← List.drop_drop, List.drop_left' hfl, flatD_append]
  · rw [if_neg hroom]
    refine ⟨trivial, by rw [List.length_append, hfl]; omega, by omega, by omega, fun c' X' h1 h2 h3 => ?_⟩
    refine k _ _ c' X' (((hE.app _).set hP _).app _) ?_ ?_ h1 h2 h3
    · obtain ⟨L, rfl⟩ := hE; simp
    · rw [List.take_left' hfl, flatD_append]; simp
theorem src_one {B : Hp} {d : D} (hd : isAg 7 [d]) : appSrcM (B ++ [.row (flatD [d])]) false 7 (.ms true 7 B.length 0 1 1) = some [d] := by
  have hc := chunk_flat (sz := 7) [d] [] hd
  have hf := hd.flat
  simp only [appSrcM]
  rw [List.getElem?_append_right (Nat.le_refl _)]
  simp only [Nat.sub_self, List.getElem?_cons_zero, List.drop_zero]
  rw [if_pos ⟨trivial, trivial, by rw [hf]; simp, .inl trivial⟩]
  rw [List.append_nil] at hc
  exact congrArg some hc
theorem rdAt_set {B : Hp} {o : Nat} {x : Ob} (h : B[o]? = some x) (X : List D) (L : Hp) : rdAt (B.set o (.row X) ++ L) (.ptr o 0) = some X := by
  have hlB : o < B.length := by
    rcases Nat.lt_or_ge o B.length with h' | h'
    · exact h'
    · rw [List.getElem?_eq_none h'] at h; cases h
  simp only [rdAt]
  rw [List.getElem?_append_left (by simpa using hlB), List.getElem?_set_self hlB]
  rfl
theorem rdAt_set0 {B : Hp} {o : Nat} {x : Ob} (h : B[o]? = some x) (X : List D) : rdAt (B.set o (.row X)) (.ptr o 0) = some X := by
  have := rdAt_set h X []
  rwa [List.append_nil] at this
def sSub : List UInt8 := [115, 117, 98, 106, 101, 99, 116]
def sRes : List UInt8 := [114, 101, 115, 111, 117, 114, 99, 101]
def badR (d : D) : Bool := ((rwho d != sSub) && (rwho d != sRes)) || (rname d == []) || decide (64 < (rname d).length) || !formedB (rV d) || (vk (rV d) == 0)
def errS (fs xs : List D) (d : D) : Int := if badR d then 1 else if fitR fs d != 0 then fitR fs d else if (Ord.at_ ordD d xs).isNone && decide (120 ≤ xs.length) then 13 else 0
open Classical in
noncomputable def φ22 : List D → Option D
  | [.agg [fs, rows], d] => if isLs isF fs ∧ isLs isRw rows ∧ (elems rows).length ≤ 2 ^ 29 ∧ isRw d then
      some (.tup [.agg [fs, if errS (elems fs) (elems rows) d = 0 then .sl none (Ord.set_ ordD d (elems rows)) else rows], .int .i64 (errS (elems fs) (elems rows) d)]) else none
  | _ => none
theorem set_sub {xs : List D} {d : D} : ∀ y ∈ Ord.set_ ordD d xs, y ∈ xs ∨ y = d := fun y hy => by
  unfold Ord.set_ at hy
  split at hy
  · rcases List.mem_append.1 hy with h | h
    · exact .inl h
    · exact .inr (List.mem_singleton.1 h)
  · exact List.mem_or_eq_of_mem_set hy
theorem fzL_fs {o : Nat} {cs : List D} : ∀ {xs : List D}, (∀ x ∈ xs, isF x) → D.fzL o cs xs = xs
  | [], _ => rfl
  | x :: xs, hx => by
    have ih : D.fzL o cs xs = xs := fzL_fs fun y hy => hx y (List.mem_cons_of_mem _ hy)
    obtain ⟨w, m, kk, b, rfl, _⟩ := hx x (by simp)
    simp only [D.fzL, ih]
    rfl
theorem fz_fs {o : Nat} {cs : List D} {fs : D} (h : isLs isF fs) : D.fz o cs fs = fs := by
  obtain ⟨n, xs, rfl, _, hx⟩ := h
  have := fzL_fs (o := o) (cs := cs) hx
  rcases sliceD_cases n xs with ⟨e, _⟩ | e <;> rw [e] <;> simp [D.fz, this]
end GP
namespace GP
open Go Go.Proofs
set_option maxRecDepth 100000
variable [HasG Try.prog]
theorem rdAt_of {B : Hp} {o : Nat} {cs : List D} (h : B[o]? = some (.row cs)) (off : Nat) : rdAt B (.ptr o off) = some (cs.drop off) := by
  simp only [rdAt]
  rw [h]
theorem agL {r : Rw} : isAg 7 [rwD r] := fun x hx => by
  rw [List.mem_singleton] at hx; subst hx; exact ⟨_, rfl, rfl⟩
set_option maxHeartbeats 8000000 in
theorem ok22 : OkAt Try.prog 22 φ22 := by
  refine okFX_of (X := XU Try.prog [] [(51, φformed), (29, φ29), (63, φ63)] [] []) (XU.X (.cons ok51 (.cons ok29 (.cons ok63 .nil))) .nil .nil) fn22 fun args rr h => ?_
  have hM : MonoH [] := .nil
  have hX := XU_mono (P := Try.prog) [] [(51, φformed), (29, φ29), (63, φ63)] [] []
  have u0 : ∀ f, ([] : List FuncId).contains f = false := fun _ => rfl
  unfold φ22 at h
  split at h
  · rename_i fs rows d
    split at h
    · rename_i hv
      obtain ⟨hf, hrs, hl, hrd⟩ := hv
      injection h with h; subst h
      have hrs' := hrs
      have hrd' := hrd
      obtain ⟨n, xs, rfl, _, hx⟩ := hrs
      obtain ⟨r, rfl, hr⟩ := hrd
      rw [elems_sliceD] at hl ⊢
      obtain ⟨ef, of, cf⟩ := isF_lc hf
      have ex := rows_er hx
      have eL := hr.eL
      have ag := rows_ag hx
      have p29 : φ29 [fs, rwD r] = some (.int .i64 (fitR (elems fs) (rwD r))) := by simp only [φ29]; rw [if_pos ⟨hf, hrd'⟩]
      have p63 : φ63 [.agg [fs, sliceD n xs], rwD r] = some (.int .i64 (idxP (fun x => keyB x (rwD r)) xs)) := by simp only [φ63]; rw [if_pos ⟨hf, hrs', hrd'⟩, elems_sliceD]
      have p51 : φformed [mkV r.k r.i r.s r.n r.l] = some (.bool (formedB r.v)) := by
        have hv1 : (mkV r.k r.i r.s r.n r.l).isV = true := hr.v.1
        simp only [φformed]; rw [if_pos hv1]; rfl
      rw [idx_at] at p63
      obtain ⟨oi, hoi⟩ : ∃ i, Ord.at_ ordD (rwD r) xs = i := ⟨_, rfl⟩
      rw [hoi] at p63
      obtain ⟨e, he⟩ : ∃ e, errS (elems fs) xs (rwD r) = e := ⟨_, rfl⟩
      obtain ⟨zs, hzs⟩ : ∃ zs, Ord.set_ ordD (rwD r) xs = zs := ⟨_, rfl⟩
      have hzr : ∀ z ∈ zs, isRw z := fun z hz => by
        rcases set_sub z (by rw [hzs]; exact hz) with h' | rfl
        · exact hx z h'
        · exact hrd'
      rw [he, hzs]
      have hcl : (if e = 0 then D.sl none zs else sliceD n xs).cl 0 0 = true := by
        split
        · simp [D.cl, isRws_cl hzr]
        · exact rows_cl hx
      refine ⟨by simp, by simp [D.cl, D.clL, hcl, isLs_cl hf], fun H T => ?_⟩
      unfold errS at he
      rw [hoi] at he
      obtain ⟨bd, hbd⟩ : ∃ b, badR (rwD r) = b := ⟨_, rfl⟩
      rw [hbd] at he
      have hbd : (((r.who != sSub) && (r.who != sRes)) || (r.name == []) || decide (64 < r.name.length) || !formedB r.v || (r.k == 0)) = bd := hbd
      obtain ⟨fb, hfb⟩ : ∃ b, formedB r.v = b := ⟨_, rfl⟩
      rw [hfb] at hbd p51
      obtain ⟨f, hff⟩ : ∃ f, fitR (elems fs) (rwD r) = f := ⟨_, rfl⟩
      rw [hff] at p29 he
      obtain ⟨B, hB⟩ : ∃ B, H ++ [Ob.row [fs, sliceD n xs], .row [.str r.who, .str r.name, .str r.attr, .int .i64 r.k, .int .i64 r.i, .str r.s, sliceD r.n r.l], .row [.nils, .nils]] = B := ⟨_, rfl⟩
      have b2 : B[H.length]? = some (.row [fs, sliceD n xs]) := by rw [← hB]; simp
      have b3 : B[H.length + 1]? = some (.row [.str r.who, .str r.name, .str r.attr, .int .i64 r.k, .int .i64 r.i, .str r.s, sliceD r.n r.l]) := by rw [← hB]; simp
      have b4 : B[H.length + 2]? = some (.row [.nils, .nils]) := by rw [← hB]; simp
      have hBl : B.length = H.length + 3 := by rw [← hB]; simp
      have hE0 : Ext H B := by rw [← hB]; exact Ext.of _ _
      have g2 := rdAt_of b2
      have g3 := rdAt_of b3
      have g4 := rdAt_of b4
      simp only [rwD] at p29 p63
      simp only [mkV] at p51
      have out : ∀ (d' : D) (x : Int) (B' : Hp) (U : Tk), Ext H B' → d' = sliceD n xs → x = e → e ≠ 0 → ExtT T U → LeavesE (.tup [.agg [fs, if e = 0 then .sl none zs else sliceD n xs], .int .i64 e]) H T (.tup [.agg [fs, d'], .int .i64 x]) B' U := by
        rintro d' x B' U h1 rfl rfl h3 h4
        rw [if_neg h3]
        exact leavesE_end (.refl _) h1 h4
      unfold c22
      refine W_cut (I := fun s' => s'.t 2 = .ptr H.length 0 ∧ s'.t 3 = .ptr (H.length + 1) 0 ∧ s'.t 4 = .ptr (H.length + 2) 0 ∧ s'.H = B ∧ s'.T = T) hX ?_ ?_
      · simp +contextual (maxSteps := 10000000) only [rwD, eL, ef, of, cf, ex, go_sem, W_draw]
        exact hB
      rintro ⟨t, B', U⟩ ⟨r2, r3, r4, rfl, rfl⟩
      simp only at r2 r3 r4 b2 b3 b4 hBl hE0 g2 g3 g4
      refine W_cut (I := fun s' => bd = false ∧ s'.t 2 = .ptr H.length 0 ∧ s'.t 3 = .ptr (H.length + 1) 0 ∧ s'.t 4 = .ptr (H.length + 2) 0 ∧ s'.H = B' ∧ s'.T = U) hX ?_ ?_
      · have fin : bd = true → LeavesE (.tup [.agg [fs, if e = 0 then .sl none zs else sliceD n xs], .int .i64 e]) H U (.tup [.agg [fs, sliceD n xs], .int .i64 1]) (B'.set (H.length + 2) (.row [fs, sliceD n xs])) U := fun h => by
          rw [h, if_pos rfl] at he
          exact out _ _ _ _ (hE0.set (by omega) _) rfl he (by omega) (ExtT.refl _)
        have w1 : (r.who != sSub) = (r.who != [115, 117, 98, 106, 101, 99, 116]) := rfl
        have w2 : (r.who != sRes) = (r.who != [114, 101, 115, 111, 117, 114, 99, 101]) := rfl
        rw [w1, w2] at hbd
        have l64 : decide ((r.name.length : Int) > 64) = decide (64 < r.name.length) := by rw [Bool.eq_iff_iff, decide_eq_true_eq, decide_eq_true_eq]; omega
        have rest : ∀ (a b : Bool), (r.who != [115, 117, 98, 106, 101, 99, 116]) = a → (a = true → (r.who != [114, 101, 115, 111, 117, 114, 99, 101]) = b) → (a && b) = false → True := fun _ _ _ _ _ => trivial
        obtain ⟨a, ha⟩ : ∃ a, (r.who != [115, 117, 98, 106, 101, 99, 116]) = a := ⟨_, rfl⟩
        obtain ⟨b, hb⟩ : ∃ a, (r.who != [114, 101, 115, 111, 117, 114, 99, 101]) = a := ⟨_, rfl⟩
        obtain ⟨nn, hn⟩ : ∃ a, (r.name == []) = a := ⟨_, rfl⟩
        obtain ⟨ll, hll⟩ : ∃ a, decide (64 < r.name.length) = a := ⟨_, rfl⟩
        obtain ⟨k0, hk⟩ : ∃ a, (r.k == 0) = a := ⟨_, rfl⟩
        rw [ha, hb, hn, hll, hk] at hbd
        rw [hll] at l64
        cases a <;> cases b <;> cases nn <;> cases ll <;> cases fb <;> cases k0 <;> simp only [Bool.not_true, Bool.not_false, Bool.and_true, Bool.and_false, Bool.or_true, Bool.or_false, Bool.true_and, Bool.false_and, Bool.true_or, Bool.false_or, Bool.and_self, Bool.or_self] at hbd <;>
          simp +contextual (maxSteps := 10000000) only [r2, r3, r4, g2, g3, ld, List.take_zero, List.nil_append, List.drop_succ_cons, List.drop_zero, List.head?_cons, ha, hb, hn, l64, hk, p51, pcallU hM, u0, XU_eq, eL, ef, of, cf, ex, storeK_E b4, rdAt_set0 b4, go_sem, W_draw] <;>
          first | exact fin hbd.symm | exact hbd.symm | (subst hbd; rfl)
      rintro ⟨t, B2, U2⟩ ⟨hb0, r2, r3, r4, rfl, rfl⟩
      simp only at r2 r3 r4 b2 b3 b4 hBl hE0 g2 g3 g4
      rw [hb0] at he
      simp only [Bool.false_eq_true, if_false] at he
      have agz := rows_ag hzr
      have fr : ∀ (H2 : Hp) (o2 N c2 : Nat) (X : List D), Ext B2 H2 → B2.length ≤ o2 → H2[o2]? = some (.row (flatD zs ++ X)) → N = zs.length → zs.length ≤ 2 ^ 40 → e = 0 → LeavesE (.tup [.agg [fs, if e = 0 then .sl none zs else sliceD n xs], .int .i64 e]) H U2 (.tup [.agg [fs, .ms true 7 o2 0 N c2], .int .i64 0]) (H2.set (H.length + 2) (.row [fs, .ms true 7 o2 0 N c2])) U2 := by
        rintro H2 o2 N c2 X h1 h2 h3 rfl h4 h5
        have hx2 : Ext H H2 := hE0.trans h1
        have hB2l := h1
        obtain ⟨L2, e2⟩ := hB2l
        rw [h5, if_pos rfl]
        refine leavesE_fz o2 (flatD zs ++ X) (by rw [List.getElem?_set_ne (by omega)]; exact h3) (by omega) ?_ (hx2.set (by omega) _) (ExtT.refl _)
        have hc := chunk_flat zs X agz
        have efz : D.fz o2 (flatD zs ++ X) (.tup [.agg [fs, .ms true 7 o2 0 zs.length c2], .int .i64 0]) = .tup [.agg [fs, .sl none zs], .int .i64 0] := by
          simp only [D.fz, D.fzL, fz_fs hf]
          rw [if_pos ⟨trivial, by rw [List.length_append, agz.flat]; omega, .inl trivial, by omega⟩, List.drop_zero, hc]
        rw [efz]
        exact .refl _
      rcases tf (f != 0) with c | c
      · rw [c, if_pos rfl] at he
        have hne : f ≠ 0 := by simpa [bne] using c
        simp +contextual (maxSteps := 10000000) only [r2, r3, r4, g2, g3, ld, List.take_zero, List.nil_append, List.drop_succ_cons, List.drop_zero, List.head?_cons, p29, c, pcallU hM, u0, XU_eq, eL, ef, of, cf, ex, storeK_E b4, rdAt_set0 b4, go_sem, W_draw]
        exact out _ _ _ _ (hE0.set (by omega) _) rfl he (by omega) (ExtT.refl _)
      rw [c] at he
      simp only [Bool.false_eq_true, if_false] at he
      cases oi with
      | none =>
        have dm : decide ((-1 : Int) < 0) = true := rfl
        have l120 : decide ((xs.length : Int) ≥ 120) = decide (120 ≤ xs.length) := by rw [Bool.eq_iff_iff, decide_eq_true_eq, decide_eq_true_eq]; omega
        simp only [Option.isNone_none, Bool.true_and] at he
        rcases tf (decide (120 ≤ xs.length)) with c2 | c2
        · rw [c2, if_pos rfl] at he
          rw [c2] at l120
          simp +contextual (maxSteps := 10000000) only [r2, r3, r4, g2, g3, ld, List.take_zero, List.nil_append, List.drop_succ_cons, List.drop_zero, List.head?_cons, p29, p63, c, dm, l120, pcallU hM, u0, XU_eq, eL, ef, of, cf, ex, storeK_E b4, rdAt_set0 b4, go_sem, W_draw]
          exact out _ _ _ _ (hE0.set (by omega) _) rfl he (by omega) (ExtT.refl _)
        · rw [c2] at he l120
          simp only [Bool.false_eq_true, if_false] at he
          have hzz : zs = xs ++ [rwD r] := by rw [← hzs]; unfold Ord.set_; rw [hoi]
          simp +contextual (maxSteps := 10000000) only [r2, r3, r4, g2, g3, ld, List.take_zero, List.nil_append, List.drop_succ_cons, List.drop_zero, List.head?_cons, p29, p63, c, dm, l120, pcallU hM, u0, XU_eq, eL, ef, of, cf, ex, rdAt_in b2, go_sem, W_draw]
          refine appm_new (P := B2) ag (by omega) fun H' o' c1 X1 hE1 ho1 hrow hc1 hX1 hX1o => ?_
          have g3' := rdAt_of (hE1.get b3)
          have hsrc : appSrcM (H' ++ [Ob.row (flatD [D.agg [.str r.who, .str r.name, .str r.attr, .int .i64 r.k, .int .i64 r.i, .str r.s, sliceD r.n r.l]])]) false 7 (.ms true 7 H'.length 0 1 1) = some [D.agg [.str r.who, .str r.name, .str r.attr, .int .i64 r.k, .int .i64 r.i, .str r.s, sliceD r.n r.l]] := src_one (d := rwD r) agL
          simp +contextual (maxSteps := 10000000) only [r2, r3, r4, g3', ld, List.take_zero, List.nil_append, List.drop_succ_cons, List.drop_zero, List.head?_cons, hsrc, dm, go_sem, W_draw]
          refine appm_one (d := rwD r) hE1 ho1 hrow ag agL (by omega) hc1 hX1 hX1o fun H2 o2 c2 X2 hE2 ho2 hrow2 hc2 hX2 _ => ?_
          have b4' := hE2.get b4
          have g2' := rdAt_of (hE2.get b2)
          simp +contextual (maxSteps := 10000000) only [r2, r3, r4, g2', ld, List.take_zero, List.nil_append, List.drop_succ_cons, List.drop_zero, List.head?_cons, of, cf, storeK_E b4', rdAt_set0 b4', go_sem, W_draw]
          exact fr H2 o2 _ c2 X2 hE2 ho2 (by rw [hzz]; exact hrow2) (by rw [hzz]; simp) (by rw [hzz]; simp; omega) he.symm
      | some i =>
        obtain ⟨hi, _, _⟩ := Ord.at_some hoi
        have dm : decide ((i : Int) < 0) = false := decide_eq_false (by omega)
        simp only [Option.isNone_some, Bool.false_and, Bool.false_eq_true, if_false] at he
        have hzz : zs = xs.set i (rwD r) := by rw [← hzs]; unfold Ord.set_; rw [hoi]
        simp +contextual (maxSteps := 10000000) only [r2, r3, r4, g2, g3, ld, List.take_zero, List.nil_append, List.drop_succ_cons, List.drop_zero, List.head?_cons, p29, p63, c, dm, pcallU hM, u0, XU_eq, eL, ef, of, cf, ex, rdAt_in b2, go_sem, W_draw]
        refine appm_new (P := B2) ag (by omega) fun H' o' c1 X1 hE1 ho1 hrow hc1 hX1 hX1o => ?_
        have g3' := rdAt_of (hE1.get b3)
        have i1 := ia_msN (ag := true) (sz := 7) (o := o') (off := 0) (cap := c1) (k := .i64) hi
        rw [Nat.zero_add] at i1
        simp +contextual (maxSteps := 10000000) only [r2, r3, r4, g3', ld, List.take_zero, List.nil_append, List.drop_succ_cons, List.drop_zero, List.head?_cons, dm, i1, go_sem, W_draw]
        refine st_ms (rest := X1) (xs := xs) (i := i) hrow ag ⟨_, rfl, rfl⟩ hi rfl ?_
        have hlo : o' < H'.length := by
          rcases Nat.lt_or_ge o' H'.length with h' | h'
          · exact h'
          · rw [List.getElem?_eq_none h'] at hrow; cases hrow
        obtain ⟨H2, hH2⟩ : ∃ H2, H'.set o' (.row (flatD (xs.set i (D.agg [.str r.who, .str r.name, .str r.attr, .int .i64 r.k, .int .i64 r.i, .str r.s, sliceD r.n r.l])) ++ X1)) = H2 := ⟨_, rfl⟩
        have hE2 : Ext B2 H2 := by rw [← hH2]; exact hE1.set ho1 _
        have hrow2 : H2[o']? = some (.row (flatD zs ++ X1)) := by rw [← hH2, List.getElem?_set_self hlo, hzz]; rfl
        rw [hH2]
        have b4' := hE2.get b4
        have g2' := rdAt_of (hE2.get b2)
        simp +contextual (maxSteps := 10000000) only [r2, r3, r4, g2', ld, List.take_zero, List.nil_append, List.drop_succ_cons, List.drop_zero, List.head?_cons, of, cf, storeK_E b4', rdAt_set0 b4', go_sem, W_draw]
        exact fr H2 o' _ c1 X1 hE2 ho1 hrow2 (by rw [hzz]; simp) (by rw [hzz]; simp; omega) he.symm
    · cases h
  · cases h
end GP
namespace GP
open Go Go.Proofs
set_option maxRecDepth 100000
variable [HasG Try.prog]
def accS (sz : Nat) (T : Tk) (xs : List D) (d : D) (T' : Tk) : Prop := ExtT T T' ∧ ∃ i, T.length ≤ i ∧ d = .sl (some i) xs ∧ T'[i]? = some (some (xs.length, sz))
theorem accS.mk {sz : Nat} {T : Tk} : accS sz T [] (.sl (some T.length) []) (T ++ [some (0, sz)]) := ⟨ExtT.of _ _, T.length, Nat.le_refl _, rfl, by simp⟩
theorem app_accS {sz bytes : Nat} {K : D → S → Prop} {t : Nat → D} {H : Hp} {T T' : Tk} {xs : List D} {d : D} (ys : List D) (h : accS sz T xs d T') (hy : ys.all (fit sz) = true) (hxs : xs.all (fit sz) = true) (hb : (xs.length + ys.length) * bytes ≤ 2 ^ 47) (hb2 : xs.length + ys.length < 2 ^ 62)
    (k : ∀ d2 T2, accS sz T (xs ++ ys) d2 T2 → K d2 ⟨t, H, T2⟩) : appK sz bytes K ⟨t, H, T'⟩ d (some ys) := by
  obtain ⟨h1, i, hi, rfl, hT⟩ := h
  simp only [appK]
  refine ⟨hy, hT, hb, hb2, hxs, k _ _ ⟨?_, i, hi, rfl, ?_⟩⟩
  · obtain ⟨L, rfl⟩ := h1
    exact ⟨L.set (i - T.length) (some (xs.length + ys.length, sz)), by rw [List.set_append_right _ _ hi]⟩
  · have : i < T'.length := by
      rcases Nat.lt_or_ge i T'.length with h | h
      · exact h
      · rw [List.getElem?_eq_none h] at hT; cases hT
    rw [List.getElem?_set_self this]; simp
theorem slc_s0 {sz : Nat} {n : Bool} {xs : List D} (hc : xs.all (fun d => d.cells.length == sz) = true) {i : Nat} (hi : i < xs.length) : slc sz (some 0) (some (i : Int)) (sliceD n xs) = some (.sl none (xs.take i)) := by
  rcases sliceD_cases n xs with ⟨_, e⟩ | e
  · subst e; simp at hi
  · rw [e, slc_sl, if_pos ⟨by omega, by omega, by omega, hc⟩]
    simp [subList]
theorem slc_s1 {sz : Nat} {n : Bool} {xs : List D} (hc : xs.all (fun d => d.cells.length == sz) = true) {i : Nat} (hi : i < xs.length) : slc sz (some ((i + 1 : Nat) : Int)) (some (xs.length : Int)) (sliceD n xs) = some (.sl none (xs.drop (i + 1))) := by
  rcases sliceD_cases n xs with ⟨_, e⟩ | e
  · subst e; simp at hi
  · rw [e, slc_sl, if_pos ⟨by omega, by omega, by omega, hc⟩]
    simp only [subList, Int.toNat_natCast]
    rw [List.take_of_length_le (Nat.le_refl _)]
    simp
def errD (xs : List D) (d : D) : Int := if (Ord.at_ ordD d xs).isNone then 8 else 0
theorem del_sub {xs : List D} {d : D} : ∀ y ∈ Ord.del_ ordD d xs, y ∈ xs := fun y hy => by
  unfold Ord.del_ at hy
  split at hy
  · exact hy
  · rcases List.mem_append.1 hy with h | h
    · exact List.mem_of_mem_take h
    · exact List.mem_of_mem_drop h
open Classical in
noncomputable def φ24 : List D → Option D
  | [.agg [fs, rows], d] => if isLs isF fs ∧ isLs isRw rows ∧ (elems rows).length ≤ 2 ^ 29 ∧ isRw d then
      some (.tup [.agg [fs, if errD (elems rows) d = 0 then .sl none (Ord.del_ ordD d (elems rows)) else rows], .int .i64 (errD (elems rows) d)]) else none
  | _ => none
set_option maxHeartbeats 4000000 in
theorem ok24 : OkAt Try.prog 24 φ24 := by
  refine ok_of (l := [(63, φ63)]) (.cons ok63 .nil) fn24 fun args rr h => ?_
  unfold φ24 at h
  split at h
  · rename_i fs rows d
    split at h
    · rename_i hv
      obtain ⟨hf, hrs, hl, hrd⟩ := hv
      injection h with h; subst h
      have hrs' := hrs
      have hrd' := hrd
      obtain ⟨n, xs, rfl, _, hx⟩ := hrs
      obtain ⟨r, rfl, hr⟩ := hrd
      rw [elems_sliceD] at hl ⊢
      obtain ⟨ef, of, cf⟩ := isF_lc hf
      have ex := rows_er hx
      have eL := hr.eL
      have hc := rows_cells hx
      have p63 : φ63 [.agg [fs, sliceD n xs], rwD r] = some (.int .i64 (idxP (fun x => keyB x (rwD r)) xs)) := by simp only [φ63]; rw [if_pos ⟨hf, hrs', hrd'⟩, elems_sliceD]
      rw [idx_at] at p63
      obtain ⟨oi, hoi⟩ : ∃ i, Ord.at_ ordD (rwD r) xs = i := ⟨_, rfl⟩
      rw [hoi] at p63
      obtain ⟨zs, hzs⟩ : ∃ zs, Ord.del_ ordD (rwD r) xs = zs := ⟨_, rfl⟩
      have hzr : ∀ z ∈ zs, isRw z := fun z hz => hx z (del_sub z (by rw [hzs]; exact hz))
      unfold errD
      rw [hoi, hzs]
      have hcl : ∀ e : Int, (if e = 0 then D.sl none zs else sliceD n xs).cl 0 0 = true := fun e => by
        split
        · simp [D.cl, isRws_cl hzr]
        · exact rows_cl hx
      refine ⟨by simp, by simp only [D.cl, D.clL, hcl, isLs_cl hf, Bool.and_self], fun H T => ?_⟩
      simp only [rwD] at p63
      cases oi with
      | none =>
        have dm : decide ((-1 : Int) < 0) = true := rfl
        have e8 : ((8 : Int) = 0) = False := by simp
        simp only [Option.isNone_none, if_true, e8, if_false]
        simp +contextual (maxSteps := 10000000) only [c24, rwD, eL, ef, of, cf, ex, p63, dm, go_sem, W_draw]
      | some i =>
        obtain ⟨hi, _, _⟩ := Ord.at_some hoi
        have dm : decide ((i : Int) < 0) = false := decide_eq_false (by omega)
        have hzz : zs = xs.take i ++ xs.drop (i + 1) := by rw [← hzs]; unfold Ord.del_; rw [hoi]
        have s0 := slc_s0 (n := n) hc hi
        have s1 := slc_s1 (n := n) hc hi
        simp only [Option.isNone_some, Bool.false_eq_true, if_false, if_true]
        have ez : D.eraseL zs = zs := rows_er hzr
        simp +contextual (maxSteps := 10000000) only [c24, rwD, eL, ef, of, cf, ex, p63, dm, s0, go_sem, W_draw]
        refine app_accS (sz := 7) (bytes := 104) (T := T) (xs.take i) accS.mk (rows_fit fun z h => hx z (List.mem_of_mem_take h)) rfl (by simp; omega) (by simp; omega) fun d2 T2 hA => ?_
        simp +contextual (maxSteps := 10000000) only [eL, ef, of, cf, ex, s1, wrap_succ i (by omega), go_sem, W_draw]
        refine app_accS (sz := 7) (bytes := 104) (xs.drop (i + 1)) hA (rows_fit fun z h => hx z (List.mem_of_mem_drop h)) (rows_fit fun z h => hx z (List.mem_of_mem_take (by simpa using h))) (by simp; omega) (by simp; omega) fun d4 T4 hA4 => ?_
        rw [List.nil_append, ← hzz] at hA4
        obtain ⟨hT, τ, _, rfl, _⟩ := hA4
        simp +contextual (maxSteps := 10000000) only [eL, ef, of, cf, ex, ez, leaves_E (Ext.of H _) hT, go_sem, W_draw]
    · cases h
  · cases h
end GP
namespace GP
open Go Go.Proofs
open Rd O
set_option maxRecDepth 100000
theorem okFXH_of {P : Program} [HasG P] {X : Pred} (hX : ∀ f args H T Q Q', (∀ r H T, Q r H T → Q' r H T) → X f args H T Q → Snd P f args H T Q') {f : FuncId} {n : Nat} {rs : List (Sum Nat (Nat × Bool × Nat))} {cc : C} (hf : Fn P f n rs cc) {φ : Hp → List D → Option D}
    (h : ∀ H args r, φ H args = some r → args.length ≤ n ∧ r.cl 0 0 = true ∧ ∀ T, W X cc (endQ rs (LeavesE r H T)) ⟨argT args, H, T⟩) : OkAtH P f φ := by
  intro H args r hr args' he T Q hQ
  refine okEX_of hX hf (φ := fun H a => (φ H a).map fun r => (r, H)) (fun H a r H1 hr => ?_) H args r H (by simp [hr]) args' he T Q hQ
  cases ha : φ H a with
  | none => rw [ha] at hr; cases hr
  | some r' =>
    rw [ha] at hr; simp only [Option.map_some, Option.some.injEq, Prod.mk.injEq] at hr
    obtain ⟨rfl, rfl⟩ := hr
    obtain ⟨h1, h2, h3⟩ := h H a r' ha
    exact ⟨h1, D.cl_mono (Nat.zero_le _) (Nat.le_refl _) r' h2, Closed.refl _ _, fun T => h3 T⟩
theorem crs_nil0 : Crs .nils (.sl none []) := by
  intro c v hr
  cases hr
  exact Rep.sl none [] none 0 0 (fun _ _ => undef) (by simp) (by simp) (by simp) (by simp) (by simp) (by simp) (by simp) (by simp) (by simp) (by simp)
def cloneI (sz bytes : Nat) : C :=
  (.seq (.reg [⟨(some 2), none, .mv (k .nils)⟩])
  (.seq (.seq (.reg [⟨(some 3), none, .mv (t 0)⟩, ⟨(some 4), none, .isn false (t 3)⟩])
  (.cond (t 4)
  (.seq (.reg [⟨(some 2), none, .mv (k .nils)⟩])
  .ret)
  .skip))
  (.seq (.reg [⟨(some 5), none, .bsl sz []⟩, ⟨(some 6), none, .mv (t 0)⟩, ⟨(some 7), none, .app false sz bytes (t 5) (t 6)⟩, ⟨(some 2), none, .mv (t 7)⟩])
  .ret)))
open Classical in
noncomputable def φcl (sz : Nat) : List D → Option D
  | [.nils] => some .nils
  | [.sl none xs] => if xs.all (fit sz) = true ∧ D.clL 0 0 xs = true ∧ D.eraseL xs = xs ∧ xs.length ≤ 2 ^ 30 then some (.sl none xs) else none
  | _ => none
variable [HasG Try.prog]
theorem okCloneI {N : FuncId} {sz bytes : Nat} (hf : Fn Try.prog N 8 [.inl 2] (cloneI sz bytes)) (hb : bytes ≤ 2 ^ 10) : OkAt Try.prog N (φcl sz) := by
  refine okFX_of (X := XU Try.prog [] [] [] []) (XU.X .nil .nil .nil) hf fun args rr h => ?_
  unfold φcl at h
  split at h
  · injection h with h; subst h
    refine ⟨by simp, rfl, fun H T => ?_⟩
    simp +contextual (maxSteps := 10000000) only [cloneI, go_sem, W_draw]
    exact leavesE_end (.refl _) (Ext.refl _) (ExtT.refl _)
  · rename_i xs
    split at h
    · rename_i hc
      obtain ⟨h1, h2, h3, h4⟩ := hc
      injection h with h; subst h
      refine ⟨by simp, by simp [D.cl, h2], fun H T => ?_⟩
      have hbb : xs.length * bytes ≤ 2 ^ 47 := by
        have := Nat.mul_le_mul h4 hb
        omega
      have last : ∀ d2 T2, accS sz T xs d2 T2 → LeavesE (.sl none xs) H T d2 H T2 := fun d2 T2 hA => by
        obtain ⟨hT, τ, _, rfl, _⟩ := hA
        exact leavesE_end (Crs.erase (by simp only [D.erase, h3])) (Ext.refl _) hT
      cases xs with
      | nil =>
        simp +contextual (maxSteps := 10000000) only [cloneI, go_sem, W_draw]
        refine ⟨leavesE_end crs_nil0 (Ext.refl _) (ExtT.refl _), ?_⟩
        refine app_accS (sz := sz) (bytes := bytes) (T := T) [] accS.mk h1 rfl (by simp) (by simp) fun d2 T2 hA => ?_
        simp +contextual (maxSteps := 10000000) only [go_sem, W_draw]
        exact last d2 T2 hA
      | cons x r =>
        simp +contextual (maxSteps := 10000000) only [cloneI, go_sem, W_draw]
        refine app_accS (sz := sz) (bytes := bytes) (T := T) (x :: r) accS.mk h1 rfl (by simpa using hbb) (by simp at h4 ⊢; omega) fun d2 T2 hA => ?_
        simp +contextual (maxSteps := 10000000) only [go_sem, W_draw]
        exact last d2 T2 hA
    · cases h
  · cases h
theorem ok84i : OkAt Try.prog 84 (φcl 4) := okCloneI (sz := 4) (bytes := 56) fn84s (by decide)
theorem ok58i : OkAt Try.prog 58 (φcl 4) := okCloneI (sz := 4) (bytes := 48) fn58 (by decide)
def okD : D → Bool
  | .nils => true
  | .sl none _ => true
  | .ms true 7 _ 0 _ _ => true
  | _ => false
theorem src_mono {H H' : Hp} (hl : Hle H H') {d : D} {xs : List D} (h : appSrcM H false 7 d = some xs) : appSrcM H' false 7 d = some xs := by
  cases d with
  | ms ag z o off n cap =>
    simp only [appSrcM] at h ⊢
    cases ho : H[o]? with
    | none => rw [ho] at h; cases h
    | some x =>
      rw [ho] at h
      cases x with
      | row cs => rw [hl o _ ho rfl]; exact h
      | _ => cases h
  | _ => exact h
def frzD (d : D) (xs : List D) : D := match d with
  | .nils => .nils
  | _ => .sl none xs
open Classical in
noncomputable def φ57 (H : Hp) : List D → Option D
  | [d] => match appSrcM H false 7 d with
    | some xs => if (∀ x ∈ xs, isRw x) ∧ xs.length ≤ 2 ^ 30 ∧ okD d = true then some (frzD d xs) else none
    | none => none
  | _ => none
theorem φ57_mono : Mo φ57 := by
  intro H H' a r hl h
  unfold φ57 at h ⊢
  split at h
  · split at h
    · rename_i e
      rw [src_mono hl e]; exact h
    · cases h
  · cases h
theorem hle_ext {H H' : Hp} (h : Ext H H') : Hle H H' := fun o x ho _ => h.get ho
theorem clone96 {d : D} {xs : List D} {H : Hp} {T : Tk} {Q : Post} (hs : appSrcM H false 7 d = some xs) (hd : okD d = true) (hx : ∀ x ∈ xs, isRw x) (hl : xs.length ≤ 2 ^ 30) (k0 : (d = .nils ∨ d = .sl none []) → Q .nils H T)
    (k : ∀ H' o c X, d ≠ .nils → Ext H H' → H.length ≤ o → H'[o]? = some (.row (flatD xs ++ X)) → xs.length ≤ c → X.length = (c - xs.length) * 7 → (∀ d ∈ X, d.one = true) → Q (.ms true 7 o 0 xs.length c) H' T) : Snd Try.prog 96 [d] H T Q := by
  refine call_of fn96 (by simp) (W_mono (X := XL []) (Ok.X .nil) (fun _ _ h => h) ?_)
  have hs' : appSrcM (H ++ [Ob.row (flatD [])]) false 7 d = some xs := src_mono (hle_ext (Ext.of H _)) hs
  unfold okD at hd
  split at hd
  · simp +contextual (maxSteps := 10000000) only [c96, go_sem, W_draw]
    exact k0 (.inl rfl)
  · rename_i ys
    have e : ys = xs := by injection hs
    subst e
    cases ys with
    | nil =>
      simp +contextual (maxSteps := 10000000) only [c96, go_sem, W_draw]
      refine ⟨k0 (.inr rfl), ?_⟩
      refine appm_new (P := H) (xs := []) (by intro x h; cases h) (by simp) fun H' o' c X h1 h2 h3 h4 h5 h6 => ?_
      simp +contextual (maxSteps := 10000000) only [go_sem, W_draw]
      exact k H' o' c X (by simp) h1 h2 h3 h4 h5 h6
    | cons y r =>
      simp +contextual (maxSteps := 10000000) only [c96, go_sem, W_draw]
      refine appm_new (P := H) (xs := y :: r) (rows_ag hx) hl fun H' o' c X h1 h2 h3 h4 h5 h6 => ?_
      simp +contextual (maxSteps := 10000000) only [go_sem, W_draw]
      exact k H' o' c X (by simp) h1 h2 h3 h4 h5 h6
  · simp +contextual (maxSteps := 10000000) only [c96, hs', go_sem, W_draw]
    refine appm_new (P := H) (xs := xs) (rows_ag hx) hl fun H' o' c X h1 h2 h3 h4 h5 h6 => ?_
    simp +contextual (maxSteps := 10000000) only [go_sem, W_draw]
    exact k H' o' c X (by simp) h1 h2 h3 h4 h5 h6
  · cases hd
theorem row_cell {xs rest : List D} {H : Hp} {o i : Nat} {r : Rw} (ho : H[o]? = some (.row (flatD xs ++ rest))) (hag : isAg 7 xs) (hx : xs[i]? = some (rwD r)) : ∃ tl, rdAt H (.ptr o (i * 7 + 6)) = some (sliceD r.n r.l :: tl) := by
  have hi : i < xs.length := by
    rcases Nat.lt_or_ge i xs.length with h' | h'
    · exact h'
    · rw [List.getElem?_eq_none h'] at hx; cases hx
  have hd : (flatD xs ++ rest).drop (i * 7) = (rwD r).cells ++ (flatD (xs.drop (i + 1)) ++ rest) := by
    rw [List.drop_append_of_le_length (by rw [hag.flat]; exact Nat.mul_le_mul_right _ (by omega)), flatD_drop xs i hag.len]
    have e1 : xs.drop i = xs[i] :: xs.drop (i + 1) := List.drop_eq_getElem_cons hi
    rw [e1, flatD_cons]
    have e2 : xs[i] = rwD r := by rw [List.getElem?_eq_getElem hi] at hx; injection hx
    rw [e2]; simp
  refine ⟨flatD (xs.drop (i + 1)) ++ rest, ?_⟩
  simp only [rdAt, ho]
  rw [← List.drop_drop, hd]
  rfl
theorem st_same {K : D → S → Prop} {t : Nat → D} {H : Hp} {T : Tk} {o off : Nat} {v : D} {tl : List D} (h : rdAt H (.ptr o off) = some (v :: tl)) (ho : v.okc = true) (hc : v.cells = [v]) (k : K .top ⟨t, H, T⟩) : storeK 1 K ⟨t, H, T⟩ (.ptr o off) v := by
  simp only [rdAt] at h
  split at h
  · rename_i cs hcs
    injection h with h
    simp only [storeK, hcs]
    have hl : off + 1 ≤ cs.length := by
      have := congrArg List.length h
      simp at this; omega
    refine ⟨ho, by rw [hc]; rfl, hl, ?_⟩
    have e : cs.take off ++ v.cells ++ cs.drop (off + 1) = cs := by
      rw [hc, ← List.drop_drop, h, List.append_assoc]
      simp only [List.singleton_append, List.drop_succ_cons, List.drop_zero]
      rw [← h, List.take_append_drop]
    rw [e]
    have hs : H.set o (.row cs) = H := by
      apply List.ext_getElem?
      intro i
      rw [List.getElem?_set]
      split
      · rename_i e; subst e
        have : o < H.length := by
          rcases Nat.lt_or_ge o H.length with h' | h'
          · exact h'
          · rw [List.getElem?_eq_none h'] at hcs; cases hcs
        rw [if_pos this, hcs]
      · rfl
    rw [hs]; exact k
  · cases h
theorem clL_rows {r : Rw} (h : r.Ok) : φcl 4 [sliceD r.n r.l] = some (sliceD r.n r.l) := by
  have hl := h.ll
  have hv := (mkV_erase h.v.1).2.2.2
  have hag : isAg 4 r.l := fun x hx => by
    obtain ⟨k, i, s, n, l, rfl, _⟩ := isV_elim (hv x hx)
    exact ⟨_, rfl, rfl⟩
  rcases sliceD_cases r.n r.l with ⟨e, _⟩ | e
  · rw [e]; rfl
  · rw [e]
    simp only [φcl]
    rw [if_pos ⟨hag.fit, isVs_cl (isVs_iff.2 hv), h.eL, hl⟩]
set_option maxHeartbeats 2000000 in
theorem ok57 : OkAtH Try.prog 57 φ57 := by
  refine okFXH_of (X := XU Try.prog [96] [(84, φcl 4)] [] []) (XU.X (.cons ok84i .nil) .nil .nil) fn57 fun H args rr h => ?_
  have hM : MonoH [] := .nil
  have u1 : ([96] : List FuncId).contains 96 = true := rfl
  have u2 : ([96] : List FuncId).contains 84 = false := rfl
  have hX := XU_mono (P := Try.prog) [96] [(84, φcl 4)] [] []
  unfold φ57 at h
  split at h
  · rename_i d
    split at h
    · rename_i xs hs
      split at h
      · rename_i hc
        obtain ⟨hx, hl, hd⟩ := hc
        injection h with h; subst h
        have hcl : (frzD d xs).cl 0 0 = true := by
          unfold frzD
          split
          · rfl
          · simp [D.cl, isRws_cl hx]
        refine ⟨by simp, hcl, fun T => ?_⟩
        simp +contextual (maxSteps := 10000000) only [c57, u1, XU_eq, go_sem, W_draw]
        refine clone96 hs hd hx hl (fun h0 => ?_) fun B o c X hn hE ho hrow hcc hX2 _ => ?_
        · have d0 : decide ((0 : Int) < 0) = false := rfl
          simp +contextual (maxSteps := 10000000) only [u1, XU_eq, go_sem, W_draw]
          refine W_for (fun i s' => s'.t 3 = .nils ∧ s'.t 8 = .int .i64 0 ∧ s'.t 9 = .int .i64 0 ∧ s'.H = H ∧ s'.T = T ∧ i ≤ 0) 0 ⟨0, by simp [upd], by simp [upd], by simp [upd], rfl, rfl, Nat.le_refl _⟩ (fun i s h => h.2.2.2.2.2) ?_ hX
          rintro i ⟨t, B, U⟩ ⟨r3, r8, r9, rfl, rfl, hi⟩
          simp only at r3 r8 r9
          simp +contextual (maxSteps := 10000000) only [r3, r8, r9, d0, go_sem, W_draw]
          rcases h0 with rfl | rfl
          · exact leavesE_end (.refl _) (Ext.refl _) (ExtT.refl _)
          · have e : xs = [] := by injection hs with hs; exact hs.symm
            subst e
            exact leavesE_end crs_nil0 (Ext.refl _) (ExtT.refl _)
        · simp +contextual (maxSteps := 10000000) only [u1, XU_eq, go_sem, W_draw]
          have hag := rows_ag hx
          refine W_for (fun i s' => s'.t 3 = .ms true 7 o 0 xs.length c ∧ s'.t 8 = .int .i64 xs.length ∧ s'.t 9 = .int .i64 (i : Nat) ∧ s'.H = B ∧ s'.T = T ∧ i ≤ xs.length) xs.length ⟨0, by simp [upd], by simp [upd], by simp [upd], rfl, rfl, by omega⟩ (fun i s h => h.2.2.2.2.2) ?_ hX
          rintro i ⟨t, B', U⟩ ⟨r3, r8, r9, rfl, rfl, hi⟩
          simp only at r3 r8 r9 hE hrow
          by_cases hlt : i < xs.length
          · have d1 : decide ((i : Int) < xs.length) = true := by simpa using hlt
            obtain ⟨r, hr, hro⟩ := hx _ (List.getElem_mem hlt)
            have e : xs[i]? = some (rwD r) := by rw [← hr]; simp [hlt]
            obtain ⟨tl, hcell⟩ := row_cell (rest := X) hrow hag e
            have p84 := clL_rows hro
            have er := hro.eL
            have i1 := ia_msN (ag := true) (sz := 7) (o := o) (off := 0) (cap := c) (k := .i64) hlt
            rw [Nat.zero_add] at i1
            simp +contextual (maxSteps := 10000000) only [r3, r8, r9, d1, i1, hcell, p84, er, ld, List.head?_cons, u2, XU_eq, pcallU hM, go_sem, W_draw]
            refine st_same hcell ?_ ?_ ?_
            · rcases sliceD_cases r.n r.l with ⟨e, _⟩ | e <;> rw [e] <;> rfl
            · rcases sliceD_cases r.n r.l with ⟨e, _⟩ | e <;> rw [e] <;> rfl
            · simp +contextual (maxSteps := 10000000) only [r3, r8, r9, wrap_succ i (by omega), go_sem, W_draw]
              omega
          · have d1 : decide ((i : Int) < xs.length) = false := by simpa using hlt
            simp +contextual (maxSteps := 10000000) only [r3, r8, r9, d1, go_sem, W_draw]
            have hf : frzD d xs = .sl none xs := by
              unfold frzD
              split
              · exact absurd rfl hn
              · rfl
            rw [hf]
            have hc := chunk_flat xs X hag
            refine leavesE_fz o (flatD xs ++ X) hrow ho ?_ hE (ExtT.refl _)
            have efz : D.fz o (flatD xs ++ X) (.ms true 7 o 0 xs.length c) = .sl none xs := by
              simp only [D.fz]
              rw [if_pos ⟨trivial, by rw [List.length_append, hag.flat]; omega, .inl trivial, by omega⟩, List.drop_zero, hc]
            rw [efz]
            exact .refl _
      · cases h
    · cases h
  · cases h
end GP
namespace GP
open Go Go.Proofs
set_option maxRecDepth 100000
theorem run_overlaps2 {P : Program} (w : World) (tS tR e : TypeId) (ht : P.underlying tS = some (.slice e)) (size : Nat) (hz : ∀ w, (Go.sizeOf e).run P w = .ok size w)
    (a b : Addr) (la ca lb cb : Nat) (hne : a.block ≠ b.block) (tA tB : TypeId) (kA kB : Nat)
    (hsa : w.shape? a.block = some (tA, kA)) (hsb : w.shape? b.block = some (tB, kB)) (hkA : kA ≠ 0)
    (hfb : w.frozen? b = false) (hfe : w.frozen? { block := b.block, off := kB } = false) :
    (Extern.SlicesOverlaps.overlaps #[tS, tS] #[tR] #[.slice (some a) la ca, .slice (some b) lb cb]).run P w = .ok (.bool false) w := by
  have hnb : (a.block != b.block) = true := by simpa using hne
  have hnb' : (a.block == b.block) = false := by simpa using hne
  change Sem.run P (α := Value) (do
    let some t := (#[tS, tS] : Array TypeId)[0]? | stuck "slices.overlaps: no parameter types"
    let .slice elem ← underlying t | stuck "slices.overlaps: slice type expected"
    let size ← sizeOf elem
    match (some a : Option Addr), (some b : Option Addr) with
    | some a, some b =>
      if la = 0 ∨ lb = 0 ∨ size = 0 then pure (Value.bool false)
      else if a.block != b.block && (← frozen a) && (← frozen b) then unsupported .addressObserved
      else do
        if a.block != b.block then do
          noView a; noView b
          if ← mayBeOne a b then return Value.bool ((← choose (.extern "sameAddr.stringBytes" 2)) == 1)
        pure (Value.bool (a.block == b.block && a.off < b.off + lb * size && b.off < a.off + la * size))
    | _, _ => pure (Value.bool false)) w = _
  by_cases h0 : la = 0 ∨ lb = 0 ∨ size = 0
  · simp [run_underlying ht, hz, h0]
  · cases kA with
    | zero => exact absurd rfl hkA
    | succ kA =>
      cases h1 : w.frozen? a <;> cases h2 : w.frozen? { block := a.block, off := kA + 1 } <;>
        simp [run_underlying ht, hz, h0, hnb, hnb', frozen, noView, viewAt, mayBeOne, stringish, shape, Sem.run, hsa, hsb, hfb, hfe, h1, h2]
theorem body102 : Try.f102.body.isNone = true := by kernel_rfl
theorem name102 : (Try.f102.name == "runtime.NumGoroutine") = false := by kernel_rfl
theorem next102 : Extern.findNext Try.f102 = none := by kernel_rfl
theorem find102 : Extern.find Try.f102 = some (Extern.SlicesOverlaps.overlaps #[34, 34] #[4]) := by kernel_rfl
variable [HasG Try.prog]
open Classical in
noncomputable def φ102 (H : Hp) : List D → Option D
  | [.sl none (x :: r), .ms true 7 o off n cap] => if x.cells.length = 7 ∧ ∃ cs, H[o]? = some (.row cs) ∧ off < cs.length then some (.bool false) else none
  | _ => none
theorem φ102_mono : Mo φ102 := by
  intro H H' a r hl h
  unfold φ102 at h ⊢
  split at h
  · split at h
    · rename_i hc
      obtain ⟨h1, cs, h2, h3⟩ := hc
      rw [if_pos ⟨h1, cs, hl _ _ h2 rfl, h3⟩]; exact h
    · cases h
  · cases h
theorem ok102 : OkAtH Try.prog 102 φ102 := by
  intro H args r hr args' he T Q hQ
  unfold φ102 at hr
  split at hr
  · rename_i x xs o off n cap
    split at hr
    · rename_i hc
      obtain ⟨hx7, cs, ho, hoff⟩ := hc
      injection hr with hr; subst hr
      intro c w vs _ hi hT hrep
      have h := hrep.erase
      rw [he] at h
      match vs, h.len with
      | [v1, v2], _ =>
        have h1 : Rep c (.sl none (x :: xs)) v1 := h.rep 0 (by simp) (by simp)
        have h2 : Rep c (.ms true 7 o off n cap) v2 := h.rep 1 (by simp) (by simp)
        cases h1 with
        | sl _ _ a cap1 sz us hlen hb hsz h1 ha hs hM hr htl ht =>
        cases h2 with
        | ms _ _ _ _ _ _ rc hbd k1 k2 k3 =>
        obtain ⟨b, rfl⟩ := ha (by simp)
        have hsz7 : sz = 7 := by rw [← hsz x (by simp)]; exact hx7
        have hm := hM 0 (by simp) 0 (by omega) b rfl
        have hcell := hi.keep _ _ hm
        obtain ⟨_, _, _, hnone⟩ := hi.own o _ ho rfl
        have hne : b.block ≠ c.β o := fun e => by
          have := hnone (b.off + 0 * sz + 0)
          rw [← e] at this
          rw [this] at hm; cases hm
        obtain ⟨vs', rest, e, fr, q1, q2, q4, q3⟩ := (hi.row o _ cs ho rfl).hold
        have hbs : b.spot = none := hs (by simp) b rfl
        obtain ⟨tA, kA, hsa, hkA⟩ : ∃ tA kA, w.shape? b.block = some (tA, kA) ∧ kA ≠ 0 := by
          simp only [World.cell?] at hcell
          split at hcell
          · rename_i cc el fz hh
            refine ⟨el, cc.size, by simp only [World.shape?, hh], fun e0 => ?_⟩
            simp only [Option.isSome_none, Bool.false_eq_true, if_false] at hcell
            have := Array.getElem?_eq_some_iff.1 hcell
            obtain ⟨hlt, _⟩ := this
            omega
          · cases hcell
        have hsb : w.shape? (c.β o) = some (e, vs'.length + rest.length) := by simp only [World.shape?, q1]; simp
        have hcl : cs.length ≤ vs'.length := by rw [q2.len]; exact Nat.le_refl _
        have hfb : w.frozen? ⟨c.β o, off, none⟩ = false := by
          simp only [World.frozen?, q1]
          have := q3 off (by omega)
          simp only [Bool.and_eq_false_iff, decide_eq_false_iff_not]
          omega
        have hfe : w.frozen? ⟨c.β o, vs'.length + rest.length, none⟩ = false := by
          simp only [World.frozen?, q1]
          have := q3 (vs'.length + rest.length) (by omega)
          simp only [Bool.and_eq_false_iff, decide_eq_false_iff_not]
          omega
        refine .inr ⟨.bool false, w, ?_, ?_⟩
        · rw [run_callFunc_extern Try.func102 name102 body102 next102 find102]
          have := run_overlaps2 (P := Try.prog) w 34 4 30 Try.underlying34 7 (Try.sizeOf30) b ⟨c.β o, off, none⟩ (x :: xs).length cap1 n rc hne tA e kA _ hsa hsb hkA hfb hfe
          rw [this]; rfl
        · exact ⟨_, rfl, _, H, T, c, hQ, .bool _, hi, Cx.le.refl c, hT, Below.refl _ _⟩
    · cases hr
  · cases hr
end GP
namespace GP
open Go Go.Proofs
set_option maxRecDepth 100000
variable [HasG Try.prog]
theorem chunk_at {sz : Nat} : ∀ (n : Nat) (cs : List D) (i : Nat), i < n → (chunk true sz n cs)[i]? = some (.agg ((cs.drop (i * sz)).take sz))
  | n + 1, cs, 0, _ => by simp [chunk]
  | n + 1, cs, i + 1, h => by
    simp only [chunk, List.getElem?_cons_succ]
    rw [chunk_at n _ i (by omega), List.drop_drop]
    congr 4
    rw [Nat.add_mul]; omega
theorem at_of {H : Hp} {d : D} {xs : List D} (hs : appSrcM H false 7 d = some xs) (hd : okD d = true) (hx : ∀ x ∈ xs, isRw x) {h : Nat} {y : D} (hy : xs[h]? = some y) : ∃ a, ia 7 d (.int .i64 (h : Int)) = some a ∧ ∀ H', Hle H H' → ld true 7 (rdAt H' a) = some y := by
  have Ey := isRw_El (hx y (List.mem_of_getElem? hy))
  have hh : h < xs.length := by
    rcases Nat.lt_or_ge h xs.length with h' | h'
    · exact h'
    · rw [List.getElem?_eq_none h'] at hy; cases hy
  unfold okD at hd
  split at hd
  · injection hs with hs; subst hs; simp at hy
  · rename_i ys
    have e : ys = xs := by injection hs
    subst e
    refine ⟨.el y.cells, by rw [iab_nat', hy, iaE_s, if_pos Ey.len], fun H' _ => ?_⟩
    exact Ey.ld
  · rename_i o n cap
    simp only [appSrcM] at hs
    split at hs
    · rename_i cs ho
      split at hs
      · rename_i hc
        injection hs with hs
        have hn : xs.length = n := by rw [← hs, chunk_len]
        have e1 : ((h : Nat) : Int).toNat = h := by omega
        refine ⟨.ptr o (0 + h * 7), ?_, fun H' hl => ?_⟩
        · simp only [ia]
          rw [if_pos ⟨by omega, by omega, trivial⟩, e1]
        · have := hl _ _ ho rfl
          simp only [rdAt, this]
          rw [Nat.zero_add]
          rw [List.drop_zero] at hs
          have hg := chunk_at (sz := 7) n cs h (by omega)
          rw [hs, hy] at hg
          injection hg with hg
          have h3 : 0 + n * 7 ≤ cs.length := hc.2.2.1
          have h4 : (h + 1) * 7 ≤ n * 7 := Nat.mul_le_mul_right 7 (by omega)
          simp only [ld, if_true]
          rw [if_pos (by rw [List.length_drop]; omega), hg]
      · cases hs
    · cases hs
  · cases hd
open Classical in
noncomputable def φ60 (H : Hp) : List D → Option D
  | [d, x, .fn 61 [] []] => match appSrcM H false 7 d with
    | some xs => if (∀ y ∈ xs, isRw y) ∧ isRw x ∧ xs.length ≤ 2 ^ 30 ∧ okD d = true ∧ Ris ordD xs then some (.tup [.int .i64 (Ord.pos ordD x xs : Int), .bool (Ord.has ordD x xs)]) else none
    | none => none
  | _ => none
theorem φ60_mono : Mo φ60 := by
  intro H H' a r hl h
  unfold φ60 at h ⊢
  split at h
  · split at h
    · rename_i e
      rw [src_mono hl e]; exact h
    · cases h
  · cases h
theorem okD_er {H : Hp} {d : D} {xs : List D} (hs : appSrcM H false 7 d = some xs) (hd : okD d = true) (hx : ∀ x ∈ xs, isRw x) : d.erase = d ∧ lenD d = some xs.length := by
  unfold okD at hd
  split at hd
  · injection hs with hs; subst hs; exact ⟨rfl, rfl⟩
  · rename_i ys
    have e : ys = xs := by injection hs
    subst e
    exact ⟨by simp only [D.erase, rows_er hx], rfl⟩
  · rename_i o n cap
    refine ⟨rfl, ?_⟩
    simp only [appSrcM] at hs
    split at hs
    · split at hs
      · injection hs with hs
        simp only [lenD]
        rw [← hs, chunk_len]
      · cases hs
    · cases hs
  · cases hd
set_option maxHeartbeats 4000000 in
theorem ok60 : OkAtH Try.prog 60 φ60 := by
  have hM : MonoH [] := .nil
  refine okH_of (l := [(61, φ61)]) (m := []) (.cons ok61 .nil) .nil fn60 fun H args rr h => ?_
  unfold φ60 at h
  split at h
  · rename_i d x
    split at h
    · rename_i xs hs
      split at h
      · rename_i hc
        obtain ⟨hx, hxr, hl, hd, hris⟩ := hc
        injection h with h; subst h
        refine ⟨by simp, by simp [D.cl, D.clL], fun T => ?_⟩
        have hxr' := hxr
        obtain ⟨r, rfl, hr⟩ := hxr
        have eL := hr.eL
        obtain ⟨p, hp⟩ : ∃ p, Ord.pos ordD (rwD r) xs = p := ⟨_, rfl⟩
        obtain ⟨q, hq⟩ : ∃ p, Ord.has ordD (rwD r) xs = p := ⟨_, rfl⟩
        have hpl := Ord.pos_le (o := ordD) (rwD r) xs
        have hlo := Ord.pos_lt (o := ordD) (rwD r) xs
        have hhi := Ord.pos_ge ordD_ord (rwD r) xs hris
        have hat := Ord.has_at ordD_ord (x := rwD r) hris
        rw [hp] at hpl hlo hhi hat
        rw [hp, hq]
        rw [hq] at hat
        obtain ⟨ed, ld'⟩ := okD_er hs hd hx
        simp +contextual (maxSteps := 10000000) only [c60, rwD, eL, ed, ld', go_sem, W_draw]
        refine W_for (fun m s' => ∃ i j : Nat, s'.t 0 = d ∧ s'.t 2 = .fn 61 [] [] ∧ s'.t 4 = .ptr H.length 0 ∧ s'.t 8 = .int .i64 xs.length ∧ s'.t 9 = .int .i64 (i : Nat) ∧ s'.t 10 = .int .i64 (j : Nat) ∧ s'.H = H ++ [.row [.str r.who, .str r.name, .str r.attr, .int .i64 r.k, .int .i64 r.i, .str r.s, sliceD r.n r.l]] ∧ s'.T = T ∧ i ≤ p ∧ p ≤ j ∧ j ≤ xs.length ∧ m + (j - i) ≤ xs.length) xs.length
          ⟨0, 0, xs.length, by simp [upd, argT], by simp [upd, argT], by simp [upd], by simp [upd], by simp [upd], by simp [upd], rfl, rfl, by omega, hpl, Nat.le_refl _, by omega⟩ (fun i s h => by obtain ⟨_, _, h⟩ := h; have := h.2.2.2.2.2.2.2.2.2.2.2; omega) ?_ (XM_mono _ _)
        rintro m ⟨t, B, U⟩ ⟨i, j, r0, r2, r4, r8, r9, r10, rfl, rfl, hi, hj, hjl, hm⟩
        simp only at r0 r2 r4 r8 r9 r10
        have hle : Hle H (H ++ [.row [.str r.who, .str r.name, .str r.attr, .int .i64 r.k, .int .i64 r.i, .str r.s, sliceD r.n r.l]]) := hle_ext (Ext.of _ _)
        by_cases hij : i < j
        · have d1 : decide ((i : Int) < (j : Int)) = true := by simpa using hij
          obtain ⟨k, hk⟩ : ∃ k, (i + j) / 2 = k := ⟨_, rfl⟩
          have hk1 : i ≤ k := by omega
          have hk2 : k < j := by omega
          have w1 : IntKind.i64.wrap ((i : Int) + (j : Int)) = ((i + j : Nat) : Int) := by rw [wrap_inY (by omega) (by omega)]; omega
          have w2 : IntKind.u64.wrap ((i + j : Nat) : Int) = ((i + j : Nat) : Int) := by
            have e : IntKind.u64.wrap ((i + j : Nat) : Int) = ((i + j : Nat) : Int) % 2 ^ 64 := by simp [IntKind.wrap, IntKind.bits, IntKind.signed]
            rw [e]; omega
          have w3 : bin2 .shr (.int .u64 ((i + j : Nat) : Int)) (.int .u64 1) = some (.int .u64 ((k : Nat) : Int)) := by
            have e : (((i + j : Nat) : Int)).fdiv (2 ^ (min (1 : Int).toNat IntKind.u64.bits)) = ((k : Nat) : Int) := by
              have : (min (1 : Int).toNat IntKind.u64.bits) = 1 := by decide
              rw [this, Int.fdiv_eq_ediv_of_nonneg _ (by decide)]
              omega
            simp only [bin2, isShift, if_true, shOp]
            rw [if_neg (by decide), e]
          have w4 : IntKind.i64.wrap ((k : Nat) : Int) = ((k : Nat) : Int) := wrap_inY (by omega) (by omega)
          have hky : xs[k]? = some xs[k] := List.getElem?_eq_getElem (by omega)
          obtain ⟨y, hy⟩ : ∃ y, xs[k] = y := ⟨_, rfl⟩
          rw [hy] at hky
          have hyr := hx y (List.mem_of_getElem? hky)
          have yer := isRw_erase hyr
          obtain ⟨a, ha, hld⟩ := at_of hs hd hx hky
          have hld := hld _ hle
          have p61 : φ61 [y, rwD r] = some (.int .i64 (ordD y (rwD r))) := by simp only [φ61]; rw [if_pos ⟨hyr, hxr'⟩]
          obtain ⟨ov, hov⟩ : ∃ ov, ordD y (rwD r) = ov := ⟨_, rfl⟩
          rw [hov] at p61
          simp only [rwD] at p61
          rcases tf (decide (ov < 0)) with c | c
          · have hkp : k + 1 ≤ p := Classical.byContradiction fun hn => by
              have := hhi k (by omega) (by omega)
              rw [hy, hov] at this
              exact this (by simpa using c)
            simp +contextual (maxSteps := 10000000) only [r0, r2, r4, r8, r9, r10, d1, w1, w2, w3, w4, ha, hld, p61, pcallH hM, lookH_nil, orK_n, orK_s, yer, eL, c, wrap_natY k (by omega), go_sem, W_draw]
            exact ⟨k + 1, j, rfl, rfl, hkp, hj, hjl, by omega⟩
          · have hkp : p ≤ k := Classical.byContradiction fun hn => by
              have := hlo k (by omega) (by omega)
              rw [hy, hov] at this
              simp only [decide_eq_false_iff_not] at c
              exact c this
            simp +contextual (maxSteps := 10000000) only [r0, r2, r4, r8, r9, r10, d1, w1, w2, w3, w4, ha, hld, p61, pcallH hM, lookH_nil, orK_n, orK_s, yer, eL, c, go_sem, W_draw]
            exact ⟨i, k, rfl, rfl, hi, hkp, by omega, by omega⟩
        · have d1 : decide ((i : Int) < (j : Int)) = false := by simpa using hij
          have ei : i = p := by omega
          by_cases hpx : p < xs.length
          · have d2 : decide ((i : Int) < (xs.length : Int)) = true := by simp; omega
            have hky : xs[i]? = some xs[i] := List.getElem?_eq_getElem (by omega)
            obtain ⟨y, hy⟩ : ∃ y, xs[i] = y := ⟨_, rfl⟩
            rw [hy] at hky
            have hyr := hx y (List.mem_of_getElem? hky)
            have yer := isRw_erase hyr
            obtain ⟨a, ha, hld⟩ := at_of hs hd hx hky
            have hld := hld _ hle
            have p61 : φ61 [y, rwD r] = some (.int .i64 (ordD y (rwD r))) := by simp only [φ61]; rw [if_pos ⟨hyr, hxr'⟩]
            have hqv : q = (ordD y (rwD r) == 0) := by
              subst ei
              rw [Bool.eq_iff_iff, hat, beq_iff_eq]
              constructor
              · rintro ⟨_, h1⟩; rw [← hy]; exact h1
              · intro h1; exact ⟨hpx, by rw [hy]; exact h1⟩
            obtain ⟨ov, hov⟩ : ∃ ov, ordD y (rwD r) = ov := ⟨_, rfl⟩
            rw [hov] at p61 hqv
            simp only [rwD] at p61
            simp +contextual (maxSteps := 10000000) only [r0, r2, r4, r8, r9, r10, d1, d2, ha, hld, p61, pcallH hM, lookH_nil, orK_n, orK_s, yer, eL, hqv, go_sem, W_draw]
            rw [ei]
          · have d2 : decide ((i : Int) < (xs.length : Int)) = false := by simp; omega
            have hqv : q = false := Bool.eq_false_iff.2 fun h => by
              obtain ⟨h1, _⟩ := hat.1 h
              exact hpx h1
            simp +contextual (maxSteps := 10000000) only [r0, r2, r4, r8, r9, r10, d1, d2, hqv, go_sem, W_draw]
            rw [ei]
      · cases h
    · cases h
  · cases h
end GP
namespace GP
open Go
mutual
def D.ren (σ θ : Nat → Nat) : D → D
  | .sl t xs => .sl (t.map θ) (D.renL σ θ xs)
  | .el cs => .el (D.renL σ θ cs)
  | .agg cs => .agg (D.renL σ θ cs)
  | .tup cs => .tup (D.renL σ θ cs)
  | .fn f a b => .fn f (D.renL σ θ a) (D.renL σ θ b)
  | .ifc t d => .ifc t (D.ren σ θ d)
  | .ptr o off => .ptr (σ o) off
  | .mp o => .mp (σ o)
  | .ms ag z o off n cap => .ms ag z (σ o) off n cap
  | d => d
def D.renL (σ θ : Nat → Nat) : List D → List D
  | [] => []
  | d :: ds => D.ren σ θ d :: D.renL σ θ ds
end
section
variable {σ θ : Nat → Nat}
end
def RenOb (σ θ : Nat → Nat) (x y : Ob) : Prop :=
  (∃ cs cs', x = .row cs ∧ y = .row cs' ∧ cs'.length = cs.length ∧ (∀ d ∈ cs, d.one = true) ∧ ∀ i (h : i < cs.length) (h' : i < cs'.length), Crs cs'[i] ((cs[i]).ren σ θ)) ∨ (x = .dead) ∨ (x = .hole ∧ y = .hole) ∨ ∃ es clk, x = .map es clk ∧ y = .map es clk
structure RenTo (H : Hp) (T : Tk) (r2 : D) (H2 : Hp) (T2 : Tk) (r0 : D) (H1 : Hp) (T1 : Tk) (σ θ : Nat → Nat) : Prop where
  σ0 : ∀ o, o < H.length → σ o = o
  θ0 : ∀ τ, τ < T.length → θ τ = τ
  res : Crs r2 (r0.ren σ θ)
  ob : ∀ (o : Nat) x, H1[o]? = some x → ∃ y, H2[σ o]? = some y ∧ ((y = x ∧ H[o]? = some x) ∨ RenOb σ θ x y)
  σi : ∀ o o', o < H1.length → o' < H1.length → σ o = σ o' → o = o'
  θi : ∀ τ τ', τ < T1.length → τ' < T1.length → θ τ = θ τ' → τ = τ'
  tok : ∀ τ, τ < T1.length → T2[θ τ]? = T1[τ]?
  hl : H.length ≤ H1.length
  tl : T.length ≤ T1.length
section
variable {P : Program}
end
variable {P : Program} [HasG P]
abbrev FsG := List (FuncId × (Hp → Tk → List D → Option (D × Hp × Tk)))
def lookG : FsG → Hp → Tk → FuncId → List D → Option (D × Hp × Tk)
  | [], _, _, _, _ => none
  | (g, φ) :: l, H, T, f, a => if f = g then φ H T a else lookG l H T f a
def inG : FsG → FuncId → Bool
  | [], _ => false
  | (g, _) :: l, f => decide (f = g) || inG l f
@[go_sem] theorem lookG_nil (H : Hp) (T : Tk) (f : FuncId) (a : List D) : lookG [] H T f a = none := id rfl
@[go_sem] theorem lookG_cons (g : FuncId) (φ : Hp → Tk → List D → Option (D × Hp × Tk)) (l : FsG) (H : Hp) (T : Tk) (f : FuncId) (a : List D) : lookG ((g, φ) :: l) H T f a = if f = g then φ H T a else lookG l H T f a := id rfl
@[go_sem] theorem inG_nil (f : FuncId) : inG [] f = false := id rfl
@[go_sem] theorem inG_cons (g : FuncId) (φ : Hp → Tk → List D → Option (D × Hp × Tk)) (l : FsG) (f : FuncId) : inG ((g, φ) :: l) f = (decide (f = g) || inG l f) := id rfl
theorem lookG_in : ∀ {l : FsG} {H : Hp} {T : Tk} {f : FuncId} {a : List D}, inG l f = false → lookG l H T f a = none
  | [], _, _, _, _, _ => rfl
  | (g, φ) :: l, H, T, f, a, h => by
    simp only [inG, Bool.or_eq_false_iff, decide_eq_false_iff_not] at h
    simp only [lookG]
    rw [if_neg h.1]; exact lookG_in h.2
def OkAtG (P : Program) [HasG P] (f : FuncId) (φ : Hp → Tk → List D → Option (D × Hp × Tk)) : Prop := ∀ H T args r H' T', φ H T args = some (r, H', T') → ∀ args', D.eraseL args' = args → ∀ (Q : Post), Q r H' T' → Snd P f args' H T Q
def OkG (P : Program) [HasG P] (m : FsG) : Prop := ∀ H T f args r H' T', lookG m H T f args = some (r, H', T') → ∀ args', D.eraseL args' = args → ∀ (Q : Post), Q r H' T' → Snd P f args' H T Q
theorem OkG.nil : OkG P [] := fun _ _ _ _ _ _ _ h => by simp [lookG] at h
theorem OkG.cons {f : FuncId} {φ : Hp → Tk → List D → Option (D × Hp × Tk)} {m : FsG} (h : OkAtG P f φ) (k : OkG P m) : OkG P ((f, φ) :: m) := by
  intro H T g args r H' T' hr
  simp only [lookG] at hr
  split at hr
  · rename_i e; subst e; exact h H T args r H' T' hr
  · exact k H T g args r H' T' hr
def inU : List FuncId → FuncId → Bool
  | [], _ => false
  | g :: l, f => decide (f = g) || inU l f
@[go_sem] theorem inU_nil (f : FuncId) : inU [] f = false := id rfl
@[go_sem] theorem inU_cons (g : FuncId) (l : List FuncId) (f : FuncId) : inU (g :: l) f = (decide (f = g) || inU l f) := id rfl
def XG (P : Program) [HasG P] (u : List FuncId) (l : Fs) (m : FsH) (e : FsE) (g : FsG) : Pred := fun f a H T Q =>
  if inU u f = true then Snd P f a H T Q else match look l f (D.eraseL a) with
  | some r => Q r H T
  | none => match lookH m H f (D.eraseL a) with
    | some r => Q r H T
    | none => match lookE e H f (D.eraseL a) with
      | some (r, H') => Q r H' T
      | none => match lookG g H T f (D.eraseL a) with
        | some (r, H', T') => Q r H' T'
        | none => False
theorem XG.X {u : List FuncId} {l : Fs} {m : FsH} {e : FsE} {g : FsG} (k : Ok P l) (k' : OkH P m) (k'' : OkE P e) (k3 : OkG P g) : ∀ f args H T Q Q', (∀ r H T, Q r H T → Q' r H T) → XG P u l m e g f args H T Q → Snd P f args H T Q' := by
  intro f args H T Q Q' hQ h
  unfold XG at h
  split at h
  · exact Snd.mono _ _ _ _ _ _ hQ h
  · split at h
    · rename_i r hr
      exact k f _ r hr args rfl H T Q' (hQ _ _ _ h)
    · split at h
      · rename_i r hr
        exact k' H f _ r hr args rfl T Q' (hQ _ _ _ h)
      · split at h
        · rename_i r H' hr
          exact k'' H f _ r H' hr args rfl T Q' (hQ _ _ _ h)
        · split at h
          · rename_i r H' T' hr
            exact k3 H T f _ r H' T' hr args rfl Q' (hQ _ _ _ h)
          · exact h.elim
theorem XG_mono (u : List FuncId) (l : Fs) (m : FsH) (e : FsE) (g : FsG) : Mono (XG P u l m e g) := by
  intro f args H T Q Q' hQ h
  unfold XG at h ⊢
  split at h
  · rename_i c; rw [if_pos c]; exact Snd.mono _ _ _ _ _ _ hQ h
  · rename_i c
    rw [if_neg c]
    split at h
    · exact hQ _ _ _ h
    · split at h
      · exact hQ _ _ _ h
      · split at h
        · exact hQ _ _ _ h
        · split at h
          · exact hQ _ _ _ h
          · exact h.elim
def orG (Q : Post) : Option (D × Hp × Tk) → Prop
  | some (r, H', T') => Q r H' T'
  | none => False
def orY (Q : Post) (H : Hp) (T : Tk) : Option D → Option D → Option (D × Hp) → Option (D × Hp × Tk) → Prop
  | some r, _, _, _ => Q r H T
  | none, some r, _, _ => Q r H T
  | none, none, some (r, H'), _ => Q r H' T
  | none, none, none, x => orG Q x
@[go_sem] theorem XG_eq (u : List FuncId) (l : Fs) (m : FsH) (e : FsE) (g : FsG) (f : FuncId) (args : List D) (H : Hp) (T : Tk) (Q : Post) : XG P u l m e g f args H T Q = if inU u f = true then Snd P f args H T Q else orY Q H T (look l f (D.eraseL args)) (lookH m H f (D.eraseL args)) (lookE e H f (D.eraseL args)) (lookG g H T f (D.eraseL args)) := by
  unfold XG
  congr 1
  cases look l f (D.eraseL args) with
  | some r => rfl
  | none =>
    cases lookH m H f (D.eraseL args) with
    | some r => rfl
    | none =>
      cases lookE e H f (D.eraseL args) with
      | some x => rfl
      | none =>
        cases lookG g H T f (D.eraseL args) with
        | some x => rfl
        | none => rfl
@[go_sem] theorem orY_s (Q : Post) (H : Hp) (T : Tk) (r : D) (x : Option D) (y : Option (D × Hp)) (z : Option (D × Hp × Tk)) : orY Q H T (some r) x y z = Q r H T := id rfl
@[go_sem] theorem orY_n (Q : Post) (H : Hp) (T : Tk) (r : D) (y : Option (D × Hp)) (z : Option (D × Hp × Tk)) : orY Q H T none (some r) y z = Q r H T := id rfl
@[go_sem] theorem orY_e (Q : Post) (H : Hp) (T : Tk) (r : D) (H' : Hp) (z : Option (D × Hp × Tk)) : orY Q H T none none (some (r, H')) z = Q r H' T := id rfl
@[go_sem] theorem orY_g (Q : Post) (H : Hp) (T : Tk) (z : Option (D × Hp × Tk)) : orY Q H T none none none z = orG Q z := id rfl
@[go_sem] theorem orG_s (Q : Post) (r : D) (H' : Hp) (T' : Tk) : orG Q (some (r, H', T')) = Q r H' T' := id rfl
theorem pcallG {u : List FuncId} {l : Fs} {m : FsH} {e : FsE} {g : FsG} (hm : MonoH m) (args : List D) (K : D → S → Prop) (s : S) (f : FuncId) (first cap : List D) :
    pcallK (XG P u l m e g) args K s (.fn f first cap) = if (inU u f || inE e f || inG g f) = true then pcallN (XG P u l m e g) args K s (.fn f first cap) else orK K s (look l f (D.eraseL (first ++ args ++ cap))) (lookH m s.H f (D.eraseL (first ++ args ++ cap))) := by
  cases hu : inU u f with
  | true => rfl
  | false =>
    cases hg : inG g f with
    | true => simp only [Bool.false_or, Bool.or_true, if_true]; rfl
    | false =>
      have hx : ∀ a H T Q, XG P u l m e g f a H T Q = XE l m e f a H T Q := by
        intro a H T Q; unfold XG XE; rw [hu, lookG_in hg]; rfl
      cases he : inE e f with
      | true => rfl
      | false =>
        rw [if_neg (by simp)]
        have := pcallE (l := l) (e := e) hm args K s f first cap
        rw [he, if_neg (by simp)] at this
        rw [← this]
        simp only [pcallK, eq_iff_iff]
        unfold Pure
        simp only [hx]
end GP
