import Derived.Test.YtnipbngimicldaaGpbV6
set_option linter.unusedSimpArgs false
namespace GP
open Go Go.Proofs
set_option maxRecDepth 100000

def lex (p q : Int) : Int := if p != 0 then p else q

/-- What three comparisons have among themselves. -/
structure Tr (p q r : Int) : Prop where
  le : p ≤ 0 → q ≤ 0 → r ≤ 0
  l1 : p < 0 → q ≤ 0 → r < 0
  l2 : p ≤ 0 → q < 0 → r < 0
  e1 : p = 0 → r = q
  e2 : q = 0 → r = p

theorem Tr.lex {p q r p' q' r' : Int} (h : Tr p q r) (k : p = 0 → q = 0 → Tr p' q' r') : Tr (lex p p') (lex q q') (lex r r') := by
  obtain ⟨a1, a2, a3, a4, a5⟩ := h
  unfold GP.lex
  by_cases hp : p = 0
  · by_cases hq : q = 0
    · have hr : r = 0 := by rw [a4 hp, hq]
      subst hp; subst hq; subst hr
      simpa using k rfl rfl
    · have hr : r = q := a4 hp
      have hp' : (p != 0) = false := by simp [hp]
      have hq' : (q != 0) = true := by simp [hq]
      have hr' : (r != 0) = true := by rw [hr]; exact hq'
      rw [hp', hq', hr']
      simp only [Bool.false_eq_true, if_false, if_true]
      subst hr
      refine ⟨?_, ?_, ?_, ?_, ?_⟩ <;> omega
  · have hp' : (p != 0) = true := by simp [hp]
    rw [hp']
    by_cases hq : q = 0
    · have hr : r = p := a5 hq
      have hq' : (q != 0) = false := by simp [hq]
      have hr' : (r != 0) = true := by rw [hr]; exact hp'
      rw [hq', hr']
      simp only [Bool.false_eq_true, if_false, if_true]
      subst hr
      refine ⟨?_, ?_, ?_, ?_, ?_⟩ <;> omega
    · have hq' : (q != 0) = true := by simp [hq]
      rw [hq']
      simp only [if_true]
      by_cases hr : r = 0
      · refine ⟨?_, ?_, ?_, ?_, ?_⟩ <;> (try omega) <;> intro h1 h2 <;> (first | (have := a2 (by omega) (by omega); omega) | omega)
      · have hr' : (r != 0) = true := by simp [hr]
        rw [hr']; simp only [if_true]
        exact ⟨a1, a2, a3, a4, a5⟩

theorem cmpI_tr (a b c : Int) : Tr (cmpI a b) (cmpI b c) (cmpI a c) := by
  unfold cmpI
  refine ⟨?_, ?_, ?_, ?_, ?_⟩ <;> (repeat' split) <;> omega

theorem cmpI_anti (a b : Int) : cmpI b a = - cmpI a b := by unfold cmpI; (repeat' split) <;> omega

theorem cmpI_zero (a b : Int) : cmpI a b = 0 ↔ a = b := by unfold cmpI; (repeat' split) <;> omega

theorem lex_anti {p q p' q' : Int} (h : p' = -p) (k : q' = -q) : lex p' q' = - lex p q := by unfold lex; subst h; subst k; by_cases hp : p = 0 <;> simp [hp]

theorem lex_zero {p q : Int} : lex p q = 0 ↔ p = 0 ∧ q = 0 := by unfold lex; by_cases hp : p = 0 <;> simp [hp]

theorem cmpS_lex (x y : UInt8) (a b : List UInt8) : cmpS (x :: a) (y :: b) = lex (cmpI x.toNat y.toNat) (cmpS a b) := by
  simp only [cmpS, lex, cmpI]
  by_cases h1 : x.toNat < y.toNat
  · have : (x.toNat : Int) < y.toNat := by omega
    simp [h1, this]
  · by_cases h2 : y.toNat < x.toNat
    · have e1 : ¬ (x.toNat : Int) < y.toNat := by omega
      have e2 : (y.toNat : Int) < x.toNat := by omega
      simp [h1, h2, e1, e2]
    · have e1 : ¬ (x.toNat : Int) < y.toNat := by omega
      have e2 : ¬ (y.toNat : Int) < x.toNat := by omega
      simp [h1, h2, e1, e2]

theorem cmpS_tr : ∀ (a b c : List UInt8), Tr (cmpS a b) (cmpS b c) (cmpS a c)
  | [], [], [] => ⟨by simp [cmpS], by simp [cmpS], by simp [cmpS], by simp [cmpS], by simp [cmpS]⟩
  | [], [], _ :: _ => ⟨by simp [cmpS], by simp [cmpS], by simp [cmpS], by simp [cmpS], by simp [cmpS]⟩
  | [], _ :: _, [] => ⟨by simp [cmpS], by simp [cmpS], by simp [cmpS], by simp [cmpS], by simp [cmpS]⟩
  | [], _ :: _, _ :: _ => ⟨by simp [cmpS], by simp [cmpS], by simp [cmpS], by simp [cmpS], by simp [cmpS]⟩
  | _ :: _, [], [] => ⟨by simp [cmpS], by simp [cmpS], by simp [cmpS], by simp [cmpS], by simp [cmpS]⟩
  | _ :: _, [], _ :: _ => ⟨by simp [cmpS], by simp [cmpS], by simp [cmpS], by simp [cmpS], by simp [cmpS]⟩
  | _ :: _, _ :: _, [] => ⟨by simp [cmpS], by simp [cmpS], by simp [cmpS], by simp [cmpS], by simp [cmpS]⟩
  | x :: a, y :: b, z :: c => by
    rw [cmpS_lex, cmpS_lex, cmpS_lex]
    exact (cmpI_tr _ _ _).lex fun _ _ => cmpS_tr a b c

theorem cmpS_anti : ∀ (a b : List UInt8), cmpS b a = - cmpS a b
  | [], [] => rfl
  | [], _ :: _ => rfl
  | _ :: _, [] => rfl
  | x :: a, y :: b => by rw [cmpS_lex, cmpS_lex]; exact lex_anti (cmpI_anti _ _) (cmpS_anti a b)

theorem cmpS_zero : ∀ (a b : List UInt8), cmpS a b = 0 ↔ a = b
  | [], [] => by simp [cmpS]
  | [], _ :: _ => by simp [cmpS]
  | _ :: _, [] => by simp [cmpS]
  | x :: a, y :: b => by
    rw [cmpS_lex, lex_zero, cmpI_zero, cmpS_zero a b]
    constructor
    · rintro ⟨h1, h2⟩
      have : x = y := UInt8.toNat_inj.1 (by omega)
      rw [this, h2]
    · intro h; injection h with h1 h2; exact ⟨by rw [h1], h2⟩

theorem single_lex (a b : D) : singleD a b = lex (cmpI (vk a) (vk b)) (if vk a == 3 then cmpS (vs a) (vs b) else cmpI (vi a) (vi b)) := by
  unfold singleD singleI lex
  by_cases h : vk a = vk b
  · simp [h, cmpI_self]
  · simp [h, cmpI_ne h]

theorem single_tr (a b c : D) : Tr (singleD a b) (singleD b c) (singleD a c) := by
  rw [single_lex, single_lex, single_lex]
  refine (cmpI_tr _ _ _).lex fun h1 h2 => ?_
  rw [cmpI_zero] at h1 h2
  rw [← h1]
  split
  · exact cmpS_tr _ _ _
  · exact cmpI_tr _ _ _

theorem single_anti (a b : D) : singleD b a = - singleD a b := by
  rw [single_lex, single_lex]
  by_cases h : vk a = vk b
  · rw [h]
    refine lex_anti (cmpI_anti _ _) ?_
    split
    · exact cmpS_anti _ _
    · exact cmpI_anti _ _
  · have h1 := cmpI_ne h
    have h2 := cmpI_ne (Ne.symm h)
    unfold lex
    simp only [bne_iff_ne, ne_eq, h1, not_false_eq_true, if_true, h2]
    exact cmpI_anti _ _

theorem single_zero {a b : D} (ha : one1 a = true) (hb : one1 b = true) : singleD a b = 0 ↔ vk a = vk b ∧ vi a = vi b ∧ vs a = vs b := by
  obtain ⟨_, a1, a2, _⟩ := plain_facts ha
  obtain ⟨_, b1, b2, _⟩ := plain_facts hb
  rw [single_lex, lex_zero, cmpI_zero]
  by_cases h : vk a = vk b
  · by_cases h3 : vk a = 3
    · rw [a1 h3, b1 (by omega)]
      simp [h, show vk b = 3 by omega, cmpS_zero]
    · rw [a2 h3, b2 (by omega)]
      have : ¬ vk b = 3 := by omega
      simp [h, this, cmpI_zero]
  · simp [h]

theorem cmpL_lex (f : D → D → Int) (x y : D) (xs ys : List D) : cmpL f (x :: xs) (y :: ys) = lex (f x y) (cmpL f xs ys) := rfl

theorem cmpL_tr {f : D → D → Int} (hf : ∀ a b c, Tr (f a b) (f b c) (f a c)) : ∀ (a b c : List D), Tr (cmpL f a b) (cmpL f b c) (cmpL f a c)
  | [], [], [] => ⟨by simp [cmpL], by simp [cmpL], by simp [cmpL], by simp [cmpL], by simp [cmpL]⟩
  | [], [], _ :: _ => ⟨by simp [cmpL], by simp [cmpL], by simp [cmpL], by simp [cmpL], by simp [cmpL]⟩
  | [], _ :: _, [] => ⟨by simp [cmpL], by simp [cmpL], by simp [cmpL], by simp [cmpL], by simp [cmpL]⟩
  | [], _ :: _, _ :: _ => ⟨by simp [cmpL], by simp [cmpL], by simp [cmpL], by simp [cmpL], by simp [cmpL]⟩
  | _ :: _, [], [] => ⟨by simp [cmpL], by simp [cmpL], by simp [cmpL], by simp [cmpL], by simp [cmpL]⟩
  | _ :: _, [], _ :: _ => ⟨by simp [cmpL], by simp [cmpL], by simp [cmpL], by simp [cmpL], by simp [cmpL]⟩
  | _ :: _, _ :: _, [] => ⟨by simp [cmpL], by simp [cmpL], by simp [cmpL], by simp [cmpL], by simp [cmpL]⟩
  | x :: a, y :: b, z :: c => by
    rw [cmpL_lex, cmpL_lex, cmpL_lex]
    exact (hf _ _ _).lex fun _ _ => cmpL_tr hf a b c

theorem cmpL_anti {f : D → D → Int} (hf : ∀ a b, f b a = - f a b) : ∀ (a b : List D), cmpL f b a = - cmpL f a b
  | [], [] => rfl
  | [], _ :: _ => rfl
  | _ :: _, [] => rfl
  | x :: a, y :: b => by rw [cmpL_lex, cmpL_lex]; exact lex_anti (hf _ _) (cmpL_anti hf a b)

theorem one_kind {a : D} (h : one1 a = true) : vk a ≠ 5 := by
  obtain ⟨_, _, _, h0, h4⟩ := plain_facts h; omega

theorem formed_one {a : D} (h : formedB a = true) (hk : vk a ≠ 5) : one1 a = true := by unfold formedB at h; simpa [hk] using h

theorem formed_bag {a : D} (h : formedB a = true) (hk : vk a = 5) : vi a = 0 ∧ vs a = [] ∧ adjB singleD (vl a) = true := by
  unfold formedB at h
  simp only [hk, bne_self_eq_false, Bool.false_eq_true, if_false] at h
  split at h
  · cases h
  · rename_i q
    simp only [Bool.or_eq_true, not_or, bne_iff_ne, ne_eq, Decidable.not_not] at q
    exact ⟨q.1.1, q.1.2, h⟩

theorem order_lex (a b : D) : orderR a b = lex (cmpI (vk a) (vk b)) (if vk a == 5 then cmpL singleD (vl a) (vl b) else if vk a == 3 then cmpS (vs a) (vs b) else cmpI (vi a) (vi b)) := by
  unfold orderR
  by_cases h : vk a = vk b
  · by_cases h5 : vk b = 5
    · simp [h, h5, lex, cmpI_self]
    · simp [h, h5, lex, cmpI_self, single_lex]
  · have : ((vk a != 5) || (vk b != 5)) = true := by
      by_cases h5 : vk a = 5
      · have : ¬ vk b = 5 := by omega
        simp [this]
      · simp [h5]
    rw [if_pos this, single_lex]
    simp [lex, cmpI_ne h]

theorem order_tr (a b c : D) : Tr (orderR a b) (orderR b c) (orderR a c) := by
  rw [order_lex, order_lex, order_lex]
  refine (cmpI_tr _ _ _).lex fun h1 h2 => ?_
  rw [cmpI_zero] at h1 h2
  rw [← h1]
  split
  · exact cmpL_tr single_tr _ _ _
  · split
    · exact cmpS_tr _ _ _
    · exact cmpI_tr _ _ _

theorem order_anti (a b : D) : orderR b a = - orderR a b := by
  rw [order_lex, order_lex]
  by_cases h : vk a = vk b
  · rw [h]
    refine lex_anti (cmpI_anti _ _) ?_
    split
    · exact cmpL_anti single_anti _ _
    · split
      · exact cmpS_anti _ _
      · exact cmpI_anti _ _
  · have h1 := cmpI_ne h
    have h2 := cmpI_ne (Ne.symm h)
    unfold lex
    simp only [bne_iff_ne, ne_eq, h1, not_false_eq_true, if_true, h2]
    exact cmpI_anti _ _

theorem cmpL_zero : ∀ (xs ys : List D), (∀ x ∈ xs, one1 x = true) → (∀ y ∈ ys, one1 y = true) → (cmpL singleD xs ys = 0 ↔ xs.length = ys.length ∧ (List.range xs.length).all (okSame xs ys) = true)
  | [], [], _, _ => by simp [cmpL]
  | [], _ :: _, _, _ => by simp [cmpL]
  | _ :: _, [], _, _ => by simp [cmpL]
  | x :: xs, y :: ys, hx, hy => by
    have hx0 := hx x (by simp)
    have hy0 := hy y (by simp)
    have lx : vl x = [] := List.length_eq_zero_iff.1 (plain_facts hx0).1
    have ly : vl y = [] := List.length_eq_zero_iff.1 (plain_facts hy0).1
    rw [cmpL_lex, lex_zero, single_zero hx0 hy0, cmpL_zero xs ys (fun a h => hx a (by simp [h])) (fun a h => hy a (by simp [h]))]
    have e : (List.range (x :: xs).length).all (okSame (x :: xs) (y :: ys)) = (sameEl x y && (List.range xs.length).all (okSame xs ys)) := by
      rw [List.length_cons, List.range_succ_eq_map, List.all_cons, List.all_map]
      rfl
    rw [e]
    simp only [sameEl, lx, ly, Bool.and_eq_true, beq_iff_eq, List.length_cons, List.length_nil]
    simp
    grind

theorem order_zero {a b : D} (ha : formedB a = true) (hb : formedB b = true) : (orderR a b == 0) = sameB a b := by
  rw [Bool.eq_iff_iff, beq_iff_eq, order_lex, lex_zero, cmpI_zero]
  by_cases h : vk a = vk b
  · by_cases h5 : vk b = 5
    · obtain ⟨a1, a2, a3⟩ := formed_bag ha (by omega)
      obtain ⟨b1, b2, b3⟩ := formed_bag hb h5
      have := cmpL_zero _ _ (el_one a3) (el_one b3)
      simp only [h, h5, beq_self_eq_true, if_true, true_and, this, sameB, a1, a2, b1, b2, bne_self_eq_false, Bool.or_false, Bool.false_or]
      by_cases hl : (vl a).length = (vl b).length
      · simp [hl]
      · simp [hl]
    · have oa := formed_one ha (by omega)
      have ob := formed_one hb h5
      have la : vl a = [] := List.length_eq_zero_iff.1 (plain_facts oa).1
      have lb : vl b = [] := List.length_eq_zero_iff.1 (plain_facts ob).1
      have h5' : ¬ vk a = 5 := by omega
      have hz := single_zero oa ob
      rw [single_lex, lex_zero, cmpI_zero] at hz
      have e5 : (vk a == 5) = false := by simpa using h5'
      rw [e5]
      simp only [Bool.false_eq_true, if_false]
      rw [hz]
      simp only [sameB, la, lb]
      by_cases hi : vi a = vi b <;> by_cases hs : vs a = vs b <;> simp [h, hi, hs]
  · have : (vk a != vk b) = true := by simp [h]
    simp [h, sameB]

theorem order_same' {a b : D} (ha : formedB a = true) (hb : formedB b = true) : ordW ord0 a b = orderR a b := by
  by_cases h : vk a = vk b
  · exact order_same ha hb h
  · rw [order_lex]
    have := cmpI_ne h
    unfold ordW or3 lex
    simp [this]
end GP
