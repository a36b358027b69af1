import Derived.Test.YtnipbngimicldaaDoorGpO
/- Monotonicity and congruence. -/
namespace GP
open Go

/-- What an operation looks at. -/
def O.rds : O → List Rd
  | .mv x => [x]
  | .mvs x => [x]
  | .pick c a b => [c] ++ [a] ++ [b]
  | .alloc _ => []
  | .allocAt _ _ => []
  | .box x => [x]
  | .boxAt _ x => [x]
  | .build _ ps => (ps.map fun p => p.2.2)
  | .bsl _ xs => xs
  | .bslq _ xs => xs
  | .load _ _ x => [x]
  | .store _ x y => [x] ++ [y]
  | .nilc x => [x]
  | .bin _ x y => [x] ++ [y]
  | .eqa _ _ x y => [x] ++ [y]
  | .eq1 _ _ x y => [x] ++ [y]
  | .un _ x => [x]
  | .conv _ x => [x]
  | .s2b x => [x]
  | .s2bq x => [x]
  | .b2s x => [x]
  | .b2m x => [x]
  | .mkfn _ xs ys => xs ++ ys
  | .sls _ x lo hi => [x] ++ lo.toList ++ hi.toList
  | .subs x lo hi => [x] ++ lo.toList ++ hi.toList
  | .faddr _ x => [x]
  | .field _ _ _ x => [x]
  | .iaddr _ x y => [x] ++ [y]
  | .iarr _ _ x y => [x] ++ [y]
  | .idxs x y => [x] ++ [y]
  | .idxa _ _ _ x y => [x] ++ [y]
  | .ext _ x => [x]
  | .call f xs => [f] ++ xs
  | .pcall f xs => [f] ++ xs
  | .len x => [x]
  | .lens x => [x]
  | .app _ _ _ x y => [x] ++ [y]
  | .rawAt _ _ => []
  | .fillAt _ _ x y => [x] ++ [y]
  | .sls3 _ x lo hi mb => [x] ++ lo.toList ++ hi.toList ++ mb.toList
  | .appm _ _ _ _ x y => [x] ++ [y]
  | .bslm _ _ xs => xs
  | .copy _ x y => [x] ++ [y]
  | .clr _ x => [x]
  | .mkm _ _ _ _ x y => [x] ++ [y]
  | .mn x y => [x] ++ [y]
  | .mx x y => [x] ++ [y]

theorem K1_imp {K K' : D → S → Prop} {s s' : S} (h : ∀ u, K u s → K' u s') {o : Option D} (k : K1 K s o) : K1 K' s' o := by
  cases o with
  | none => exact k
  | some d => exact h d k

theorem map_ev {s s' : S} {xs : List Rd} (h : ∀ r ∈ xs, s'.ev r = s.ev r) : xs.map s'.ev = xs.map s.ev := List.map_congr_left h
theorem optN_ev {s s' : S} {d : Nat} {o : Option Rd} (h : ∀ r ∈ o.toList, s'.ev r = s.ev r) : optN s' d o = optN s d o := by
  cases o with
  | none => rfl
  | some r => simp only [optN, h r (by simp)]

theorem atK_imp {K K' : D → S → Prop} {s s' : S} (hH : s'.H = s.H) (hT : s'.T = s.T) (h : ∀ u H T, K u ⟨s.t, H, T⟩ → K' u ⟨s'.t, H, T⟩) {i : Nat} {z : List D} {o : Option Ob} (k : atK K s i z o) : atK K' s' i z o := by
  unfold atK at *
  split <;> simp_all
theorem rawK_imp {K K' : D → S → Prop} {s s' : S} (hH : s'.H = s.H) (hT : s'.T = s.T) (h : ∀ u H T, K u ⟨s.t, H, T⟩ → K' u ⟨s'.t, H, T⟩) {i : Nat} {z : List D} {o : Option Ob} (k : rawK K s i z o) : rawK K' s' i z o := by
  unfold rawK at *
  split <;> simp_all
theorem fillK_imp {K K' : D → S → Prop} {s s' : S} (hH : s'.H = s.H) (hT : s'.T = s.T) (h : ∀ u H T, K u ⟨s.t, H, T⟩ → K' u ⟨s'.t, H, T⟩) {i n : Nat} {a v : D} {o : Option Ob} (k : fillK K s i n a v o) : fillK K' s' i n a v o := by
  unfold fillK at *
  split <;> simp_all
theorem appmK_imp {K K' : D → S → Prop} {s s' : S} (hH : s'.H = s.H) (hT : s'.T = s.T) (h : ∀ u H T, K u ⟨s.t, H, T⟩ → K' u ⟨s'.t, H, T⟩) {ag : Bool} {sz bytes : Nat} {x : D} {ys : Option (List D)} (k : appmK ag sz bytes K s x ys) : appmK ag sz bytes K' s' x ys := by
  obtain ⟨t, H, T⟩ := s
  obtain ⟨t', H', T'⟩ := s'
  simp only at hH hT h
  subst hH; subst hT
  cases ys with
  | none => exact k
  | some ys =>
    refine ⟨k.1, ?_⟩
    have k2 := k.2
    cases x with
    | nils =>
      simp only at k2 ⊢
      split
      · rename_i h0; rw [if_pos h0] at k2; exact h _ _ _ k2
      · rename_i h0; rw [if_neg h0] at k2; exact ⟨k2.1, k2.2.1, h _ _ _ k2.2.2⟩
    | e0 =>
      simp only at k2 ⊢
      split
      · rename_i h0; rw [if_pos h0] at k2; exact h _ _ _ k2
      · rename_i h0; rw [if_neg h0] at k2; exact ⟨k2.1, k2.2.1, h _ _ _ k2.2.2⟩
    | ms g z o off n cap =>
      simp only at k2 ⊢
      split
      · rename_i cs hc
        rw [hc] at k2
        simp only at k2
        refine ⟨k2.1, ?_⟩
        have k3 := k2.2
        split
        · rename_i h0; rw [if_pos h0] at k3; exact ⟨k3.1, h _ _ _ k3.2⟩
        · rename_i h0; rw [if_neg h0] at k3; exact ⟨k3.1, k3.2.1, k3.2.2.1, k3.2.2.2.1, h _ _ _ k3.2.2.2.2⟩
      · rename_i hn
        split at k2
        · rename_i cs hc; exact (hn cs hc).elim
        · exact k2
    | _ => exact k2
theorem copyK_imp {K K' : D → S → Prop} {s s' : S} (hH : s'.H = s.H) (hT : s'.T = s.T) (h : ∀ u H T, K u ⟨s.t, H, T⟩ → K' u ⟨s'.t, H, T⟩) {sz : Nat} {x : D} {ys : Option (List D)} (k : copyK sz K s x ys) : copyK sz K' s' x ys := by
  obtain ⟨t, H, T⟩ := s
  obtain ⟨t', H', T'⟩ := s'
  simp only at hH hT h
  subst hH; subst hT
  cases ys with
  | none => exact k
  | some ys =>
    refine ⟨k.1, ?_⟩
    have k2 := k.2
    cases x with
    | nils => exact h _ _ _ k2
    | e0 => exact h _ _ _ k2
    | sl t xs =>
      cases xs with
      | nil => exact h _ _ _ k2
      | cons => exact k2
    | ms g z o off n cap =>
      simp only at k2 ⊢
      split
      · rename_i cs hc
        rw [hc] at k2
        exact ⟨k2.1, k2.2.1, h _ _ _ k2.2.2⟩
      · rename_i hn
        split at k2
        · rename_i cs hc; exact (hn cs hc).elim
        · exact k2
    | _ => exact k2
theorem clrK_imp {K K' : D → S → Prop} {s s' : S} (hH : s'.H = s.H) (hT : s'.T = s.T) (h : ∀ u H T, K u ⟨s.t, H, T⟩ → K' u ⟨s'.t, H, T⟩) {z : List D} {x : D} (k : clrK z K s x) : clrK z K' s' x := by
  obtain ⟨t, H, T⟩ := s
  obtain ⟨t', H', T'⟩ := s'
  simp only at hH hT h
  subst hH; subst hT
  cases x with
  | nils => exact h _ _ _ k
  | e0 => exact h _ _ _ k
  | sl t xs =>
    cases xs with
    | nil => exact h _ _ _ k
    | cons => exact k
  | ms g sz o off n cap =>
    simp only [clrK] at k ⊢
    split
    · rename_i cs hc
      rw [hc] at k
      exact ⟨k.1, k.2.1, h _ _ _ k.2.2⟩
    · rename_i hn
      split at k
      · rename_i cs hc; exact (hn cs hc).elim
      · exact k
  | _ => exact k
theorem mkmK_imp {K K' : D → S → Prop} {s s' : S} (hH : s'.H = s.H) (hT : s'.T = s.T) (h : ∀ u H T, K u ⟨s.t, H, T⟩ → K' u ⟨s'.t, H, T⟩) {ag : Bool} {sz bytes : Nat} {z : List D} {x y : D} (k : mkmK ag sz bytes z K s x y) : mkmK ag sz bytes z K' s' x y := by
  unfold mkmK at *
  rw [hH, hT]
  split
  · simp only at k
    exact ⟨k.1, k.2.1, k.2.2.1, k.2.2.2.1, k.2.2.2.2.1, h _ _ _ k.2.2.2.2.2⟩
  · rename_i hn
    split at k
    · exact (hn _ _ _ _ rfl rfl).elim
    · exact k
theorem storeK_imp {K K' : D → S → Prop} {s s' : S} (hH : s'.H = s.H) (hT : s'.T = s.T) (h : ∀ u H T, K u ⟨s.t, H, T⟩ → K' u ⟨s'.t, H, T⟩) {n : Nat} {x y : D} (k : storeK n K s x y) : storeK n K' s' x y := by
  unfold storeK at *
  rw [hH, hT]
  split
  · rename_i o off
    simp only at k
    split
    · rename_i cs hc
      rw [hc] at k
      exact ⟨k.1, k.2.1, k.2.2.1, h _ _ _ k.2.2.2⟩
    · rename_i hn
      split at k
      · rename_i cs hc; exact (hn cs hc).elim
      · exact k
  · rename_i hn
    split at k
    · rename_i o off; exact (hn o off rfl).elim
    · exact k
theorem s2bK_imp {K K' : D → S → Prop} {s s' : S} (hH : s'.H = s.H) (hT : s'.T = s.T) (h : ∀ u H T, K u ⟨s.t, H, T⟩ → K' u ⟨s'.t, H, T⟩) {x : D} (k : s2bK K s x) : s2bK K' s' x := by
  cases x <;> simp only [s2bK] at * <;> first | exact k | (rw [hH, hT]; exact h _ _ _ k)
theorem appK_imp {K K' : D → S → Prop} {s s' : S} (hH : s'.H = s.H) (hT : s'.T = s.T) (h : ∀ u H T, K u ⟨s.t, H, T⟩ → K' u ⟨s'.t, H, T⟩) {sz bytes : Nat} {x : D} {ys : Option (List D)} (k : appK sz bytes K s x ys) : appK sz bytes K' s' x ys := by
  obtain ⟨t, H, T⟩ := s
  obtain ⟨t', H', T'⟩ := s'
  simp only at hH hT h
  subst hH; subst hT
  cases ys with
  | none => exact k
  | some ys =>
    refine ⟨k.1, ?_⟩
    have k2 := k.2
    cases x with
    | nils =>
      simp only at k2 ⊢
      split
      · rename_i h0; rw [if_pos h0] at k2; exact h _ _ _ k2
      · rename_i h0; rw [if_neg h0] at k2; exact ⟨k2.1, k2.2.1, h _ _ _ k2.2.2⟩
    | e0 =>
      simp only at k2 ⊢
      split
      · rename_i h0; rw [if_pos h0] at k2; exact h _ _ _ k2
      · rename_i h0; rw [if_neg h0] at k2; exact ⟨k2.1, k2.2.1, h _ _ _ k2.2.2⟩
    | sl t xs =>
      cases t with
      | none => exact k2
      | some t => exact ⟨k2.1, k2.2.1, k2.2.2.1, k2.2.2.2.1, h _ _ _ k2.2.2.2.2⟩
    | _ => exact k2
theorem pcallK_imp {X X' : Pred} (hX : ∀ f args H T Q, X f args H T Q → X' f args H T Q) {K K' : D → S → Prop} {s s' : S} (hH : s'.H = s.H) (h : ∀ u, K u s → K' u s') {args : List D} {x : D} (k : pcallK X args K s x) : pcallK X' args K' s' x := by
  cases x <;> simp only [pcallK] at * <;> first | exact k | skip
  obtain ⟨r, h1, h2⟩ := k
  exact ⟨r, fun H' T' Q a b => hX _ _ _ _ _ (h1 H' T' Q (by rw [← hH]; exact a) b), h _ h2⟩
theorem callK_imp {X X' : Pred} (hX : ∀ f args H T Q Q', (∀ r H T, Q r H T → Q' r H T) → X f args H T Q → X' f args H T Q') {K K' : D → S → Prop} {s s' : S} (hH : s'.H = s.H) (hT : s'.T = s.T) (h : ∀ u H T, K u ⟨s.t, H, T⟩ → K' u ⟨s'.t, H, T⟩)
    {args : List D} {x : D} (k : callK X args K s x) : callK X' args K' s' x := by
  cases x <;> simp only [callK] at * <;> first | exact k | skip
  rw [hH, hT]
  exact hX _ _ _ _ _ _ (fun r H T hh => h r H T hh) k

/-- An operation at a state that agrees in what the operation looks at. -/
theorem WO_imp {X X' : Pred} (hX : ∀ f args H T Q Q', (∀ r H T, Q r H T → Q' r H T) → X f args H T Q → X' f args H T Q') {o : O} {s s' : S} (hH : s'.H = s.H) (hT : s'.T = s.T) (hev : ∀ r ∈ o.rds, s'.ev r = s.ev r)
    {K K' : D → S → Prop} (h : ∀ u H T, K u ⟨s.t, H, T⟩ → K' u ⟨s'.t, H, T⟩) (k : WO X o s K) : WO X' o s' K' := by
  have hX1 : ∀ f args H T Q, X f args H T Q → X' f args H T Q := fun f args H T Q => hX f args H T Q Q (fun _ _ _ h => h)
  have h0 : ∀ u, K u s → K' u s' := fun u hu => by
    have := h u s.H s.T hu
    rwa [← hH, ← hT] at this
  cases o with
  | mv x =>
    have e0 := hev x (by simp [O.rds])
    have eq : qv s' (.mv x) = qv s (.mv x) := by simp only [qv, e0]
    show K1 K' s' (qv s' (.mv x))
    rw [eq]
    exact K1_imp h0 k
  | mvs x =>
    have e0 := hev x (by simp [O.rds])
    have eq : qv s' (.mvs x) = qv s (.mvs x) := by simp only [qv, e0]
    show K1 K' s' (qv s' (.mvs x))
    rw [eq]
    exact K1_imp h0 k
  | pick c a b =>
    have e0 := hev c (by simp [O.rds])
    have e1 := hev a (by simp [O.rds])
    have e2 := hev b (by simp [O.rds])
    have eq : qv s' (.pick c a b) = qv s (.pick c a b) := by simp only [qv, e0, e1, e2]
    show K1 K' s' (qv s' (.pick c a b))
    rw [eq]
    exact K1_imp h0 k
  | alloc z =>
    show K' _ ⟨s'.t, _, _⟩
    rw [hH, hT]; exact h _ _ _ k
  | allocAt j z =>
    show atK K' s' _ _ _
    rw [hH]; exact atK_imp hH hT h k
  | box x =>
    have e0 := hev x (by simp [O.rds])
    show _ ∧ K' _ ⟨s'.t, _, _⟩
    rw [hH, hT, e0]; exact ⟨k.1, h _ _ _ k.2⟩
  | boxAt j x =>
    have e0 := hev x (by simp [O.rds])
    show _ ∧ atK K' s' _ _ _
    rw [hH, e0]; exact ⟨k.1, atK_imp hH hT h k.2⟩
  | build z ps =>
    have e0 : (ps.map fun p => (p.1, p.2.1, s'.ev p.2.2)) = (ps.map fun p => (p.1, p.2.1, s.ev p.2.2)) := List.map_congr_left fun p hp => by rw [hev p.2.2 (by simp only [O.rds, List.mem_map]; exact ⟨p, hp, rfl⟩)]
    have eq : qv s' (.build z ps) = qv s (.build z ps) := by simp only [qv, e0]
    show K1 K' s' (qv s' (.build z ps))
    rw [eq]
    exact K1_imp h0 k
  | bsl sz xs =>
    have e0 := map_ev (s := s) (s' := s') (xs := xs) (fun r hr => hev r (by simp [O.rds, hr]))
    show _ ∧ K' _ ⟨s'.t, _, _⟩
    rw [hH, hT, e0]; exact ⟨k.1, h _ _ _ k.2⟩
  | bslq sz xs =>
    have e0 := map_ev (s := s) (s' := s') (xs := xs) (fun r hr => hev r (by simp [O.rds, hr]))
    have eq : qv s' (.bslq sz xs) = qv s (.bslq sz xs) := by simp only [qv, e0]
    show K1 K' s' (qv s' (.bslq sz xs))
    rw [eq]
    exact K1_imp h0 k
  | load ag n x =>
    have e0 := hev x (by simp [O.rds])
    have eq : qv s' (.load ag n x) = qv s (.load ag n x) := by simp only [qv, e0, hH]
    show K1 K' s' (qv s' (.load ag n x))
    rw [eq]
    exact K1_imp h0 k
  | store n x y =>
    have e0 := hev x (by simp [O.rds])
    have e1 := hev y (by simp [O.rds])
    show storeK _ K' s' _ _
    rw [e0, e1]; exact storeK_imp hH hT h k
  | nilc x =>
    have e0 := hev x (by simp [O.rds])
    have eq : qv s' (.nilc x) = qv s (.nilc x) := by simp only [qv, e0]
    show K1 K' s' (qv s' (.nilc x))
    rw [eq]
    exact K1_imp h0 k
  | bin op x y =>
    have e0 := hev x (by simp [O.rds])
    have e1 := hev y (by simp [O.rds])
    have eq : qv s' (.bin op x y) = qv s (.bin op x y) := by simp only [qv, e0, e1]
    show K1 K' s' (qv s' (.bin op x y))
    rw [eq]
    exact K1_imp h0 k
  | eqa ks neg x y =>
    have e0 := hev x (by simp [O.rds])
    have e1 := hev y (by simp [O.rds])
    have eq : qv s' (.eqa ks neg x y) = qv s (.eqa ks neg x y) := by simp only [qv, e0, e1]
    show K1 K' s' (qv s' (.eqa ks neg x y))
    rw [eq]
    exact K1_imp h0 k
  | eq1 q neg x y =>
    have e0 := hev x (by simp [O.rds])
    have e1 := hev y (by simp [O.rds])
    have eq : qv s' (.eq1 q neg x y) = qv s (.eq1 q neg x y) := by simp only [qv, e0, e1]
    show K1 K' s' (qv s' (.eq1 q neg x y))
    rw [eq]
    exact K1_imp h0 k
  | un op x =>
    have e0 := hev x (by simp [O.rds])
    have eq : qv s' (.un op x) = qv s (.un op x) := by simp only [qv, e0]
    show K1 K' s' (qv s' (.un op x))
    rw [eq]
    exact K1_imp h0 k
  | conv kd x =>
    have e0 := hev x (by simp [O.rds])
    have eq : qv s' (.conv kd x) = qv s (.conv kd x) := by simp only [qv, e0]
    show K1 K' s' (qv s' (.conv kd x))
    rw [eq]
    exact K1_imp h0 k
  | s2b x =>
    have e0 := hev x (by simp [O.rds])
    show s2bK K' s' _
    rw [e0]; exact s2bK_imp hH hT h k
  | s2bq x =>
    have e0 := hev x (by simp [O.rds])
    have eq : qv s' (.s2bq x) = qv s (.s2bq x) := by simp only [qv, e0]
    show K1 K' s' (qv s' (.s2bq x))
    rw [eq]
    exact K1_imp h0 k
  | b2s x =>
    have e0 := hev x (by simp [O.rds])
    have eq : qv s' (.b2s x) = qv s (.b2s x) := by simp only [qv, e0]
    show K1 K' s' (qv s' (.b2s x))
    rw [eq]
    exact K1_imp h0 k
  | b2m x =>
    have e0 := hev x (by simp [O.rds])
    show K1 K' s' (b2mD s'.H _)
    rw [e0, hH]; exact K1_imp h0 k
  | mkfn f xs ys =>
    have e0 := map_ev (s := s) (s' := s') (xs := xs) (fun r hr => hev r (by simp [O.rds, hr]))
    have e1 := map_ev (s := s) (s' := s') (xs := ys) (fun r hr => hev r (by simp [O.rds, hr]))
    have eq : qv s' (.mkfn f xs ys) = qv s (.mkfn f xs ys) := by simp only [qv, e0, e1]
    show K1 K' s' (qv s' (.mkfn f xs ys))
    rw [eq]
    exact K1_imp h0 k
  | sls sz x lo hi =>
    have e0 := hev x (by simp [O.rds])
    have e1 : ∀ d, optN s' d lo = optN s d lo := fun d => optN_ev (fun r hr => hev r (by simp only [O.rds, List.mem_append]; simp [hr]))
    have e2 : ∀ d, optN s' d hi = optN s d hi := fun d => optN_ev (fun r hr => hev r (by simp only [O.rds, List.mem_append]; simp [hr]))
    have eq : qv s' (.sls sz x lo hi) = qv s (.sls sz x lo hi) := by simp only [qv, e0, e1, e2]
    show K1 K' s' (qv s' (.sls sz x lo hi))
    rw [eq]
    exact K1_imp h0 k
  | subs x lo hi =>
    have e0 := hev x (by simp [O.rds])
    have e1 : ∀ d, optN s' d lo = optN s d lo := fun d => optN_ev (fun r hr => hev r (by simp only [O.rds, List.mem_append]; simp [hr]))
    have e2 : ∀ d, optN s' d hi = optN s d hi := fun d => optN_ev (fun r hr => hev r (by simp only [O.rds, List.mem_append]; simp [hr]))
    have eq : qv s' (.subs x lo hi) = qv s (.subs x lo hi) := by simp only [qv, e0, e1, e2]
    show K1 K' s' (qv s' (.subs x lo hi))
    rw [eq]
    exact K1_imp h0 k
  | faddr off x =>
    have e0 := hev x (by simp [O.rds])
    have eq : qv s' (.faddr off x) = qv s (.faddr off x) := by simp only [qv, e0]
    show K1 K' s' (qv s' (.faddr off x))
    rw [eq]
    exact K1_imp h0 k
  | field ag off n x =>
    have e0 := hev x (by simp [O.rds])
    have eq : qv s' (.field ag off n x) = qv s (.field ag off n x) := by simp only [qv, e0]
    show K1 K' s' (qv s' (.field ag off n x))
    rw [eq]
    exact K1_imp h0 k
  | iaddr sz x y =>
    have e0 := hev x (by simp [O.rds])
    have e1 := hev y (by simp [O.rds])
    have eq : qv s' (.iaddr sz x y) = qv s (.iaddr sz x y) := by simp only [qv, e0, e1]
    show K1 K' s' (qv s' (.iaddr sz x y))
    rw [eq]
    exact K1_imp h0 k
  | iarr sz len x y =>
    have e0 := hev x (by simp [O.rds])
    have e1 := hev y (by simp [O.rds])
    have eq : qv s' (.iarr sz len x y) = qv s (.iarr sz len x y) := by simp only [qv, e0, e1]
    show K1 K' s' (qv s' (.iarr sz len x y))
    rw [eq]
    exact K1_imp h0 k
  | idxs x y =>
    have e0 := hev x (by simp [O.rds])
    have e1 := hev y (by simp [O.rds])
    have eq : qv s' (.idxs x y) = qv s (.idxs x y) := by simp only [qv, e0, e1]
    show K1 K' s' (qv s' (.idxs x y))
    rw [eq]
    exact K1_imp h0 k
  | idxa ag sz len x y =>
    have e0 := hev x (by simp [O.rds])
    have e1 := hev y (by simp [O.rds])
    have eq : qv s' (.idxa ag sz len x y) = qv s (.idxa ag sz len x y) := by simp only [qv, e0, e1]
    show K1 K' s' (qv s' (.idxa ag sz len x y))
    rw [eq]
    exact K1_imp h0 k
  | ext i x =>
    have e0 := hev x (by simp [O.rds])
    have eq : qv s' (.ext i x) = qv s (.ext i x) := by simp only [qv, e0]
    show K1 K' s' (qv s' (.ext i x))
    rw [eq]
    exact K1_imp h0 k
  | call f xs =>
    have e0 := hev f (by simp [O.rds])
    have e1 := map_ev (s := s) (s' := s') (xs := xs) (fun r hr => hev r (by simp [O.rds, hr]))
    show callK X' _ K' s' _
    rw [e0, e1]; exact callK_imp hX hH hT h k
  | pcall f xs =>
    have e0 := hev f (by simp [O.rds])
    have e1 := map_ev (s := s) (s' := s') (xs := xs) (fun r hr => hev r (by simp [O.rds, hr]))
    show pcallK X' _ K' s' _
    rw [e0, e1]; exact pcallK_imp hX1 hH h0 k
  | len x =>
    have e0 := hev x (by simp [O.rds])
    have eq : qv s' (.len x) = qv s (.len x) := by simp only [qv, e0]
    show K1 K' s' (qv s' (.len x))
    rw [eq]
    exact K1_imp h0 k
  | lens x =>
    have e0 := hev x (by simp [O.rds])
    have eq : qv s' (.lens x) = qv s (.lens x) := by simp only [qv, e0]
    show K1 K' s' (qv s' (.lens x))
    rw [eq]
    exact K1_imp h0 k
  | app st sz bytes x y =>
    have e0 := hev x (by simp [O.rds])
    have e1 := hev y (by simp [O.rds])
    show appK _ _ K' s' _ _
    rw [e0, e1]; exact appK_imp hH hT h k
  | rawAt j z =>
    show _ ∧ rawK K' s' _ _ _
    rw [hH]; exact ⟨k.1, rawK_imp hH hT h k.2⟩
  | fillAt j n x y =>
    have e0 := hev x (by simp [O.rds])
    have e1 := hev y (by simp [O.rds])
    show _ ∧ fillK K' s' _ _ _ _ _
    rw [hH, e0, e1]; exact ⟨k.1, fillK_imp hH hT h k.2⟩
  | sls3 sz x lo hi mb =>
    have e0 := hev x (by simp [O.rds])
    have e1 : ∀ d, optN s' d lo = optN s d lo := fun d => optN_ev (fun r hr => hev r (by simp only [O.rds, List.mem_append]; simp [hr]))
    have e2 : ∀ d, optN s' d hi = optN s d hi := fun d => optN_ev (fun r hr => hev r (by simp only [O.rds, List.mem_append]; simp [hr]))
    have e3 : ∀ d, optN s' d mb = optN s d mb := fun d => optN_ev (fun r hr => hev r (by simp only [O.rds, List.mem_append]; simp [hr]))
    have eq : qv s' (.sls3 sz x lo hi mb) = qv s (.sls3 sz x lo hi mb) := by simp only [qv, e0, e1, e2, e3]
    show K1 K' s' (qv s' (.sls3 sz x lo hi mb))
    rw [eq]
    exact K1_imp h0 k
  | appm ag st sz bytes x y =>
    have e0 := hev x (by simp [O.rds])
    have e1 := hev y (by simp [O.rds])
    show appmK _ _ _ K' s' _ _
    rw [e0, e1, hH]; exact appmK_imp hH hT h k
  | bslm ag sz xs =>
    have e0 := map_ev (s := s) (s' := s') (xs := xs) (fun r hr => hev r (by simp [O.rds, hr]))
    show _ ∧ K' _ ⟨s'.t, _, _⟩
    rw [hH, hT, e0]; exact ⟨k.1, h _ _ _ k.2⟩
  | copy sz x y =>
    have e0 := hev x (by simp [O.rds])
    have e1 := hev y (by simp [O.rds])
    show copyK _ K' s' _ _
    rw [e0, e1, hH]; exact copyK_imp hH hT h k
  | clr z x =>
    have e0 := hev x (by simp [O.rds])
    show clrK _ K' s' _
    rw [e0]; exact clrK_imp hH hT h k
  | mkm ag sz bytes z x y =>
    have e0 := hev x (by simp [O.rds])
    have e1 := hev y (by simp [O.rds])
    show mkmK _ _ _ _ K' s' _ _
    rw [e0, e1]; exact mkmK_imp hH hT h k
  | mn x y =>
    have e0 := hev x (by simp [O.rds])
    have e1 := hev y (by simp [O.rds])
    have eq : qv s' (.mn x y) = qv s (.mn x y) := by simp only [qv, e0, e1]
    show K1 K' s' (qv s' (.mn x y))
    rw [eq]
    exact K1_imp h0 k
  | mx x y =>
    have e0 := hev x (by simp [O.rds])
    have e1 := hev y (by simp [O.rds])
    have eq : qv s' (.mx x y) = qv s (.mx x y) := by simp only [qv, e0, e1]
    show K1 K' s' (qv s' (.mx x y))
    rw [eq]
    exact K1_imp h0 k

theorem WO_mono {X X' : Pred} (hX : ∀ f args H T Q Q', (∀ r H T, Q r H T → Q' r H T) → X f args H T Q → X' f args H T Q') {o : O} {s : S} {K K' : D → S → Prop} (h : ∀ u H T, K u ⟨s.t, H, T⟩ → K' u ⟨s.t, H, T⟩) (k : WO X o s K) : WO X' o s K' :=
  WO_imp hX rfl rfl (fun _ _ => rfl) h k

theorem WI_mono {X X' : Pred} (hX : ∀ f args H T Q Q', (∀ r H T, Q r H T → Q' r H T) → X f args H T Q → X' f args H T Q') {i : I} {s : S} {K K' : S → Prop} (h : ∀ s', K s' → K' s') (k : WI X i s K) : WI X' i s K' := by
  unfold WI WIk at *
  split <;> simp_all
  exact WO_mono hX (fun u H T hk => h _ hk) k

theorem Wr_mono {X X' : Pred} (hX : ∀ f args H T Q Q', (∀ r H T, Q r H T → Q' r H T) → X f args H T Q → X' f args H T Q') : ∀ {is : List I} {s : S} {R R' : S → Prop}, (∀ s', R s' → R' s') → Wr X is R s → Wr X' is R' s
  | [], _, _, _, h, k => h _ k
  | _ :: _, _, _, _, h, k => WI_mono hX (fun _ k => Wr_mono hX h k) k

theorem still_mono {X X' : Pred} (hX : ∀ f args H T Q Q', (∀ r H T, Q r H T → Q' r H T) → X f args H T Q → X' f args H T Q') {i : I} {s : S} (k : still X i s) : still X' i s := by
  unfold still at *
  split <;> simp_all
  exact WO_mono hX (fun u H T hk => hk) k

theorem stillAll_mono {X X' : Pred} (hX : ∀ f args H T Q Q', (∀ r H T, Q r H T → Q' r H T) → X f args H T Q → X' f args H T Q') : ∀ {is : List I} {s : S}, stillAll X is s → stillAll X' is s
  | [], _, _ => trivial
  | _ :: _, _, k => ⟨still_mono hX k.1, stillAll_mono hX k.2⟩

theorem Wd_mono {X X' : Pred} (hX : ∀ f args H T Q Q', (∀ r H T, Q r H T → Q' r H T) → X f args H T Q → X' f args H T Q') : ∀ {is : List (I × List I)} {s : S} {R R' : S → Prop}, (∀ s', R s' → R' s') → Wd X is R s → Wd X' is R' s
  | [], _, _, _, h, k => h _ k
  | (_, _) :: _, _, _, _, h, k => WI_mono hX (fun _ k => ⟨stillAll_mono hX k.1, Wd_mono hX h k.2⟩) k

theorem W_mono {X X' : Pred} (hX : ∀ f args H T Q Q', (∀ r H T, Q r H T → Q' r H T) → X f args H T Q → X' f args H T Q') : ∀ {c : C} {s : S} {Q Q' : Ex → S → Prop}, (∀ e s', Q e s' → Q' e s') → W X c Q s → W X' c Q' s
  | .skip, _, _, _, h, k => h _ _ k
  | .reg _, _, _, _, h, k => Wr_mono hX (fun s' hk => h _ s' hk) k
  | .draw _ _, _, _, _, h, k => Wd_mono hX (fun s' hk => h _ s' hk) k
  | .seq a b, s, Q, Q', h, k => by
    simp only [W] at k ⊢
    refine W_mono hX (fun e s' hk => ?_) k
    cases e with
    | normal => exact W_mono hX h hk
    | exit i => exact h _ _ hk
    | ret => exact h _ _ hk
  | .cond c a b, s, Q, Q', h, k => by
    simp only [W] at k ⊢
    split
    · rename_i t hev
      rw [hev] at k
      simp only at k
      cases t
      · exact W_mono hX h k
      · exact W_mono hX h k
    · rename_i hn
      split at k
      · rename_i t hev; exact (hn t hev).elim
      · exact k
  | .block i c, s, Q, Q', h, k => by
    simp only [W] at k ⊢
    refine W_mono hX (fun e s' hk => ?_) k
    cases e with
    | normal => exact h _ _ hk
    | exit j =>
      simp only [blkK] at hk ⊢
      split
      · rename_i e; rw [if_pos e] at hk; exact h _ _ hk
      · rename_i e; rw [if_neg e] at hk; exact h _ _ hk
    | ret => exact h _ _ hk
  | .loop c, s, Q, Q', h, k => by
    simp only [W] at k ⊢
    obtain ⟨Iv, μ, h0, h1⟩ := k
    refine ⟨Iv, μ, h0, fun s' hs' => W_mono hX (fun e s'' hk => ?_) (h1 s' hs')⟩
    cases e with
    | normal => exact hk
    | exit j => exact h _ _ hk
    | ret => exact h _ _ hk
  | .exit _, _, _, _, h, k => h _ _ k
  | .ret, _, _, _, h, k => h _ _ k

end GP
