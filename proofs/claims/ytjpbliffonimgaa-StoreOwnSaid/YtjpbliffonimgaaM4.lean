import Derived.Test.YtjpbliffonimgaaM3
set_option linter.unusedSimpArgs false
set_option linter.unnecessarySimpa false
set_option linter.unusedSectionVars false
namespace GP
open Go
def O.rds : O → List Rd
  | .mv x => [x]
  | .mvs x => [x]
  | .pick c a b => [c] ++ [a] ++ [b]
  | .alloc _ => []
  | .allocAt _ _ => []
  | .box x => [x]
  | .boxAt _ x => [x]
  | .build _ ps => (ps.map fun p => p.2.2)
  | .bsl _ xs => xs
  | .bslq _ xs => xs
  | .load _ _ x => [x]
  | .store _ x y => [x] ++ [y]
  | .nilc x => [x]
  | .bin _ x y => [x] ++ [y]
  | .eqa _ _ x y => [x] ++ [y]
  | .eq1 _ _ x y => [x] ++ [y]
  | .isn _ x => [x]
  | .un _ x => [x]
  | .conv _ x => [x]
  | .s2b x => [x]
  | .s2bq x => [x]
  | .b2s x => [x]
  | .b2m x => [x]
  | .mkfn _ xs ys => xs ++ ys
  | .sls _ x lo hi => [x] ++ lo.toList ++ hi.toList
  | .subs x lo hi => [x] ++ lo.toList ++ hi.toList
  | .faddr _ x => [x]
  | .field _ _ _ x => [x]
  | .iaddr _ x y => [x] ++ [y]
  | .iarr _ _ x y => [x] ++ [y]
  | .idxs x y => [x] ++ [y]
  | .idxa _ _ _ x y => [x] ++ [y]
  | .ext _ x => [x]
  | .call f xs => [f] ++ xs
  | .pcall f xs => [f] ++ xs
  | .len x => [x]
  | .capz x => [x]
  | .lens x => [x]
  | .app _ _ _ x y => [x] ++ [y]
  | .rawAt _ _ => []
  | .fillAt _ _ x y => [x] ++ [y]
  | .sls3 _ x lo hi mb => [x] ++ lo.toList ++ hi.toList ++ mb.toList
  | .appm _ _ _ _ x y => [x] ++ [y]
  | .bslm _ _ xs => xs
  | .copy _ x y => [x] ++ [y]
  | .clr _ x => [x]
  | .mkm _ _ _ _ x y => [x] ++ [y]
  | .appz _ _ _ _ x y => [x] ++ [y]
  | .mn x y => [x] ++ [y]
  | .mx x y => [x] ++ [y]
  | .mkmap  => []
  | .mlen x => [x]
  | .mget _ _ _ x y => [x] ++ [y]
  | .mput _ x y z => [x] ++ [y] ++ [z]
  | .ment _ _ x y => [x] ++ [y]
  | .mst x y z => [x] ++ [y] ++ [z]
  | .rng x => [x]
  | .nxt x => [x]
  | .ent x => [x]
theorem K1_imp {K K' : D → S → Prop} {s s' : S} (h : ∀ u, K u s → K' u s') {o : Option D} (k : K1 K s o) : K1 K' s' o := by
  cases o with
  | none => exact k
  | some d => exact h d k
theorem map_ev {s s' : S} {xs : List Rd} (h : ∀ r ∈ xs, s'.ev r = s.ev r) : xs.map s'.ev = xs.map s.ev := List.map_congr_left h
theorem optN_ev {s s' : S} {d : Nat} {o : Option Rd} (h : ∀ r ∈ o.toList, s'.ev r = s.ev r) : optN s' d o = optN s d o := by
  cases o with
  | none => rfl
  | some r => simp only [optN, h r (by simp)]
theorem atK_imp {K K' : D → S → Prop} {s s' : S} (hH : s'.H = s.H) (hT : s'.T = s.T) (h : ∀ u H T, K u ⟨s.t, H, T⟩ → K' u ⟨s'.t, H, T⟩) {i : Nat} {z : List D} {o : Option Ob} (k : atK K s i z o) : atK K' s' i z o := by
  unfold atK at *
  split <;> simp_all
theorem rawK_imp {K K' : D → S → Prop} {s s' : S} (hH : s'.H = s.H) (hT : s'.T = s.T) (h : ∀ u H T, K u ⟨s.t, H, T⟩ → K' u ⟨s'.t, H, T⟩) {i : Nat} {z : List D} {o : Option Ob} (k : rawK K s i z o) : rawK K' s' i z o := by
  unfold rawK at *
  split <;> simp_all
theorem fillK_imp {K K' : D → S → Prop} {s s' : S} (hH : s'.H = s.H) (hT : s'.T = s.T) (h : ∀ u H T, K u ⟨s.t, H, T⟩ → K' u ⟨s'.t, H, T⟩) {i n : Nat} {a v : D} {o : Option Ob} (k : fillK K s i n a v o) : fillK K' s' i n a v o := by
  unfold fillK at *
  split <;> simp_all
theorem appmK_imp {K K' : D → S → Prop} {s s' : S} (hH : s'.H = s.H) (hT : s'.T = s.T) (h : ∀ u H T, K u ⟨s.t, H, T⟩ → K' u ⟨s'.t, H, T⟩) {ag : Bool} {sz bytes : Nat} {x : D} {ys : Option (List D)} (k : appmK ag sz bytes K s x ys) : appmK ag sz bytes K' s' x ys := by
  obtain ⟨t, H, T⟩ := s
  obtain ⟨t', H', T'⟩ := s'
  simp only at hH hT h
  subst hH; subst hT
  cases ys with
  | none => exact k
  | some ys =>
    refine ⟨k.1, ?_⟩
    have k2 := k.2
    cases x with
    | nils =>
      simp only at k2 ⊢
      split
      · rename_i h0; rw [if_pos h0] at k2; exact h _ _ _ k2
      · rename_i h0; rw [if_neg h0] at k2; exact ⟨k2.1, k2.2.1, fun c' X a b e => h _ _ _ (k2.2.2 c' X a b e)⟩
    | e0 =>
      simp only at k2 ⊢
      split
      · rename_i h0; rw [if_pos h0] at k2; exact h _ _ _ k2
      · rename_i h0; rw [if_neg h0] at k2; exact ⟨k2.1, k2.2.1, fun c' X a b e => h _ _ _ (k2.2.2 c' X a b e)⟩
    | ms g z o off n cap =>
      simp only at k2 ⊢
      split
      · rename_i cs hc
        rw [hc] at k2
        simp only at k2
        refine ⟨k2.1, ?_⟩
        have k3 := k2.2
        split
        · rename_i h0; rw [if_pos h0] at k3; exact ⟨k3.1, h _ _ _ k3.2⟩
        · rename_i h0; rw [if_neg h0] at k3; exact ⟨k3.1, k3.2.1, k3.2.2.1, k3.2.2.2.1, fun c' X a b e => h _ _ _ (k3.2.2.2.2 c' X a b e)⟩
      · rename_i hn
        split at k2
        · rename_i cs hc; exact (hn cs hc).elim
        · exact k2
    | _ => exact k2
theorem isnK_imp {K K' : D → S → Prop} {s s' : S} (h : ∀ u, K u s → K' u s') {neg : Bool} {x : D} (k : isnK neg K s x) : isnK neg K' s' x := by
  unfold isnK at *
  split <;> simp_all
theorem copyK_imp {K K' : D → S → Prop} {s s' : S} (hH : s'.H = s.H) (hT : s'.T = s.T) (h : ∀ u H T, K u ⟨s.t, H, T⟩ → K' u ⟨s'.t, H, T⟩) {sz : Nat} {x : D} {ys : Option (List D)} (k : copyK sz K s x ys) : copyK sz K' s' x ys := by
  obtain ⟨t, H, T⟩ := s
  obtain ⟨t', H', T'⟩ := s'
  simp only at hH hT h
  subst hH; subst hT
  cases ys with
  | none => exact k
  | some ys =>
    refine ⟨k.1, ?_⟩
    have k2 := k.2
    cases x with
    | nils => exact h _ _ _ k2
    | e0 => exact h _ _ _ k2
    | sl t xs =>
      cases xs with
      | nil => exact h _ _ _ k2
      | cons => exact k2
    | ms g z o off n cap =>
      simp only at k2 ⊢
      split
      · rename_i cs hc
        rw [hc] at k2
        exact ⟨k2.1, k2.2.1, h _ _ _ k2.2.2⟩
      · rename_i hn
        split at k2
        · rename_i cs hc; exact (hn cs hc).elim
        · exact k2
    | _ => exact k2
theorem clrK_imp {K K' : D → S → Prop} {s s' : S} (hH : s'.H = s.H) (hT : s'.T = s.T) (h : ∀ u H T, K u ⟨s.t, H, T⟩ → K' u ⟨s'.t, H, T⟩) {z : List D} {x : D} (k : clrK z K s x) : clrK z K' s' x := by
  obtain ⟨t, H, T⟩ := s
  obtain ⟨t', H', T'⟩ := s'
  simp only at hH hT h
  subst hH; subst hT
  cases x with
  | nils => exact h _ _ _ k
  | e0 => exact h _ _ _ k
  | sl t xs =>
    cases xs with
    | nil => exact h _ _ _ k
    | cons => exact k
  | ms g sz o off n cap =>
    simp only [clrK] at k ⊢
    split
    · rename_i cs hc
      rw [hc] at k
      exact ⟨k.1, k.2.1, h _ _ _ k.2.2⟩
    · rename_i hn
      split at k
      · rename_i cs hc; exact (hn cs hc).elim
      · exact k
  | _ => exact k
theorem appzK_imp {K K' : D → S → Prop} {s s' : S} (hH : s'.H = s.H) (hT : s'.T = s.T) (h : ∀ u H T, K u ⟨s.t, H, T⟩ → K' u ⟨s'.t, H, T⟩) {ag : Bool} {sz bytes : Nat} {z : List D} {x y : D} (k : appzK ag sz bytes z K s x y) : appzK ag sz bytes z K' s' x y := by
  obtain ⟨t, H, T⟩ := s
  obtain ⟨t', H', T'⟩ := s'
  simp only at hH hT h
  subst hH; subst hT
  cases y with
  | int kd n =>
    refine ⟨k.1, k.2.1, ?_⟩
    have k2 := k.2.2
    cases x with
    | nils => exact ⟨k2.1, k2.2.1, fun c' a => h _ _ _ (k2.2.2 c' a)⟩
    | e0 => exact ⟨k2.1, k2.2.1, fun c' a => h _ _ _ (k2.2.2 c' a)⟩
    | ms g z' o off m cap =>
      simp only at k2 ⊢
      split
      · rename_i cs hc
        rw [hc] at k2
        exact ⟨k2.1, k2.2.1, k2.2.2.1, k2.2.2.2.1, k2.2.2.2.2.1, fun c' a => h _ _ _ (k2.2.2.2.2.2 c' a)⟩
      · rename_i hn
        split at k2
        · rename_i cs hc; exact (hn cs hc).elim
        · exact k2
    | _ => exact k2
  | _ => exact k
theorem mkmK_imp {K K' : D → S → Prop} {s s' : S} (hH : s'.H = s.H) (hT : s'.T = s.T) (h : ∀ u H T, K u ⟨s.t, H, T⟩ → K' u ⟨s'.t, H, T⟩) {ag : Bool} {sz bytes : Nat} {z : List D} {x y : D} (k : mkmK ag sz bytes z K s x y) : mkmK ag sz bytes z K' s' x y := by
  unfold mkmK at *
  rw [hH, hT]
  split
  · simp only at k
    exact ⟨k.1, k.2.1, k.2.2.1, k.2.2.2.1, k.2.2.2.2.1, h _ _ _ k.2.2.2.2.2⟩
  · rename_i hn
    split at k
    · exact (hn _ _ _ _ rfl rfl).elim
    · exact k
theorem mputK_imp {K K' : D → S → Prop} {s s' : S} (hH : s'.H = s.H) (hT : s'.T = s.T) (h : ∀ u H T, K u ⟨s.t, H, T⟩ → K' u ⟨s'.t, H, T⟩) {ks : Bool × List Ck} {m kk v : D} (k : mputK ks K s m kk v) : mputK ks K' s' m kk v := by
  obtain ⟨t, H, T⟩ := s
  obtain ⟨t', H', T'⟩ := s'
  simp only at hH hT h
  subst hH; subst hT
  refine ⟨k.1, k.2.1, ?_⟩
  have k2 := k.2.2
  cases m with
  | mp o =>
    simp only at k2 ⊢
    cases ho : H'[o]? with
    | none => rw [ho] at k2; exact k2
    | some x =>
      rw [ho] at k2
      cases x with
      | map es clk =>
        simp only at k2 ⊢
        cases hf : fnd ks kk es 0 with
        | none => rw [hf] at k2; exact k2
        | some r =>
          rw [hf] at k2
          cases r with
          | none => exact h _ _ _ k2
          | some p => exact h _ _ _ k2
      | _ => exact k2
  | _ => exact k2
theorem mentK_imp {K K' : D → S → Prop} {s s' : S} (hH : s'.H = s.H) (hT : s'.T = s.T) (h : ∀ u H T, K u ⟨s.t, H, T⟩ → K' u ⟨s'.t, H, T⟩) {ks : Bool × List Ck} {zv m kk : D} (k : mentK ks zv K s m kk) : mentK ks zv K' s' m kk := by
  obtain ⟨t, H, T⟩ := s
  obtain ⟨t', H', T'⟩ := s'
  simp only at hH hT h
  subst hH; subst hT
  refine ⟨k.1, k.2.1, ?_⟩
  have k2 := k.2.2
  cases m with
  | mp o =>
    simp only at k2 ⊢
    cases ho : H'[o]? with
    | none => rw [ho] at k2; exact k2
    | some x =>
      rw [ho] at k2
      cases x with
      | map es clk =>
        simp only at k2 ⊢
        cases hf : fnd ks kk es 0 with
        | none => rw [hf] at k2; exact k2
        | some r =>
          rw [hf] at k2
          cases r with
          | none => exact h _ _ _ k2
          | some p => exact h _ _ _ k2
      | _ => exact k2
  | _ => exact k2
theorem rngK_imp {K K' : D → S → Prop} {s s' : S} (hH : s'.H = s.H) (hT : s'.T = s.T) (h : ∀ u H T, K u ⟨s.t, H, T⟩ → K' u ⟨s'.t, H, T⟩) {m : D} (k : rngK K s m) : rngK K' s' m := by
  obtain ⟨t, H, T⟩ := s
  obtain ⟨t', H', T'⟩ := s'
  simp only at hH hT h
  subst hH; subst hT
  unfold rngK at *
  split <;> simp_all
  split <;> simp_all
theorem nxtK_imp {K K' : D → S → Prop} {s s' : S} (hH : s'.H = s.H) (hT : s'.T = s.T) (h : ∀ u H T, K u ⟨s.t, H, T⟩ → K' u ⟨s'.t, H, T⟩) {m : D} (k : nxtK K s m) : nxtK K' s' m := by
  obtain ⟨t, H, T⟩ := s
  obtain ⟨t', H', T'⟩ := s'
  simp only at hH hT h
  subst hH; subst hT
  unfold nxtK at *
  split
  · simp only at k
    split <;> simp_all
    split <;> simp_all
    exact ⟨k.1, fun g => h _ _ _ (k.2.2.1 g)⟩
  · simp_all
theorem mstK_imp {K K' : D → S → Prop} {s s' : S} (hH : s'.H = s.H) (hT : s'.T = s.T) (h : ∀ u H T, K u ⟨s.t, H, T⟩ → K' u ⟨s'.t, H, T⟩) {m b v : D} (k : mstK K s m b v) : mstK K' s' m b v := by
  obtain ⟨t, H, T⟩ := s
  obtain ⟨t', H', T'⟩ := s'
  simp only at hH hT h
  subst hH; subst hT
  refine ⟨k.1, ?_⟩
  have k2 := k.2
  cases m with
  | mp o =>
    cases b with
    | int kd n =>
      simp only at k2 ⊢
      cases ho : H'[o]? with
      | none => rw [ho] at k2; exact k2
      | some x =>
        rw [ho] at k2
        cases x with
        | map es clk =>
          simp only at k2 ⊢
          cases hf : es.findIdx? (fun e => (e.2.2 : Int) == n) with
          | none => rw [hf] at k2; exact k2
          | some i =>
            rw [hf] at k2
            simp only at k2 ⊢
            cases hi : es[i]? with
            | none => rw [hi] at k2; exact k2
            | some e => rw [hi] at k2; exact h _ _ _ k2
        | _ => exact k2
    | _ => exact k2
  | _ => exact k2
theorem storeK_imp {K K' : D → S → Prop} {s s' : S} (hH : s'.H = s.H) (hT : s'.T = s.T) (h : ∀ u H T, K u ⟨s.t, H, T⟩ → K' u ⟨s'.t, H, T⟩) {n : Nat} {x y : D} (k : storeK n K s x y) : storeK n K' s' x y := by
  unfold storeK at *
  rw [hH, hT]
  split
  · rename_i o off
    simp only at k
    split
    · rename_i cs hc
      rw [hc] at k
      exact ⟨k.1, k.2.1, k.2.2.1, h _ _ _ k.2.2.2⟩
    · rename_i hn
      split at k
      · rename_i cs hc; exact (hn cs hc).elim
      · exact k
  · rename_i hn
    split at k
    · rename_i o off; exact (hn o off rfl).elim
    · exact k
theorem s2bK_imp {K K' : D → S → Prop} {s s' : S} (hH : s'.H = s.H) (hT : s'.T = s.T) (h : ∀ u H T, K u ⟨s.t, H, T⟩ → K' u ⟨s'.t, H, T⟩) {x : D} (k : s2bK K s x) : s2bK K' s' x := by
  cases x <;> simp only [s2bK] at * <;> first | exact k | (rw [hH, hT]; exact h _ _ _ k)
theorem appK_imp {K K' : D → S → Prop} {s s' : S} (hH : s'.H = s.H) (hT : s'.T = s.T) (h : ∀ u H T, K u ⟨s.t, H, T⟩ → K' u ⟨s'.t, H, T⟩) {sz bytes : Nat} {x : D} {ys : Option (List D)} (k : appK sz bytes K s x ys) : appK sz bytes K' s' x ys := by
  obtain ⟨t, H, T⟩ := s
  obtain ⟨t', H', T'⟩ := s'
  simp only at hH hT h
  subst hH; subst hT
  cases ys with
  | none => exact k
  | some ys =>
    refine ⟨k.1, ?_⟩
    have k2 := k.2
    cases x with
    | nils =>
      simp only at k2 ⊢
      split
      · rename_i h0; rw [if_pos h0] at k2; exact h _ _ _ k2
      · rename_i h0; rw [if_neg h0] at k2; exact ⟨k2.1, k2.2.1, h _ _ _ k2.2.2⟩
    | e0 =>
      simp only at k2 ⊢
      split
      · rename_i h0; rw [if_pos h0] at k2; exact h _ _ _ k2
      · rename_i h0; rw [if_neg h0] at k2; exact ⟨k2.1, k2.2.1, h _ _ _ k2.2.2⟩
    | sl t xs =>
      cases t with
      | none => exact k2
      | some t => exact ⟨k2.1, k2.2.1, k2.2.2.1, k2.2.2.2.1, h _ _ _ k2.2.2.2.2⟩
    | _ => exact k2
theorem pcallK_imp {X X' : Pred} (hX : ∀ f args H T Q, X f args H T Q → X' f args H T Q) {K K' : D → S → Prop} {s s' : S} (hH : s'.H = s.H) (h : ∀ u, K u s → K' u s') {args : List D} {x : D} (k : pcallK X args K s x) : pcallK X' args K' s' x := by
  cases x <;> simp only [pcallK] at * <;> first | exact k | skip
  obtain ⟨r, h1, h2⟩ := k
  exact ⟨r, fun H' T' Q a b => hX _ _ _ _ _ (h1 H' T' Q (by rw [← hH]; exact a) b), h _ h2⟩
theorem callK_imp {X X' : Pred} (hX : ∀ f args H T Q Q', (∀ r H T, Q r H T → Q' r H T) → X f args H T Q → X' f args H T Q') {K K' : D → S → Prop} {s s' : S} (hH : s'.H = s.H) (hT : s'.T = s.T) (h : ∀ u H T, K u ⟨s.t, H, T⟩ → K' u ⟨s'.t, H, T⟩)
    {args : List D} {x : D} (k : callK X args K s x) : callK X' args K' s' x := by
  cases x <;> simp only [callK] at * <;> first | exact k | skip
  rw [hH, hT]
  exact hX _ _ _ _ _ _ (fun r H T hh => h r H T hh) k
theorem WO_imp {X X' : Pred} (hX : ∀ f args H T Q Q', (∀ r H T, Q r H T → Q' r H T) → X f args H T Q → X' f args H T Q') {o : O} {s s' : S} (hH : s'.H = s.H) (hT : s'.T = s.T) (hev : ∀ r ∈ o.rds, s'.ev r = s.ev r)
    {K K' : D → S → Prop} (h : ∀ u H T, K u ⟨s.t, H, T⟩ → K' u ⟨s'.t, H, T⟩) (k : WO X o s K) : WO X' o s' K' := by
  have hX1 : ∀ f args H T Q, X f args H T Q → X' f args H T Q := fun f args H T Q => hX f args H T Q Q (fun _ _ _ h => h)
  have h0 : ∀ u, K u s → K' u s' := fun u hu => by
    have := h u s.H s.T hu
    rwa [← hH, ← hT] at this
  cases o with
  | mv x =>
    have e0 := hev x (by simp [O.rds])
    have eq : qv s' (.mv x) = qv s (.mv x) := by simp only [qv, e0]
    show K1 K' s' (qv s' (.mv x))
    rw [eq]
    exact K1_imp h0 k
  | mvs x =>
    have e0 := hev x (by simp [O.rds])
    have eq : qv s' (.mvs x) = qv s (.mvs x) := by simp only [qv, e0]
    show K1 K' s' (qv s' (.mvs x))
    rw [eq]
    exact K1_imp h0 k
  | pick c a b =>
    have e0 := hev c (by simp [O.rds])
    have e1 := hev a (by simp [O.rds])
    have e2 := hev b (by simp [O.rds])
    have eq : qv s' (.pick c a b) = qv s (.pick c a b) := by simp only [qv, e0, e1, e2]
    show K1 K' s' (qv s' (.pick c a b))
    rw [eq]
    exact K1_imp h0 k
  | alloc z =>
    show K' _ ⟨s'.t, _, _⟩
    rw [hH, hT]; exact h _ _ _ k
  | allocAt j z =>
    show atK K' s' _ _ _
    rw [hH]; exact atK_imp hH hT h k
  | box x =>
    have e0 := hev x (by simp [O.rds])
    show _ ∧ K' _ ⟨s'.t, _, _⟩
    rw [hH, hT, e0]; exact ⟨k.1, h _ _ _ k.2⟩
  | boxAt j x =>
    have e0 := hev x (by simp [O.rds])
    show _ ∧ atK K' s' _ _ _
    rw [hH, e0]; exact ⟨k.1, atK_imp hH hT h k.2⟩
  | build z ps =>
    have e0 : (ps.map fun p => (p.1, p.2.1, s'.ev p.2.2)) = (ps.map fun p => (p.1, p.2.1, s.ev p.2.2)) := List.map_congr_left fun p hp => by rw [hev p.2.2 (by simp only [O.rds, List.mem_map]; exact ⟨p, hp, rfl⟩)]
    have eq : qv s' (.build z ps) = qv s (.build z ps) := by simp only [qv, e0]
    show K1 K' s' (qv s' (.build z ps))
    rw [eq]
    exact K1_imp h0 k
  | bsl sz xs =>
    have e0 := map_ev (s := s) (s' := s') (xs := xs) (fun r hr => hev r (by simp [O.rds, hr]))
    show _ ∧ K' _ ⟨s'.t, _, _⟩
    rw [hH, hT, e0]; exact ⟨k.1, h _ _ _ k.2⟩
  | bslq sz xs =>
    have e0 := map_ev (s := s) (s' := s') (xs := xs) (fun r hr => hev r (by simp [O.rds, hr]))
    have eq : qv s' (.bslq sz xs) = qv s (.bslq sz xs) := by simp only [qv, e0]
    show K1 K' s' (qv s' (.bslq sz xs))
    rw [eq]
    exact K1_imp h0 k
  | load ag n x =>
    have e0 := hev x (by simp [O.rds])
    have eq : qv s' (.load ag n x) = qv s (.load ag n x) := by simp only [qv, e0, hH]
    show K1 K' s' (qv s' (.load ag n x))
    rw [eq]
    exact K1_imp h0 k
  | store n x y =>
    have e0 := hev x (by simp [O.rds])
    have e1 := hev y (by simp [O.rds])
    show storeK _ K' s' _ _
    rw [e0, e1]; exact storeK_imp hH hT h k
  | nilc x =>
    have e0 := hev x (by simp [O.rds])
    have eq : qv s' (.nilc x) = qv s (.nilc x) := by simp only [qv, e0]
    show K1 K' s' (qv s' (.nilc x))
    rw [eq]
    exact K1_imp h0 k
  | bin op x y =>
    have e0 := hev x (by simp [O.rds])
    have e1 := hev y (by simp [O.rds])
    have eq : qv s' (.bin op x y) = qv s (.bin op x y) := by simp only [qv, e0, e1]
    show K1 K' s' (qv s' (.bin op x y))
    rw [eq]
    exact K1_imp h0 k
  | eqa ks neg x y =>
    have e0 := hev x (by simp [O.rds])
    have e1 := hev y (by simp [O.rds])
    have eq : qv s' (.eqa ks neg x y) = qv s (.eqa ks neg x y) := by simp only [qv, e0, e1]
    show K1 K' s' (qv s' (.eqa ks neg x y))
    rw [eq]
    exact K1_imp h0 k
  | eq1 q neg x y =>
    have e0 := hev x (by simp [O.rds])
    have e1 := hev y (by simp [O.rds])
    have eq : qv s' (.eq1 q neg x y) = qv s (.eq1 q neg x y) := by simp only [qv, e0, e1]
    show K1 K' s' (qv s' (.eq1 q neg x y))
    rw [eq]
    exact K1_imp h0 k
  | isn neg x =>
    have e0 := hev x (by simp [O.rds])
    show isnK neg K' s' (s'.ev x)
    rw [e0]; exact isnK_imp h0 k
  | un op x =>
    have e0 := hev x (by simp [O.rds])
    have eq : qv s' (.un op x) = qv s (.un op x) := by simp only [qv, e0]
    show K1 K' s' (qv s' (.un op x))
    rw [eq]
    exact K1_imp h0 k
  | conv kd x =>
    have e0 := hev x (by simp [O.rds])
    have eq : qv s' (.conv kd x) = qv s (.conv kd x) := by simp only [qv, e0]
    show K1 K' s' (qv s' (.conv kd x))
    rw [eq]
    exact K1_imp h0 k
  | s2b x =>
    have e0 := hev x (by simp [O.rds])
    show s2bK K' s' _
    rw [e0]; exact s2bK_imp hH hT h k
  | s2bq x =>
    have e0 := hev x (by simp [O.rds])
    have eq : qv s' (.s2bq x) = qv s (.s2bq x) := by simp only [qv, e0]
    show K1 K' s' (qv s' (.s2bq x))
    rw [eq]
    exact K1_imp h0 k
  | b2s x =>
    have e0 := hev x (by simp [O.rds])
    have eq : qv s' (.b2s x) = qv s (.b2s x) := by simp only [qv, e0]
    show K1 K' s' (qv s' (.b2s x))
    rw [eq]
    exact K1_imp h0 k
  | b2m x =>
    have e0 := hev x (by simp [O.rds])
    show K1 K' s' (b2mD s'.H _)
    rw [e0, hH]; exact K1_imp h0 k
  | mkfn f xs ys =>
    have e0 := map_ev (s := s) (s' := s') (xs := xs) (fun r hr => hev r (by simp [O.rds, hr]))
    have e1 := map_ev (s := s) (s' := s') (xs := ys) (fun r hr => hev r (by simp [O.rds, hr]))
    have eq : qv s' (.mkfn f xs ys) = qv s (.mkfn f xs ys) := by simp only [qv, e0, e1]
    show K1 K' s' (qv s' (.mkfn f xs ys))
    rw [eq]
    exact K1_imp h0 k
  | sls sz x lo hi =>
    have e0 := hev x (by simp [O.rds])
    have e1 : ∀ d, optN s' d lo = optN s d lo := fun d => optN_ev (fun r hr => hev r (by simp only [O.rds, List.mem_append]; simp [hr]))
    have e2 : ∀ d, optN s' d hi = optN s d hi := fun d => optN_ev (fun r hr => hev r (by simp only [O.rds, List.mem_append]; simp [hr]))
    have eq : qv s' (.sls sz x lo hi) = qv s (.sls sz x lo hi) := by simp only [qv, e0, e1, e2]
    show K1 K' s' (qv s' (.sls sz x lo hi))
    rw [eq]
    exact K1_imp h0 k
  | subs x lo hi =>
    have e0 := hev x (by simp [O.rds])
    have e1 : ∀ d, optN s' d lo = optN s d lo := fun d => optN_ev (fun r hr => hev r (by simp only [O.rds, List.mem_append]; simp [hr]))
    have e2 : ∀ d, optN s' d hi = optN s d hi := fun d => optN_ev (fun r hr => hev r (by simp only [O.rds, List.mem_append]; simp [hr]))
    have eq : qv s' (.subs x lo hi) = qv s (.subs x lo hi) := by simp only [qv, e0, e1, e2]
    show K1 K' s' (qv s' (.subs x lo hi))
    rw [eq]
    exact K1_imp h0 k
  | faddr off x =>
    have e0 := hev x (by simp [O.rds])
    have eq : qv s' (.faddr off x) = qv s (.faddr off x) := by simp only [qv, e0]
    show K1 K' s' (qv s' (.faddr off x))
    rw [eq]
    exact K1_imp h0 k
  | field ag off n x =>
    have e0 := hev x (by simp [O.rds])
    have eq : qv s' (.field ag off n x) = qv s (.field ag off n x) := by simp only [qv, e0]
    show K1 K' s' (qv s' (.field ag off n x))
    rw [eq]
    exact K1_imp h0 k
  | iaddr sz x y =>
    have e0 := hev x (by simp [O.rds])
    have e1 := hev y (by simp [O.rds])
    have eq : qv s' (.iaddr sz x y) = qv s (.iaddr sz x y) := by simp only [qv, e0, e1]
    show K1 K' s' (qv s' (.iaddr sz x y))
    rw [eq]
    exact K1_imp h0 k
  | iarr sz len x y =>
    have e0 := hev x (by simp [O.rds])
    have e1 := hev y (by simp [O.rds])
    have eq : qv s' (.iarr sz len x y) = qv s (.iarr sz len x y) := by simp only [qv, e0, e1]
    show K1 K' s' (qv s' (.iarr sz len x y))
    rw [eq]
    exact K1_imp h0 k
  | idxs x y =>
    have e0 := hev x (by simp [O.rds])
    have e1 := hev y (by simp [O.rds])
    have eq : qv s' (.idxs x y) = qv s (.idxs x y) := by simp only [qv, e0, e1]
    show K1 K' s' (qv s' (.idxs x y))
    rw [eq]
    exact K1_imp h0 k
  | idxa ag sz len x y =>
    have e0 := hev x (by simp [O.rds])
    have e1 := hev y (by simp [O.rds])
    have eq : qv s' (.idxa ag sz len x y) = qv s (.idxa ag sz len x y) := by simp only [qv, e0, e1]
    show K1 K' s' (qv s' (.idxa ag sz len x y))
    rw [eq]
    exact K1_imp h0 k
  | ext i x =>
    have e0 := hev x (by simp [O.rds])
    have eq : qv s' (.ext i x) = qv s (.ext i x) := by simp only [qv, e0]
    show K1 K' s' (qv s' (.ext i x))
    rw [eq]
    exact K1_imp h0 k
  | call f xs =>
    have e0 := hev f (by simp [O.rds])
    have e1 := map_ev (s := s) (s' := s') (xs := xs) (fun r hr => hev r (by simp [O.rds, hr]))
    show callK X' _ K' s' _
    rw [e0, e1]; exact callK_imp hX hH hT h k
  | pcall f xs =>
    have e0 := hev f (by simp [O.rds])
    have e1 := map_ev (s := s) (s' := s') (xs := xs) (fun r hr => hev r (by simp [O.rds, hr]))
    show pcallK X' _ K' s' _
    rw [e0, e1]; exact pcallK_imp hX1 hH h0 k
  | len x =>
    have e0 := hev x (by simp [O.rds])
    have eq : qv s' (.len x) = qv s (.len x) := by simp only [qv, e0]
    show K1 K' s' (qv s' (.len x))
    rw [eq]
    exact K1_imp h0 k
  | capz x =>
    have e0 := hev x (by simp [O.rds])
    have eq : qv s' (.capz x) = qv s (.capz x) := by simp only [qv, e0]
    show K1 K' s' (qv s' (.capz x))
    rw [eq]
    exact K1_imp h0 k
  | lens x =>
    have e0 := hev x (by simp [O.rds])
    have eq : qv s' (.lens x) = qv s (.lens x) := by simp only [qv, e0]
    show K1 K' s' (qv s' (.lens x))
    rw [eq]
    exact K1_imp h0 k
  | app st sz bytes x y =>
    have e0 := hev x (by simp [O.rds])
    have e1 := hev y (by simp [O.rds])
    show appK _ _ K' s' _ _
    rw [e0, e1]; exact appK_imp hH hT h k
  | rawAt j z =>
    show _ ∧ rawK K' s' _ _ _
    rw [hH]; exact ⟨k.1, rawK_imp hH hT h k.2⟩
  | fillAt j n x y =>
    have e0 := hev x (by simp [O.rds])
    have e1 := hev y (by simp [O.rds])
    show _ ∧ fillK K' s' _ _ _ _ _
    rw [hH, e0, e1]; exact ⟨k.1, fillK_imp hH hT h k.2⟩
  | sls3 sz x lo hi mb =>
    have e0 := hev x (by simp [O.rds])
    have e1 : ∀ d, optN s' d lo = optN s d lo := fun d => optN_ev (fun r hr => hev r (by simp only [O.rds, List.mem_append]; simp [hr]))
    have e2 : ∀ d, optN s' d hi = optN s d hi := fun d => optN_ev (fun r hr => hev r (by simp only [O.rds, List.mem_append]; simp [hr]))
    have e3 : ∀ d, optN s' d mb = optN s d mb := fun d => optN_ev (fun r hr => hev r (by simp only [O.rds, List.mem_append]; simp [hr]))
    have eq : qv s' (.sls3 sz x lo hi mb) = qv s (.sls3 sz x lo hi mb) := by simp only [qv, e0, e1, e2, e3]
    show K1 K' s' (qv s' (.sls3 sz x lo hi mb))
    rw [eq]
    exact K1_imp h0 k
  | appm ag st sz bytes x y =>
    have e0 := hev x (by simp [O.rds])
    have e1 := hev y (by simp [O.rds])
    show appmK _ _ _ K' s' _ _
    rw [e0, e1, hH]; exact appmK_imp hH hT h k
  | bslm ag sz xs =>
    have e0 := map_ev (s := s) (s' := s') (xs := xs) (fun r hr => hev r (by simp [O.rds, hr]))
    show _ ∧ K' _ ⟨s'.t, _, _⟩
    rw [hH, hT, e0]; exact ⟨k.1, h _ _ _ k.2⟩
  | copy sz x y =>
    have e0 := hev x (by simp [O.rds])
    have e1 := hev y (by simp [O.rds])
    show copyK _ K' s' _ _
    rw [e0, e1, hH]; exact copyK_imp hH hT h k
  | clr z x =>
    have e0 := hev x (by simp [O.rds])
    show clrK _ K' s' _
    rw [e0]; exact clrK_imp hH hT h k
  | mkm ag sz bytes z x y =>
    have e0 := hev x (by simp [O.rds])
    have e1 := hev y (by simp [O.rds])
    show mkmK _ _ _ _ K' s' _ _
    rw [e0, e1]; exact mkmK_imp hH hT h k
  | appz ag sz bytes z x y =>
    have e0 := hev x (by simp [O.rds])
    have e1 := hev y (by simp [O.rds])
    show appzK _ _ _ _ K' s' _ _
    rw [e0, e1]; exact appzK_imp hH hT h k
  | mn x y =>
    have e0 := hev x (by simp [O.rds])
    have e1 := hev y (by simp [O.rds])
    have eq : qv s' (.mn x y) = qv s (.mn x y) := by simp only [qv, e0, e1]
    show K1 K' s' (qv s' (.mn x y))
    rw [eq]
    exact K1_imp h0 k
  | mx x y =>
    have e0 := hev x (by simp [O.rds])
    have e1 := hev y (by simp [O.rds])
    have eq : qv s' (.mx x y) = qv s (.mx x y) := by simp only [qv, e0, e1]
    show K1 K' s' (qv s' (.mx x y))
    rw [eq]
    exact K1_imp h0 k
  | mkmap  =>
    show K' _ ⟨s'.t, _, _⟩
    rw [hH, hT]; exact h _ _ _ k
  | mlen x =>
    have e0 := hev x (by simp [O.rds])
    have eq : qv s' (.mlen x) = qv s (.mlen x) := by simp only [qv, e0, hH]
    show K1 K' s' (qv s' (.mlen x))
    rw [eq]
    exact K1_imp h0 k
  | mget ks zv ok x y =>
    have e0 := hev x (by simp [O.rds])
    have e1 := hev y (by simp [O.rds])
    have eq : qv s' (.mget ks zv ok x y) = qv s (.mget ks zv ok x y) := by simp only [qv, e0, e1, hH]
    show K1 K' s' (qv s' (.mget ks zv ok x y))
    rw [eq]
    exact K1_imp h0 k
  | mput ks x y z =>
    have e0 := hev x (by simp [O.rds])
    have e1 := hev y (by simp [O.rds])
    have e2 := hev z (by simp [O.rds])
    show mputK _ K' s' _ _ _
    rw [e0, e1, e2]; exact mputK_imp hH hT h k
  | ment ks zv x y =>
    have e0 := hev x (by simp [O.rds])
    have e1 := hev y (by simp [O.rds])
    show mentK _ _ K' s' _ _
    rw [e0, e1]; exact mentK_imp hH hT h k
  | mst x y z =>
    have e0 := hev x (by simp [O.rds])
    have e1 := hev y (by simp [O.rds])
    have e2 := hev z (by simp [O.rds])
    show mstK K' s' _ _ _
    rw [e0, e1, e2]; exact mstK_imp hH hT h k
  | rng x =>
    have e0 := hev x (by simp [O.rds])
    show rngK K' s' _
    rw [e0]; exact rngK_imp hH hT h k
  | nxt x =>
    have e0 := hev x (by simp [O.rds])
    show nxtK K' s' _
    rw [e0]; exact nxtK_imp hH hT h k
  | ent x =>
    have e0 := hev x (by simp [O.rds])
    have eq : qv s' (.ent x) = qv s (.ent x) := by simp only [qv, e0, hH]
    show K1 K' s' (qv s' (.ent x))
    rw [eq]
    exact K1_imp h0 k
theorem WO_mono {X X' : Pred} (hX : ∀ f args H T Q Q', (∀ r H T, Q r H T → Q' r H T) → X f args H T Q → X' f args H T Q') {o : O} {s : S} {K K' : D → S → Prop} (h : ∀ u H T, K u ⟨s.t, H, T⟩ → K' u ⟨s.t, H, T⟩) (k : WO X o s K) : WO X' o s K' :=
  WO_imp hX rfl rfl (fun _ _ => rfl) h k
theorem WI_mono {X X' : Pred} (hX : ∀ f args H T Q Q', (∀ r H T, Q r H T → Q' r H T) → X f args H T Q → X' f args H T Q') {i : I} {s : S} {K K' : S → Prop} (h : ∀ s', K s' → K' s') (k : WI X i s K) : WI X' i s K' := by
  unfold WI WIk at *
  split <;> simp_all
  exact WO_mono hX (fun u H T hk => h _ hk) k
theorem Wr_mono {X X' : Pred} (hX : ∀ f args H T Q Q', (∀ r H T, Q r H T → Q' r H T) → X f args H T Q → X' f args H T Q') : ∀ {is : List I} {s : S} {R R' : S → Prop}, (∀ s', R s' → R' s') → Wr X is R s → Wr X' is R' s
  | [], _, _, _, h, k => h _ k
  | _ :: _, _, _, _, h, k => WI_mono hX (fun _ k => Wr_mono hX h k) k
theorem still_mono {X X' : Pred} (hX : ∀ f args H T Q Q', (∀ r H T, Q r H T → Q' r H T) → X f args H T Q → X' f args H T Q') {i : I} {s : S} (k : still X i s) : still X' i s := by
  unfold still at *
  split <;> simp_all
  exact WO_mono hX (fun u H T hk => hk) k
theorem stillAll_mono {X X' : Pred} (hX : ∀ f args H T Q Q', (∀ r H T, Q r H T → Q' r H T) → X f args H T Q → X' f args H T Q') : ∀ {is : List I} {s : S}, stillAll X is s → stillAll X' is s
  | [], _, _ => trivial
  | _ :: _, _, k => ⟨still_mono hX k.1, stillAll_mono hX k.2⟩
theorem Wd_mono {X X' : Pred} (hX : ∀ f args H T Q Q', (∀ r H T, Q r H T → Q' r H T) → X f args H T Q → X' f args H T Q') : ∀ {is : List (I × List I)} {s : S} {R R' : S → Prop}, (∀ s', R s' → R' s') → Wd X is R s → Wd X' is R' s
  | [], _, _, _, h, k => h _ k
  | (_, _) :: _, _, _, _, h, k => WI_mono hX (fun _ k => ⟨stillAll_mono hX k.1, Wd_mono hX h k.2⟩) k
theorem W_mono {X X' : Pred} (hX : ∀ f args H T Q Q', (∀ r H T, Q r H T → Q' r H T) → X f args H T Q → X' f args H T Q') : ∀ {c : C} {s : S} {Q Q' : Ex → S → Prop}, (∀ e s', Q e s' → Q' e s') → W X c Q s → W X' c Q' s
  | .skip, _, _, _, h, k => h _ _ k
  | .reg _, _, _, _, h, k => Wr_mono hX (fun s' hk => h _ s' hk) k
  | .draw _ _, _, _, _, h, k => Wd_mono hX (fun s' hk => h _ s' hk) k
  | .seq a b, s, Q, Q', h, k => by
    simp only [W] at k ⊢
    refine W_mono hX (fun e s' hk => ?_) k
    cases e with
    | normal => exact W_mono hX h hk
    | exit i => exact h _ _ hk
    | ret => exact h _ _ hk
  | .cond c a b, s, Q, Q', h, k => by
    simp only [W] at k ⊢
    split
    · rename_i t hev
      rw [hev] at k
      simp only at k
      cases t
      · exact W_mono hX h k
      · exact W_mono hX h k
    · rename_i hn
      split at k
      · rename_i t hev; exact (hn t hev).elim
      · exact k
  | .block i c, s, Q, Q', h, k => by
    simp only [W] at k ⊢
    refine W_mono hX (fun e s' hk => ?_) k
    cases e with
    | normal => exact h _ _ hk
    | exit j =>
      simp only [blkK] at hk ⊢
      split
      · rename_i e; rw [if_pos e] at hk; exact h _ _ hk
      · rename_i e; rw [if_neg e] at hk; exact h _ _ hk
    | ret => exact h _ _ hk
  | .loop c, s, Q, Q', h, k => by
    simp only [W] at k ⊢
    obtain ⟨Iv, μ, h0, h1⟩ := k
    refine ⟨Iv, μ, h0, fun s' hs' => W_mono hX (fun e s'' hk => ?_) (h1 s' hs')⟩
    cases e with
    | normal => exact hk
    | exit j => exact h _ _ hk
    | ret => exact h _ _ hk
  | .exit _, _, _, _, h, k => h _ _ k
  | .ret, _, _, _, h, k => h _ _ k
  | .stop, _, _, _, _, k => (show False by simpa only [W] using k).elim
end GP
namespace GP
open Go
variable {P : Program} {X : Pred} {imp : Hn}
def Mono (X : Pred) : Prop := ∀ f args H T Q Q', (∀ r H T, Q r H T → Q' r H T) → X f args H T Q → X f args H T Q'
theorem Snd.mono [HasG P] : Mono (Snd P) := by
  intro f args H T Q Q' h k c w vs hg hi hT hr
  have hp : ∀ e w', CallPost c w Q e w' → CallPost c w Q' e w' := by
    rintro e w' ⟨v, h1, r, H', T', c', h2, h3⟩
    exact ⟨v, h1, r, H', T', c', h _ _ _ h2, h3⟩
  rcases k c w vs hg hi hT hr with ⟨h1, h2⟩ | ⟨v, w', h1, h2⟩
  · exact .inl ⟨h1, h2.mono hp⟩
  · exact .inr ⟨v, w', h1, hp _ _ h2⟩
def isQuiet : O → Bool
  | .isn _ _ | .alloc _ | .allocAt _ _ | .box _ | .boxAt _ _ | .bsl _ _ | .store _ _ _ | .s2b _ | .b2m _ | .call _ _ | .app _ _ _ _ _ | .rawAt _ _ | .fillAt _ _ _ _ | .appm _ _ _ _ _ _ | .bslm _ _ _ | .copy _ _ _ | .clr _ _ | .mkm _ _ _ _ _ _ | .appz _ _ _ _ _ _ | .mkmap | .mput _ _ _ _ | .ment _ _ _ _ | .mst _ _ _ | .rng _ | .nxt _ => false
  | _ => true
def isHdep : O → Bool
  | .load _ _ _ | .pcall _ _ | .mlen _ | .ent _ | .mget _ _ _ _ _ => true
  | _ => false
def Y (X : Pred) (i : I) (v : D) (s : S) : Prop :=
  (gd s i.g = some true ∧ ∀ K : D → S → Prop, K v s → WO X i.o s K) ∨ (gd s i.g = some false ∧ v = .tup [])
theorem Y.wi {i : I} {v : D} {s : S} (h : Y X i v s) {K : S → Prop} (hk : K (s.put i.d v)) : WI X i s K := by
  unfold WI WIk
  rcases h with ⟨h1, h2⟩ | ⟨h1, rfl⟩
  · rw [h1]; exact h2 _ hk
  · rw [h1]; exact hk
theorem WO_q {o : O} (hq : isQuiet o = true) (hp : ∀ f xs, o ≠ .pcall f xs) (s : S) (K : D → S → Prop) : WO X o s K = K1 K s (qv s o) := by
  cases o <;> first | rfl | (simp [isQuiet] at hq; done) | exact absurd rfl (hp _ _)
theorem quiet_WO {o : O} (hq : isQuiet o = true) {s : S} {K : D → S → Prop} (h : WO X o s K) : ∃ v, (∀ K' : D → S → Prop, K' v s → WO X o s K') ∧ K v s := by
  cases o with
  | pcall f xs =>
    change pcallK X (xs.map s.ev) K s (s.ev f) at h
    have key : ∀ d, pcallK X (xs.map s.ev) K s d → ∃ v, (∀ K' : D → S → Prop, K' v s → pcallK X (xs.map s.ev) K' s d) ∧ K v s := by
      intro d hd
      cases d <;> simp only [pcallK] at hd ⊢ <;> first | exact hd.elim | skip
      obtain ⟨r, h1, h2⟩ := hd
      exact ⟨r, fun K' hk => ⟨r, h1, hk⟩, h2⟩
    exact key _ h
  | _ =>
    rw [WO_q hq (fun _ _ h => by cases h)] at h
    obtain ⟨v, h1, h2⟩ := K1_ok h
    refine ⟨v, fun K' hk => ?_, h2⟩
    rw [WO_q hq (fun _ _ h => by cases h), h1]; exact hk
theorem Y.of_quiet {i : I} (hq : isQuiet i.o = true) {s : S} {K : S → Prop} (h : WI X i s K) : ∃ v, Y X i v s ∧ K (s.put i.d v) := by
  unfold WI WIk at h
  split at h
  · rename_i hg
    obtain ⟨v, h1, h2⟩ := quiet_WO hq h
    exact ⟨v, .inl ⟨hg, h1⟩, h2⟩
  · rename_i hg; exact ⟨.tup [], .inr ⟨hg, rfl⟩, h⟩
  · exact h.elim
def I.looks (i : I) : List Nat := (i.o.rds.filterMap fun | .t k => some k | .k _ => none) ++ (match i.g with | some (g, _) => [g] | none => [])
theorem ev_put {s : S} {d : Option Nat} {v : D} {r : Rd} (h : ∀ k, d = some k → r ≠ .t k) : (s.put d v).ev r = s.ev r := by
  cases d with
  | none => rfl
  | some k =>
    cases r with
    | k d => rfl
    | t i =>
      have : i ≠ k := fun e => h k rfl (by rw [e])
      show upd s.t k v i = s.t i
      simp [upd, this]
theorem gd_put {s : S} {d : Option Nat} {v : D} {i : I} (h : ∀ k, d = some k → k ∉ i.looks) : gd (s.put d v) i.g = gd s i.g := by
  cases d with
  | none => rfl
  | some k =>
    unfold gd
    cases hg : i.g with
    | none => rfl
    | some p =>
      obtain ⟨g, w⟩ := p
      have : g ≠ k := fun e => h k rfl (by simp [I.looks, hg, e])
      have e : upd s.t k v g = s.t g := by simp [upd, this]
      show (match upd s.t k v g with | .bool b => some (b == w) | .tup [] => some false | _ => none) = _
      rw [e]
      rfl
theorem rds_put {s : S} {d : Option Nat} {v : D} {i : I} (h : ∀ k, d = some k → k ∉ i.looks) : ∀ r ∈ i.o.rds, (s.put d v).ev r = s.ev r := by
  intro r hr
  refine ev_put fun k hk e => h k hk ?_
  subst e
  exact List.mem_append_left _ (List.mem_filterMap.2 ⟨.t k, hr, rfl⟩)
theorem put_H (s : S) (d : Option Nat) (v : D) : (s.put d v).H = s.H ∧ (s.put d v).T = s.T := by cases d <;> exact ⟨rfl, rfl⟩
theorem put_comm {s : S} {d e : Option Nat} {u v : D} (h : ∀ k, d = some k → e ≠ some k) : (s.put d u).put e v = (s.put e v).put d u := by
  cases d with
  | none => rfl
  | some k =>
    cases e with
    | none => rfl
    | some m =>
      have : k ≠ m := fun e' => h k rfl (by rw [e'])
      show S.mk (upd (upd s.t k u) m v) _ _ = S.mk (upd (upd s.t m v) k u) _ _
      congr 1
      funext x
      simp only [upd]
      split
      · rename_i e1; rw [if_neg (by omega)]
      · rfl
theorem Y.at {i : I} {v : D} {s s' : S} (hX : Mono X) (h : Y X i v s) (hH : s'.H = s.H) (hT : s'.T = s.T) (hg : gd s' i.g = gd s i.g) (hev : ∀ r ∈ i.o.rds, s'.ev r = s.ev r) : Y X i v s' := by
  rcases h with ⟨h1, h2⟩ | ⟨h1, h2⟩
  · refine .inl ⟨by rw [hg]; exact h1, fun K' hk => ?_⟩
    refine WO_imp hX (s := s) hH hT hev (K := fun u z => u = v ∧ z = s) ?_ (h2 _ ⟨rfl, rfl⟩)
    rintro u H T ⟨rfl, e⟩
    have e1 : H = s.H := congrArg S.H e
    have e2 : T = s.T := congrArg S.T e
    have : (⟨s'.t, H, T⟩ : S) = s' := by
      rw [e1, e2, ← hH, ← hT]
    rw [this]; exact hk
  · exact .inr ⟨by rw [hg]; exact h1, h2⟩
theorem WI_put {i : I} {d : Option Nat} {v : D} {s : S} (hX : Mono X) (h1 : ∀ k, d = some k → k ∉ i.looks) (h2 : ∀ k, d = some k → i.d ≠ some k) {K : S → Prop} (h : WI X i (s.put d v) K) : WI X i s (fun s' => K (s'.put d v)) := by
  unfold WI WIk at *
  rw [gd_put h1] at h
  split
  · rename_i hg
    rw [hg] at h
    refine WO_imp hX (s := s.put d v) (put_H s d v).1.symm (put_H s d v).2.symm (fun r hr => (rds_put h1 r hr).symm) ?_ h
    intro u H T hk
    have e : (⟨(s.put d v).t, H, T⟩ : S).put i.d u = ((⟨s.t, H, T⟩ : S).put i.d u).put d v := by
      rw [← put_comm h2]
      congr 1
      cases d <;> rfl
    show K (((⟨s.t, H, T⟩ : S).put i.d u).put d v)
    rw [← e]; exact hk
  · rename_i hg
    rw [hg] at h
    show K ((s.put i.d (.tup [])).put d v)
    rw [← put_comm h2]; exact h
  · rename_i hg
    rw [hg] at h; exact h
theorem qv_at {o : O} {s s' : S} (hH : isHdep o = true → s'.H = s.H) (hev : ∀ r ∈ o.rds, s'.ev r = s.ev r) : qv s' o = qv s o := by
  have key : ∀ z : S, z.H = s.H → (∀ r ∈ o.rds, z.ev r = s.ev r) → qv z o = qv s o := by
    intro z hz hzev
    have h1 : ∀ (v : D) (K : D → S → Prop), qv s o = some v → True := fun _ _ _ => trivial
    have fwd : ∀ v, qv s o = some v → qv z o = some v := by
      intro v hv
      by_cases hq : isQuiet o = true ∧ ∀ f xs, o ≠ .pcall f xs
      · have := WO_imp (X := fun _ _ _ _ _ => False) (X' := fun _ _ _ _ _ => False) (fun _ _ _ _ _ _ _ h => h) (o := o) (s := ⟨s.t, s.H, z.T⟩) (s' := z) hz rfl hzev (K := fun u _ => u = v) (K' := fun u _ => u = v) (fun _ _ _ h => h)
          (by rw [WO_q hq.1 hq.2]; show K1 _ _ (qv s o); rw [hv]; rfl)
        rw [WO_q hq.1 hq.2] at this
        obtain ⟨d, h1, h2⟩ := K1_ok this
        rw [h1, h2]
      · cases o <;> first | (simp [qv] at hv; done) | (exact absurd ⟨rfl, fun _ _ h => by cases h⟩ hq)
    have bwd : ∀ v, qv z o = some v → qv s o = some v := by
      intro v hv
      by_cases hq : isQuiet o = true ∧ ∀ f xs, o ≠ .pcall f xs
      · have := WO_imp (X := fun _ _ _ _ _ => False) (X' := fun _ _ _ _ _ => False) (fun _ _ _ _ _ _ _ h => h) (o := o) (s := ⟨z.t, z.H, s.T⟩) (s' := s) hz.symm rfl (fun r hr => (hzev r hr).symm) (K := fun u _ => u = v) (K' := fun u _ => u = v) (fun _ _ _ h => h)
          (by rw [WO_q hq.1 hq.2]; show K1 _ _ (qv z o); rw [hv]; rfl)
        rw [WO_q hq.1 hq.2] at this
        obtain ⟨d, h1, h2⟩ := K1_ok this
        rw [h1, h2]
      · cases o <;> first | (simp [qv] at hv; done) | (exact absurd ⟨rfl, fun _ _ h => by cases h⟩ hq)
    cases h : qv s o with
    | none =>
      cases h' : qv z o with
      | none => rfl
      | some v => rw [bwd v h'] at h; cases h
    | some v => exact fwd v h
  by_cases hd : isHdep o = true
  · exact key s' (hH hd) hev
  · have e1 : qv s' o = qv ⟨s'.t, s.H, s'.T⟩ o := by
      cases o <;> first | rfl | (simp [isHdep] at hd; done)
    rw [e1]
    exact key ⟨s'.t, s.H, s'.T⟩ rfl hev
theorem Y.atq {i : I} (hq : isQuiet i.o = true) {v : D} {s s' : S} (h : Y X i v s) (hH : isHdep i.o = true → s'.H = s.H) (hg : gd s' i.g = gd s i.g) (hev : ∀ r ∈ i.o.rds, s'.ev r = s.ev r) : Y X i v s' := by
  rcases h with ⟨h1, h2⟩ | ⟨h1, h2⟩
  · refine .inl ⟨by rw [hg]; exact h1, fun K' hk => ?_⟩
    by_cases hp : ∀ f xs, i.o ≠ .pcall f xs
    · have := h2 (fun u _ => u = v) rfl
      rw [WO_q hq hp] at this ⊢
      rw [qv_at hH hev]
      obtain ⟨d, e1, e2⟩ := K1_ok this
      rw [e1, e2]; exact hk
    · cases ho : i.o with
      | pcall f xs =>
        rw [ho] at h2 hH hev
        have := h2 (fun u _ => u = v) rfl
        change pcallK X (xs.map s.ev) (fun u _ => u = v) s (s.ev f) at this
        show pcallK X (xs.map s'.ev) K' s' (s'.ev f)
        rw [hev f (by simp [O.rds]), map_ev (s := s) (s' := s') (xs := xs) (fun r hr => hev r (by simp [O.rds, hr]))]
        refine pcallK_imp (s := s) (fun _ _ _ _ _ h => h) (hH rfl) (K := fun u _ => u = v) (fun u hu => ?_) this
        subst hu; exact hk
      | _ => exact absurd (fun f xs h => by rw [ho] at h; cases h) hp
  · exact .inr ⟨by rw [hg]; exact h1, h2⟩
theorem ents_fill {H : Hp} {k : Nat} {b u : Ob} (hb : b.blank = true) (hk : H[k]? = some b) {d : D} {es : List (D × D × Nat)} (h : entsD H d = some es) : entsD (H.set k u) d = some es := by
  unfold entsD at h ⊢
  split at h
  · exact h
  · rename_i o
    split at h
    · rename_i es' clk ho
      have e : k ≠ o := fun e => by
        subst e; rw [hk] at ho; injection ho with ho; subst ho; cases hb
      rw [List.getElem?_set_ne e, ho]; exact h
    · cases h
  · cases h
theorem ent_fill {H : Hp} {k : Nat} {b u : Ob} (hb : b.blank = true) (hk : H[k]? = some b) {d e : D} (h : entD H d = some e) : entD (H.set k u) d = some e := by
  have ne : ∀ (o : Nat) (x : Ob), H[o]? = some x → x.blank = false → (H.set k u)[o]? = some x := fun o x ho hx => by
    rw [List.getElem?_set_ne (fun e => by subst e; rw [hk] at ho; injection ho with ho; subst ho; rw [hb] at hx; cases hx), ho]
  unfold entD at h ⊢
  split at h
  · rename_i o
    split at h
    · rename_i m sn se la ho
      rw [ne o _ ho rfl]
      simp only
      split at h
      · rename_i es clk b' hm hb'
        rw [ne m _ hm rfl, hb']
        exact h
      · cases h
    · cases h
  · cases h
theorem Y.fill {i : I} (hq : isQuiet i.o = true) {v : D} {s : S} (h : Y X i v s) {k : Nat} {b u : Ob} (hb : b.blank = true) (hk : s.H[k]? = some b) : Y X i v ⟨s.t, s.H.set k u, s.T⟩ := by
  have hle : Hle s.H (s.H.set k u) := by
    intro o x hx h1
    by_cases e : k = o
    · subst e; rw [hk] at hx; injection hx with hx; subst hx; rw [hb] at h1; cases h1
    · rw [List.getElem?_set_ne e]; exact hx
  have hrd : ∀ off, rdAt s.H (.ptr k off) = none := fun off => by
    simp only [rdAt, hk]
    cases b <;> simp [Ob.blank] at hb <;> rfl
  rcases h with ⟨h1, h2⟩ | ⟨h1, h2⟩
  · refine .inl ⟨h1, fun K' hk' => ?_⟩
    by_cases hp : ∀ f xs, i.o ≠ .pcall f xs
    · have := h2 (fun u _ => u = v) rfl
      rw [WO_q hq hp] at this ⊢
      obtain ⟨d, e1, e2⟩ := K1_ok this
      subst e2
      have : qv ⟨s.t, s.H.set k u, s.T⟩ i.o = some d := by
        by_cases hd : isHdep i.o = true
        · cases ho : i.o with
          | load ag n x =>
            rw [ho] at e1
            simp only [qv] at e1 ⊢
            have hev : (⟨s.t, s.H.set k u, s.T⟩ : S).ev x = s.ev x := by cases x <;> rfl
            rw [hev]
            rw [← e1]
            congr 1
            cases hx : s.ev x with
            | ptr o off =>
              rw [hx] at e1
              simp only [rdAt]
              by_cases e : k = o
              · subst e; rw [hrd] at e1; simp [ld] at e1
              · rw [List.getElem?_set_ne e]
            | _ => rfl
          | mlen x =>
            rw [ho] at e1
            simp only [qv] at e1 ⊢
            have hev : (⟨s.t, s.H.set k u, s.T⟩ : S).ev x = s.ev x := by cases x <;> rfl
            rw [hev]
            cases hes : entsD s.H (s.ev x) with
            | none => rw [hes] at e1; cases e1
            | some es => rw [ents_fill hb hk hes, ← hes]; exact e1
          | mget ks zv ok x y =>
            rw [ho] at e1
            simp only [qv] at e1 ⊢
            have hev : ∀ r, (⟨s.t, s.H.set k u, s.T⟩ : S).ev r = s.ev r := fun r => by cases r <;> rfl
            rw [hev, hev]
            cases hes : entsD s.H (s.ev x) with
            | none =>
              have : mgetD s.H ks zv ok (s.ev x) (s.ev y) = none := by
                unfold mgetD; split
                · rw [hes]
                · rfl
              rw [this] at e1; split at e1 <;> cases e1
            | some es =>
              have : mgetD (s.H.set k u) ks zv ok (s.ev x) (s.ev y) = mgetD s.H ks zv ok (s.ev x) (s.ev y) := by
                unfold mgetD; rw [ents_fill hb hk hes, hes]
              rw [this]; exact e1
          | ent x =>
            rw [ho] at e1
            simp only [qv] at e1 ⊢
            have hev : (⟨s.t, s.H.set k u, s.T⟩ : S).ev x = s.ev x := by cases x <;> rfl
            rw [hev]
            exact ent_fill hb hk e1
          | pcall f xs => exact absurd ho (hp f xs)
          | _ => rw [ho] at hd; simp [isHdep] at hd
        · rw [qv_at (s := s) (fun h => absurd h hd) (fun r _ => by cases r <;> rfl)]; exact e1
      rw [this]; exact hk'
    · cases ho : i.o with
      | pcall f xs =>
        rw [ho] at h2
        have := h2 (fun u _ => u = v) rfl
        change pcallK X (xs.map s.ev) (fun u _ => u = v) s (s.ev f) at this
        have hevx : ∀ r, (⟨s.t, s.H.set k u, s.T⟩ : S).ev r = s.ev r := fun r => by cases r <;> rfl
        show pcallK X (xs.map (⟨s.t, s.H.set k u, s.T⟩ : S).ev) K' _ ((⟨s.t, s.H.set k u, s.T⟩ : S).ev f)
        rw [hevx f, map_ev (s := s) (fun r _ => hevx r)]
        have key : ∀ d, pcallK X (xs.map s.ev) (fun u _ => u = v) s d → pcallK X (xs.map s.ev) K' ⟨s.t, s.H.set k u, s.T⟩ d := by
          intro d hd
          cases d <;> simp only [pcallK] at hd ⊢ <;> first | exact hd.elim | skip
          obtain ⟨r, p1, p2⟩ := hd
          subst p2
          exact ⟨r, fun H' T' Q a b => p1 H' T' Q (fun o x a1 a2 => a o x (hle o x a1 a2) a2) b, hk'⟩
        exact key _ this
      | _ => exact absurd (fun f xs h => by rw [ho] at h; cases h) hp
  · exact .inr ⟨h1, h2⟩
def ready (ops : Array Oper) (listed : Array Bool) : List Nat := Region.ready .any ops listed
def stillB (X : Pred) (sl : Nat → I) (st : List Nat) (listed : Array Bool) (s : S) : Prop := ∀ i ∈ st, listed.getD i false = true → still X (sl i) s
def WAny (X : Pred) (ops : Array Oper) (sl : Nat → I) (st : Nat → List Nat) (R : S → Prop) : Nat → Array Bool → S → Prop
  | 0, listed, s => ready ops listed = [] ∧ R s
  | fuel + 1, listed, s => (ready ops listed = [] → R s) ∧ ∀ j ∈ ready ops listed, WI X (sl j) s (fun s' => stillB X sl (st j) listed s' ∧ WAny X ops sl st R fuel (listed.setIfInBounds j true) s')
end GP
namespace GP
open Go
variable {P : Program} {X : Pred} {ops : Array Oper} {sl : Nat → I} {st : Nat → List Nat} {R : S → Prop}
def atOf : I → Option Nat
  | ⟨_, none, .allocAt j _⟩ | ⟨_, none, .boxAt j _⟩ | ⟨_, none, .rawAt j _⟩ | ⟨_, none, .fillAt j _ _ _⟩ => some j
  | _ => none
def tOnly : O → Bool
  | .bsl _ _ | .s2b _ | .app _ _ _ _ _ => true
  | _ => false
def apartI (x y : I) : Bool :=
  (match x.d with | some d => !y.looks.contains d && y.d != some d | none => true) && (match y.d with | some d => !x.looks.contains d | none => true)
theorem apartI_spec {x y : I} (h : apartI x y = true) : (∀ d, x.d = some d → d ∉ y.looks) ∧ (∀ d, x.d = some d → y.d ≠ some d) ∧ (∀ d, y.d = some d → d ∉ x.looks) := by
  unfold apartI at h
  rw [Bool.and_eq_true] at h
  refine ⟨fun d hd => ?_, fun d hd => ?_, fun d hd => ?_⟩
  · rw [hd] at h; simp at h; exact h.1.1
  · rw [hd] at h; simp at h; exact h.1.2
  · rw [hd] at h; simp at h; exact h.2
def offI (x y : I) : Bool := match x.d with | some d => !y.looks.contains d && y.d != some d | none => true
def okQ (S : Array Bool) (sl : Nat → I) (st : Nat → List Nat) (i j : Nat) : Bool :=
  apartI (sl i) (sl j) &&
  (isQuiet (sl j).o || (atOf (sl j)).isSome ||
    (tOnly (sl j).o || !isHdep (sl i).o || ((st j).contains i && (match (sl i).d with | some d => !(sl i).looks.contains d | none => false)))) &&
  (st j).all (fun k => k == i || offI (sl i) (sl k) || !S.getD k false)
def okA (sl : Nat → I) (st : Nat → List Nat) (i j : Nat) : Bool :=
  apartI (sl i) (sl j) && (atOf (sl j)).isSome && (atOf (sl j) != atOf (sl i)) && (st j).isEmpty
def ahead (ops : Array Oper) (i : Nat) : Nat → Array Bool → Array Bool
  | 0, S => S
  | f + 1, S => match (ready ops S).filter (· != i) with
    | [] => S
    | l => ahead ops i f (l.foldl (fun S j => S.setIfInBounds j true) S)
def closed (ops : Array Oper) (i : Nat) (listed S : Array Bool) : Bool :=
  (ready ops S).all (· == i) && (List.range listed.size).all (fun k => !listed.getD k false || S.getD k false) && !S.getD i true && (S.size == listed.size)
def chk (ops : Array Oper) (sl : Nat → I) (st : Nat → List Nat) : List Nat → Array Bool → Bool
  | [], listed => (ready ops listed).isEmpty
  | i :: rest, listed =>
    (ready ops listed).contains i && chk ops sl st rest (listed.setIfInBounds i true) &&
    (if isQuiet (sl i).o then
      let S := ahead ops i ops.size listed
      closed ops i listed S && (st i).isEmpty && (List.range listed.size).all fun j => !S.getD j false || listed.getD j false || okQ S sl st i j
    else match atOf (sl i) with
      | some _ =>
        let S := ahead ops i ops.size listed
        closed ops i listed S && (st i).isEmpty && (List.range listed.size).all fun j => !S.getD j false || listed.getD j false || okA sl st i j
      | none => ready ops listed == [i])
def Within (listed S : Array Bool) : Prop := listed.size = S.size ∧ ∀ k, listed.getD k false = true → S.getD k false = true
theorem closed_within {i : Nat} {listed S : Array Bool} (h : closed ops i listed S = true) : Within listed S ∧ S.getD i true = false ∧ ∀ k ∈ ready ops S, k = i := by
  unfold closed at h
  simp only [Bool.and_eq_true, beq_iff_eq, Bool.not_eq_true', List.all_eq_true] at h
  obtain ⟨⟨⟨h1, h2⟩, h3⟩, h4⟩ := h
  refine ⟨⟨h4.symm, fun k hk => ?_⟩, h3, fun k hk => by simpa using h1 k hk⟩
  have hlt : k < listed.size := by
    rcases Nat.lt_or_ge k listed.size with h' | h'
    · exact h'
    · simp [Array.getElem?_eq_none h'] at hk
  have := h2 k (by simpa using hlt)
  simpa [hk] using this
theorem within_ready {i : Nat} {listed S : Array Bool} (hw : Within listed S) (hc : ∀ k ∈ ready ops S, k = i) {j : Nat} (hj : j ∈ ready ops listed) (hne : j ≠ i) : S.getD j false = true := by
  unfold ready at hj hc
  rw [mem_ready] at hj
  obtain ⟨h0, o, ho, hall⟩ := hj
  cases hS : S.getD j false with
  | true => rfl
  | false =>
    exfalso
    refine hne (hc j (mem_ready.2 ⟨?_, o, ho, fun e he hb => hw.2 _ (hall e he hb)⟩))
    have hlt : j < listed.size := by
      rcases Nat.lt_or_ge j listed.size with h' | h'
      · exact h'
      · simp [Array.getElem?_eq_none h'] at h0
    have hlt' : j < S.size := by rw [← hw.1]; exact hlt
    simpa [Array.getElem?_eq_getElem hlt'] using hS
theorem within_set {listed S : Array Bool} (hw : Within listed S) {j : Nat} (hj : S.getD j false = true) : Within (listed.setIfInBounds j true) S := by
  refine ⟨by simp [hw.1], fun k hk => ?_⟩
  by_cases e : j = k
  · subst e; exact hj
  · rw [getD_set_ne false e] at hk; exact hw.2 k hk
theorem ready_lt {listed : Array Bool} {j : Nat} (hj : j ∈ ready ops listed) : j < ops.size ∧ listed.getD j true = false := by
  unfold ready at hj
  rw [mem_ready] at hj
  obtain ⟨h0, o, ho, _⟩ := hj
  refine ⟨?_, h0⟩
  rcases Nat.lt_or_ge j ops.size with h' | h'
  · exact h'
  · simp [Array.getElem?_eq_none h'] at ho
theorem getD_false_of_true {listed : Array Bool} {j : Nat} (h : listed.getD j true = false) : listed.getD j false = false := by
  rcases Nat.lt_or_ge j listed.size with h' | h'
  · simpa [Array.getElem?_eq_getElem h'] using h
  · simp [Array.getElem?_eq_none h'] at h
theorem stillB_put {S : Array Bool} {j : Nat} {listed : Array Bool} {i : Nat} {v : D} (hX : Mono X) (hun : listed.getD i true = false) (hw : Within listed S) (h : (st j).all (fun k => k == i || offI (sl i) (sl k) || !S.getD k false) = true) {s : GP.S}
    (hs : stillB X sl (st j) (listed.setIfInBounds i true) (s.put (sl i).d v)) : stillB X sl (st j) listed s := by
  intro k hk hl
  have hki : k ≠ i := fun e => by subst e; rw [getD_false_of_true hun] at hl; cases hl
  have h1 := hs k hk (by rw [getD_set_ne false (Ne.symm hki)]; exact hl)
  have h2 := List.all_eq_true.1 h k hk
  rw [hw.2 k hl, Bool.not_true, Bool.or_false] at h2
  simp only [Bool.or_eq_true, beq_iff_eq] at h2
  have h3 := h2.resolve_left hki
  have hoff : (∀ d, (sl i).d = some d → d ∉ (sl k).looks) ∧ (∀ d, (sl i).d = some d → (sl k).d ≠ some d) := by
    unfold offI at h3
    refine ⟨fun d hd => ?_, fun d hd => ?_⟩ <;> rw [hd] at h3 <;> simp at h3
    · exact h3.1
    · exact h3.2
  unfold still at h1 ⊢
  rw [gd_put hoff.1] at h1
  split
  · rename_i d hg hd
    rw [hg, hd] at h1
    simp only at h1
    have e : (s.put (sl i).d v).t d = s.t d := by
      cases hdi : (sl i).d with
      | none => rfl
      | some di =>
        have : d ≠ di := fun e => hoff.2 di hdi (by rw [hd, e])
        show upd s.t di v d = s.t d
        simp [upd, this]
    rw [e] at h1
    refine WO_imp hX (s := s.put (sl i).d v) (put_H _ _ _).1.symm (put_H _ _ _).2.symm (fun r hr => (rds_put hoff.1 r hr).symm) (fun u H T hu => hu) h1
  · trivial
theorem WO_eff {o : O} (ht : tOnly o = true) {s : S} {K : D → S → Prop} (h : WO X o s K) : WO X o s (fun u s' => K u s' ∧ s'.H = s.H) := by
  cases o <;> simp [tOnly] at ht
  · exact ⟨h.1, h.2, rfl⟩
  · rename_i x
    change s2bK K s (s.ev x) at h
    show s2bK (fun u s' => K u s' ∧ s'.H = s.H) s (s.ev x)
    cases hx : s.ev x <;> rw [hx] at h <;> simp only [s2bK] at h ⊢ <;> first | exact h | exact ⟨h, rfl⟩ | exact ⟨h, trivial⟩
  · rename_i str sz bytes x y
    change appK sz bytes K s (s.ev x) (appSrc str (s.ev y)) at h
    show appK sz bytes (fun u s' => K u s' ∧ s'.H = s.H) s (s.ev x) (appSrc str (s.ev y))
    cases hy : appSrc str (s.ev y) with
    | none => rw [hy] at h; exact h
    | some ys =>
      rw [hy] at h
      refine ⟨h.1, ?_⟩
      have h2 := h.2
      cases hx : s.ev x with
      | nils =>
        rw [hx] at h2
        simp only at h2 ⊢
        split
        · rename_i e; rw [if_pos e] at h2; first | exact ⟨h2, rfl⟩ | exact ⟨h2, trivial⟩
        · rename_i e; rw [if_neg e] at h2; first | exact ⟨h2.1, h2.2.1, h2.2.2, rfl⟩ | exact ⟨h2.1, h2.2.1, h2.2.2, trivial⟩
      | e0 =>
        rw [hx] at h2
        simp only at h2 ⊢
        split
        · rename_i e; rw [if_pos e] at h2; first | exact ⟨h2, rfl⟩ | exact ⟨h2, trivial⟩
        · rename_i e; rw [if_neg e] at h2; first | exact ⟨h2.1, h2.2.1, h2.2.2, rfl⟩ | exact ⟨h2.1, h2.2.1, h2.2.2, trivial⟩
      | sl t xs =>
        rw [hx] at h2
        cases t with
        | none => exact h2
        | some t => first | exact ⟨h2.1, h2.2.1, h2.2.2.1, h2.2.2.2.1, h2.2.2.2.2, rfl⟩ | exact ⟨h2.1, h2.2.1, h2.2.2.1, h2.2.2.2.1, h2.2.2.2.2, trivial⟩
      | _ => rw [hx] at h2; exact h2
def isPl : O → Bool
  | .rawAt _ _ | .fillAt _ _ _ _ => true
  | _ => false
theorem WO_at {o : O} {j : Nat} {i : I} (hi : i.o = o) (ha : atOf i = some j) {s : S} {K : D → S → Prop} (h : WO X o s K) :
    ∃ (b u : Ob) (r : D), b.blank = true ∧ (isPl o = true → j ≤ s.H.length) ∧ (isPl o = false → b = .hole) ∧ (u.blank = true → isPl o = true) ∧ u ≠ .hole ∧ s.H[s.H.length - j]? = some b ∧ K r ⟨s.t, s.H.set (s.H.length - j) u, s.T⟩ ∧
      ∀ s' : S, s'.H.length = s.H.length → s'.H[s.H.length - j]? = some b → (∀ r ∈ o.rds, s'.ev r = s.ev r) → ∀ K' : D → S → Prop, K' r ⟨s'.t, s'.H.set (s.H.length - j) u, s'.T⟩ → WO X o s' K' := by
  obtain ⟨d, g, oo⟩ := i
  simp only at hi
  subst hi
  cases g with
  | some p => cases oo <;> simp [atOf] at ha
  | none =>
    cases oo <;> simp [atOf] at ha
    · rename_i j' z
      subst ha
      change atK K s (s.H.length - j') z s.H[s.H.length - j']? at h
      obtain ⟨h1, h2⟩ := atK_ok h
      refine ⟨.hole, .row z, _, rfl, fun h => (by cases h), fun _ => rfl, fun h => (by cases h), (by simp), h1, h2, fun s' hl hh _ K' hk => ?_⟩
      show atK K' s' (s'.H.length - j') z s'.H[s'.H.length - j']?
      rw [hl, hh]; exact hk
    · rename_i j' z
      subst ha
      obtain ⟨h0, h⟩ := h
      obtain ⟨h1, h2⟩ := rawK_ok h
      refine ⟨.hole, .raw z, _, rfl, fun _ => h0, fun h => (by cases h), fun _ => rfl, (by simp), h1, h2, fun s' hl hh _ K' hk => ?_⟩
      show _ ∧ rawK K' s' (s'.H.length - j') z s'.H[s'.H.length - j']?
      rw [hl, hh]; exact ⟨h0, hk⟩
    · rename_i j' n x y
      subst ha
      obtain ⟨h0, h⟩ := h
      obtain ⟨z, h1, q1, q2, q3, q4, h2⟩ := fillK_ok h
      refine ⟨.raw z, .row (s.ev y).cells, _, rfl, fun _ => h0, fun h => (by cases h), fun h => (by cases h), (by simp), h1, h2, fun s' hl hh hev K' hk => ?_⟩
      have e1 := hev x (by simp [O.rds])
      have e2 := hev y (by simp [O.rds])
      show _ ∧ fillK K' s' (s'.H.length - j') n (s'.ev x) (s'.ev y) s'.H[s'.H.length - j']?
      rw [hl, hh, e1, e2]; exact ⟨h0, q1, q2, q3, q4, hk⟩
    · rename_i j' x
      subst ha
      obtain ⟨hk0, h⟩ := h
      obtain ⟨h1, h2⟩ := atK_ok h
      refine ⟨.hole, .row (s.ev x).cells, _, rfl, fun h => (by cases h), fun _ => rfl, fun h => (by cases h), (by simp), h1, h2, fun s' hl hh hev K' hk => ?_⟩
      have e := hev x (by simp [O.rds])
      show _ ∧ atK K' s' (s'.H.length - j') (s'.ev x).cells s'.H[s'.H.length - j']?
      rw [hl, hh, e]; exact ⟨hk0, hk⟩
theorem gd_at {i : I} {j : Nat} (ha : atOf i = some j) (s : S) : gd s i.g = some true := by
  obtain ⟨d, g, oo⟩ := i
  cases g with
  | some p => cases oo <;> simp [atOf] at ha
  | none => rfl
theorem WI_form {i : I} {s : S} {K K' : S → Prop} (hX : Mono X) (h : WI X i s K) (hk : ∀ u H T, K ((⟨s.t, H, T⟩ : S).put i.d u) → K' ((⟨s.t, H, T⟩ : S).put i.d u)) : WI X i s K' := by
  unfold WI WIk at *
  split
  · rename_i hg; rw [hg] at h; exact WO_imp hX rfl rfl (fun _ _ => rfl) (fun u H T h => hk u H T h) h
  · rename_i hg; rw [hg] at h; exact hk (.tup []) s.H s.T h
  · rename_i hg; rw [hg] at h; exact h
theorem first_quiet (hX : Mono X) {i : Nat} {v : D} (hq : isQuiet (sl i).o = true) {S : Array Bool} (hclosed : ∀ k ∈ ready ops S, k = i) (hSi : S.getD i true = false) : ∀ (fuel : Nat) (listed : Array Bool) (s : GP.S),
    Within listed S → (∀ j, S.getD j false = true → listed.getD j false = false → okQ S sl st i j = true) → i ∈ ready ops listed → Y X (sl i) v s → (st i) = [] →
    WAny X ops sl st R fuel (listed.setIfInBounds i true) (s.put (sl i).d v) → WAny X ops sl st R (fuel + 1) listed s := by
  intro fuel
  induction fuel with
  | zero =>
    intro listed s hw hok hr hy hst H
    refine ⟨fun h => (by rw [h] at hr; cases hr), fun j hj => ?_⟩
    by_cases hji : j = i
    · subst hji
      refine hy.wi ⟨?_, H⟩
      rw [hst]; intro k hk; cases hk
    · have := ready_mono (md := .any) hj hji
      have h0 := H.1
      unfold ready at h0
      rw [h0] at this
      cases this
  | succ fuel ih =>
    intro listed s hw hok hr hy hst H
    refine ⟨fun h => (by rw [h] at hr; cases hr), fun j hj => ?_⟩
    by_cases hji : j = i
    · subst hji
      refine hy.wi ⟨?_, H⟩
      rw [hst]; intro k hk; cases hk
    · have hSj := within_ready hw hclosed hj hji
      have hjun := (ready_lt hj).2
      have hokj := hok j hSj (getD_false_of_true hjun)
      unfold okQ at hokj
      simp only [Bool.and_eq_true] at hokj
      obtain ⟨⟨hap, hcase⟩, hst'⟩ := hokj
      obtain ⟨a1, a2, a3⟩ := apartI_spec hap
      have hj' : j ∈ ready ops (listed.setIfInBounds i true) := ready_mono (md := .any) hj hji
      have h1 := WI_put hX a1 a2 (H.2 j hj')
      have hiun := (ready_lt hr).2
      -- what goes on behind j
      have next : ∀ s' : GP.S, Y X (sl i) v s' → stillB X sl (st j) (listed.setIfInBounds i true) (s'.put (sl i).d v) ∧ WAny X ops sl st R fuel ((listed.setIfInBounds i true).setIfInBounds j true) (s'.put (sl i).d v) →
          stillB X sl (st j) listed s' ∧ WAny X ops sl st R (fuel + 1) (listed.setIfInBounds j true) s' := by
        intro s' hy' hh
        refine ⟨stillB_put hX hiun hw hst' hh.1, ih _ s' (within_set hw hSj) ?_ (ready_mono (md := .any) hr (Ne.symm hji)) hy' hst ?_⟩
        · intro k hk hl
          refine hok k hk ?_
          by_cases e : j = k
          · subst e; exact getD_false_of_true hjun
          · rwa [getD_set_ne false e] at hl
        · rw [Array.setIfInBounds_comm _ _ hji]; exact hh.2
      -- i yields v behind j
      have same : ∀ (u : D) (H' : Hp) (T' : Tk), (isHdep (sl i).o = true → H' = s.H) → Y X (sl i) v ((⟨s.t, H', T'⟩ : GP.S).put (sl j).d u) := by
        intro u H' T' hH
        refine hy.atq hq (fun h => by rw [(put_H _ _ _).1]; exact hH h) ?_ ?_
        · rw [gd_put a3]; rfl
        · intro r hr'
          rw [rds_put a3 r hr']
          cases r <;> rfl
      simp only [Bool.or_eq_true] at hcase
      rcases hcase with (hqj | hat) | heff
      · obtain ⟨u, hu1, hu2⟩ := Y.of_quiet hqj h1
        exact hu1.wi (next _ (same u s.H s.T (fun _ => rfl)) hu2)
      · obtain ⟨m, hat⟩ := Option.isSome_iff_exists.1 hat
        unfold WI WIk at h1 ⊢
        rw [gd_at hat] at h1 ⊢
        obtain ⟨b, z, r0, gb, _, _, _, _, g1, g2, g3⟩ := WO_at rfl hat h1
        refine g3 s rfl g1 (fun _ _ => rfl) _ ?_
        refine next _ ?_ g2
        have := (hy.fill hq (u := z) gb g1)
        refine Y.atq hq this (fun _ => by rw [(put_H _ _ _).1]) ?_ ?_
        · rw [gd_put a3]
        · intro r hr'; rw [rds_put a3 r hr']
      · rcases heff with (ht | hnd) | hstj
        · unfold WI WIk at h1 ⊢
          split at h1
          · have h2 := WO_eff ht h1
            refine WO_imp hX rfl rfl (fun _ _ => rfl) (fun u H' T' hh => ?_) h2
            exact next _ (same u H' T' (fun _ => hh.2)) hh.1
          · exact next _ (same _ s.H s.T (fun _ => rfl)) h1
          · exact h1.elim
        · refine WI_form hX h1 (fun u H' T' hh => next _ (same u H' T' (fun h => by rw [h] at hnd; cases hnd)) hh)
        · rw [Bool.and_eq_true] at hstj
          obtain ⟨hmem, hself⟩ := hstj
          refine WI_form hX h1 (fun u H' T' hh => next _ ?_ hh)
          have hi' : i ∈ st j := by simpa using hmem
          have hbs : (listed.setIfInBounds i true).getD i false = true := by
            have hlt : i < listed.size := by
              rcases Nat.lt_or_ge i listed.size with h' | h'
              · exact h'
              · simp [Array.getElem?_eq_none h'] at hiun
            simp [hlt]
          have hstill := hh.1 i hi' hbs
          cases hdi : (sl i).d with
          | none => rw [hdi] at hself; cases hself
          | some di =>
            rw [hdi] at hself
            have hself : di ∉ (sl i).looks := by simpa using hself
            have hself' : ∀ k, some di = some k → k ∉ (sl i).looks := fun k hk => by injection hk with hk; subst hk; exact hself
            unfold still at hstill
            rw [hdi, gd_put hself'] at hstill
            have hg0 : gd ((⟨s.t, H', T'⟩ : GP.S).put (sl j).d u) (sl i).g = gd s (sl i).g := by rw [gd_put a3]; rfl
            rw [hg0] at hstill
            rcases hy with ⟨y1, y2⟩ | ⟨y1, y2⟩
            · rw [y1] at hstill
              simp only at hstill
              have hv : (((⟨s.t, H', T'⟩ : GP.S).put (sl j).d u).put (some di) v).t di = v := by show upd _ _ _ _ = _; simp [upd]
              rw [hv] at hstill
              obtain ⟨v', w1, w2⟩ := quiet_WO hq hstill
              subst w2
              have hY : Y X (sl i) v' (((⟨s.t, H', T'⟩ : GP.S).put (sl j).d u).put (some di) v') := .inl ⟨by rw [gd_put hself', hg0]; exact y1, w1⟩
              refine hY.atq hq (fun _ => by rw [(put_H _ (some di) v').1]) (by rw [gd_put hself']) (fun r hr' => ?_)
              rw [rds_put hself' r hr']
            · exact .inr ⟨by rw [hg0]; exact y1, y2⟩
theorem first_at (hX : Mono X) {i m : Nat} (ha : atOf (sl i) = some m) {S : Array Bool} (hclosed : ∀ k ∈ ready ops S, k = i) : ∀ (fuel : Nat) (listed : Array Bool) (s : GP.S),
    Within listed S → (∀ j, S.getD j false = true → listed.getD j false = false → okA sl st i j = true) → i ∈ ready ops listed → (st i) = [] →
    WI X (sl i) s (fun s' => WAny X ops sl st R fuel (listed.setIfInBounds i true) s') → WAny X ops sl st R (fuel + 1) listed s := by
  intro fuel
  induction fuel with
  | zero =>
    intro listed s hw hok hr hst H
    refine ⟨fun h => (by rw [h] at hr; cases hr), fun j hj => ?_⟩
    by_cases hji : j = i
    · subst hji
      refine WI_mono hX (fun s' h => ⟨?_, h⟩) H
      rw [hst]; intro k hk; cases hk
    · exfalso
      have := ready_mono (md := .any) hj hji
      unfold WI WIk at H
      rw [gd_at ha] at H
      obtain ⟨b, z, r0, gb, _, _, _, _, g1, g2, g3⟩ := WO_at rfl ha H
      have h0 := g2.1
      unfold ready at h0
      rw [h0] at this
      cases this
  | succ fuel ih =>
    intro listed s hw hok hr hst H
    refine ⟨fun h => (by rw [h] at hr; cases hr), fun j hj => ?_⟩
    by_cases hji : j = i
    · subst hji
      refine WI_mono hX (fun s' h => ⟨?_, h⟩) H
      rw [hst]; intro k hk; cases hk
    · have hSj := within_ready hw hclosed hj hji
      have hjun := (ready_lt hj).2
      have hokj := hok j hSj (getD_false_of_true hjun)
      unfold okA at hokj
      simp only [Bool.and_eq_true, bne_iff_ne, ne_eq] at hokj
      obtain ⟨⟨⟨hap, hat⟩, hne⟩, hstj⟩ := hokj
      obtain ⟨a1, a2, a3⟩ := apartI_spec hap
      obtain ⟨m', hat⟩ := Option.isSome_iff_exists.1 hat
      have hmm : m' ≠ m := fun e => hne (by rw [hat, ha, e])
      have hj' : j ∈ ready ops (listed.setIfInBounds i true) := ready_mono (md := .any) hj hji
      unfold WI WIk at H
      rw [gd_at ha] at H
      obtain ⟨b, z, r0, gb, gl, gh, gn, gnh, g1, g2, g3⟩ := WO_at rfl ha H
      have h1 := g2.2 j hj'
      unfold WI WIk at h1
      rw [gd_at hat] at h1
      obtain ⟨b', z', r', kb, kl, kh, kn, knh, k1, k2, k3⟩ := WO_at rfl hat h1
      -- the places are two
      have hlen : ((⟨s.t, s.H.set (s.H.length - m) z, s.T⟩ : GP.S).put (sl i).d r0).H.length = s.H.length := by rw [(put_H _ _ _).1]; simp
      rw [hlen] at k1 k2 k3 kl
      rw [(put_H _ _ _).1] at k1
      have hpl : s.H.length - m' ≠ s.H.length - m := by
        intro e
        rw [e] at k1
        have hlt : s.H.length - m < s.H.length := by
          rcases Nat.lt_or_ge (s.H.length - m) s.H.length with h' | h'
          · exact h'
          · rw [List.getElem?_eq_none h'] at g1; cases g1
        rw [List.getElem?_set_self hlt] at k1
        injection k1 with k1
        subst k1
        have p1 := gl (gn kb)
        cases hp : isPl (sl j).o with
        | true => have := kl hp; omega
        | false =>
          exact gnh (kh hp)
      rw [List.getElem?_set_ne (Ne.symm hpl)] at k1
      unfold WI WIk
      rw [gd_at hat]
      have hev : ∀ r ∈ (sl j).o.rds, s.ev r = ((⟨s.t, s.H.set (s.H.length - m) z, s.T⟩ : GP.S).put (sl i).d r0).ev r := by
        intro r hr'
        rw [rds_put a1 r hr']
        cases r <;> rfl
      refine k3 s rfl k1 hev _ ⟨?_, ?_⟩
      · have : st j = [] := by simpa using hstj
        rw [this]; intro k hk; cases hk
      · refine ih _ _ (within_set hw hSj) ?_ (ready_mono (md := .any) hr (Ne.symm hji)) hst ?_
        · intro k hk hl
          refine hok k hk ?_
          by_cases e : j = k
          · subst e; exact getD_false_of_true hjun
          · rwa [getD_set_ne false e] at hl
        · unfold WI WIk
          rw [gd_at ha]
          have hl2 : ((⟨s.t, s.H.set (s.H.length - m') z', s.T⟩ : GP.S).put (sl j).d r').H.length = s.H.length := by rw [(put_H _ _ _).1]; simp
          have hh2 : ((⟨s.t, s.H.set (s.H.length - m') z', s.T⟩ : GP.S).put (sl j).d r').H[s.H.length - m]? = some b := by
            rw [(put_H _ _ _).1]
            show (s.H.set _ _)[_]? = _
            rw [List.getElem?_set_ne hpl]; exact g1
          refine g3 _ hl2 hh2 (fun r hr' => ?_) _ ?_
          · rw [rds_put a3 r hr']; cases r <;> rfl
          · have hfin := k2.2
            rw [Array.setIfInBounds_comm _ _ hji]
            have e : ((⟨((⟨s.t, s.H.set (s.H.length - m') z', s.T⟩ : GP.S).put (sl j).d r').t, ((⟨s.t, s.H.set (s.H.length - m') z', s.T⟩ : GP.S).put (sl j).d r').H.set (s.H.length - m) z,
                ((⟨s.t, s.H.set (s.H.length - m') z', s.T⟩ : GP.S).put (sl j).d r').T⟩ : GP.S).put (sl i).d r0) =
              ((⟨((⟨s.t, s.H.set (s.H.length - m) z, s.T⟩ : GP.S).put (sl i).d r0).t, ((⟨s.t, s.H.set (s.H.length - m) z, s.T⟩ : GP.S).put (sl i).d r0).H.set (s.H.length - m') z',
                ((⟨s.t, s.H.set (s.H.length - m) z, s.T⟩ : GP.S).put (sl i).d r0).T⟩ : GP.S).put (sl j).d r') := by
              have c1 : (s.H.set (s.H.length - m') z').set (s.H.length - m) z = (s.H.set (s.H.length - m) z).set (s.H.length - m') z' := List.set_comm _ _ hpl
              cases hdi : (sl i).d with
              | none =>
                cases hdj : (sl j).d with
                | none => show GP.S.mk s.t ((s.H.set (s.H.length - m') z').set (s.H.length - m) z) s.T = GP.S.mk s.t ((s.H.set (s.H.length - m) z).set (s.H.length - m') z') s.T; rw [c1]
                | some dj => show GP.S.mk (upd s.t dj r') ((s.H.set (s.H.length - m') z').set (s.H.length - m) z) s.T = GP.S.mk (upd s.t dj r') ((s.H.set (s.H.length - m) z).set (s.H.length - m') z') s.T; rw [c1]
              | some di =>
                cases hdj : (sl j).d with
                | none => show GP.S.mk (upd s.t di r0) ((s.H.set (s.H.length - m') z').set (s.H.length - m) z) s.T = GP.S.mk (upd s.t di r0) ((s.H.set (s.H.length - m) z).set (s.H.length - m') z') s.T; rw [c1]
                | some dj =>
                  have hdd : di ≠ dj := fun e => a2 di hdi (by rw [hdj, e])
                  show GP.S.mk (upd (upd s.t dj r') di r0) ((s.H.set (s.H.length - m') z').set (s.H.length - m) z) s.T = GP.S.mk (upd (upd s.t di r0) dj r') ((s.H.set (s.H.length - m) z).set (s.H.length - m') z') s.T
                  rw [c1]
                  congr 1
                  funext x
                  simp only [upd]
                  split
                  · rename_i e1; rw [if_neg (by omega)]
                  · rfl
            rw [e]
            exact hfin
theorem stillAll_B {ks : List Nat} {listed : Array Bool} {s : GP.S} (h : stillAll X (ks.map sl) s) : stillB X sl ks listed s := by
  induction ks with
  | nil => intro k hk; cases hk
  | cons a ks ih =>
    intro k hk hl
    simp only [List.map_cons, stillAll] at h
    rcases List.mem_cons.1 hk with e | hk
    · subst e; exact h.1
    · exact ih h.2 k hk hl
theorem chk_sound (hX : Mono X) : ∀ (ord : List Nat) (listed : Array Bool) (s : GP.S), chk ops sl st ord listed = true → Wd X (ord.map fun i => (sl i, (st i).map sl)) R s → WAny X ops sl st R ord.length listed s
  | [], listed, s, hc, h => ⟨by simpa [chk] using hc, h⟩
  | i :: ord, listed, s, hc, h => by
    simp only [chk, Bool.and_eq_true] at hc
    obtain ⟨⟨hr, hrec⟩, hcase⟩ := hc
    have hr : i ∈ ready ops listed := by simpa using hr
    have hrest : ∀ s', Wd X (ord.map fun i => (sl i, (st i).map sl)) R s' → WAny X ops sl st R ord.length (listed.setIfInBounds i true) s' := fun s' h' => chk_sound hX ord _ s' hrec h'
    simp only [List.map_cons, Wd] at h
    simp only [List.length_cons]
    split at hcase
    · rename_i hq
      simp only [Bool.and_eq_true] at hcase
      obtain ⟨⟨hcl, hst⟩, hall⟩ := hcase
      obtain ⟨c1, c2, c3⟩ := closed_within hcl
      obtain ⟨v, y1, y2⟩ := Y.of_quiet hq h
      refine first_quiet hX hq c3 c2 _ _ _ c1 ?_ hr y1 (by simpa using hst) (hrest _ y2.2)
      intro j hj hl
      have hlt : j < listed.size := by
        rcases Nat.lt_or_ge j listed.size with h' | h'
        · exact h'
        · rw [c1.1] at h'
          simp [Array.getElem?_eq_none h'] at hj
      have := List.all_eq_true.1 hall j (by simpa using hlt)
      simpa [hj, hl] using this
    · rename_i hq
      split at hcase
      · rename_i m ha
        simp only [Bool.and_eq_true] at hcase
        obtain ⟨⟨hcl, hst⟩, hall⟩ := hcase
        obtain ⟨c1, c2, c3⟩ := closed_within hcl
        refine first_at hX ha c3 _ _ _ c1 ?_ hr (by simpa using hst) (WI_mono hX (fun s' h' => hrest s' h'.2) h)
        intro j hj hl
        have hlt : j < listed.size := by
          rcases Nat.lt_or_ge j listed.size with h' | h'
          · exact h'
          · rw [c1.1] at h'
            simp [Array.getElem?_eq_none h'] at hj
        have := List.all_eq_true.1 hall j (by simpa using hlt)
        simpa [hj, hl] using this
      · have he : ready ops listed = [i] := by simpa using hcase
        refine ⟨fun h' => (by rw [h'] at hr; cases hr), fun j hj => ?_⟩
        rw [he] at hj
        have : j = i := by simpa using hj
        subst this
        exact WI_mono hX (fun s' h' => ⟨stillAll_B h'.1, hrest s' h'.2⟩) h
end GP
namespace GP
open Go
variable {P : Program} {imp : Hn}
def isAlloc : Op → Bool
  | .alloc _ | .box _ _ => true
  | _ => false
def countA (ops : Array Oper) (i : Nat) : Nat := ((List.range i).filter fun k => match ops[k]? with | some o => isAlloc o.op | none => false).length
def heff : O → Bool
  | .store _ _ _ | .call _ _ | .appm _ _ _ _ _ _ | .bslm _ _ _ | .copy _ _ _ | .clr _ _ | .mkm _ _ _ _ _ _ | .appz _ _ _ _ _ _ | .mkmap | .mput _ _ _ _ | .ment _ _ _ _ | .mst _ _ _ | .rng _ | .nxt _ => true
  | _ => false
def fillsOf (ops : Array Oper) (xs : List I) (i : Nat) : Option Nat :=
  match ops[i]? with
  | some o =>
    match o.op with
    | .alloc _ => match o.dst, o.guard with
      | some d, none => match (List.range ops.size).filter (fun k => (xs.getD k default).looks.contains d) with
        | [k] => match xs.getD k default with
          | ⟨_, none, .store _ (.t d') v⟩ => if d' == d && (match v with | .t e => e != d | .k _ => true) then some i else none
          | _ => none
        | _ => none
      | _, _ => none
    | .store _ (.tmp d) _ => (List.range ops.size).find? (fun k => match ops[k]? with
      | some a => (match a.op with | .alloc _ => true | _ => false) && a.dst == some d
      | none => false)
    | _ => none
  | none => none
def plOf (imp : Hn) (ops : Array Oper) (fl : Nat → Option Nat) (na i : Nat) : Pl := ⟨na - countA ops i, (fl i).map fun k => na - countA ops k, imp.lit⟩
def cIsD (P : Program) (imp : Hn) (ops : Array Oper) (fl : Nat → Option Nat) (n na : Nat) : List Nat → Option (List I)
  | [] => some []
  | i :: is => match ops[i]? with
    | some o => match cI P imp true (plOf imp ops fl na i) ops n o, cIsD P imp ops fl n na is with
      | some x, some xs => some (x :: xs)
      | _, _ => none
    | none => none
theorem cIsD_get {ops : Array Oper} {fl : Nat → Option Nat} {n na : Nat} : ∀ {is : List Nat} {xs : List I}, cIsD P imp ops fl n na is = some xs → ∀ (k i : Nat), is[k]? = some i → ∃ o x, ops[i]? = some o ∧ xs[k]? = some x ∧ cI P imp true (plOf imp ops fl na i) ops n o = some x
  | [], xs, h, k, i, hk => by simp at hk
  | j :: is, xs, h, k, i, hk => by
    simp only [cIsD] at h
    split at h
    · rename_i o ho
      split at h
      · rename_i x xs' h1 h2
        injection h with h; subst h
        cases k with
        | zero => simp at hk; subst hk; exact ⟨o, x, ho, rfl, h1⟩
        | succ k => exact cIsD_get h2 k i (by simpa using hk)
      · cases h
    · cases h
def refOrd (ops : Array Oper) (sl : Nat → I) : Nat → Array Bool → List Nat
  | 0, _ => []
  | f + 1, listed =>
    let r := ready ops listed
    match r.find? (fun i => isQuiet (sl i).o) with
    | some i => i :: refOrd ops sl f (listed.setIfInBounds i true)
    | none => match r.find? (fun i => (atOf (sl i)).isSome) with
      | some i => i :: refOrd ops sl f (listed.setIfInBounds i true)
      | none => match r with
        | i :: _ => i :: refOrd ops sl f (listed.setIfInBounds i true)
        | [] => []
def stOf (ops : Array Oper) (bef : Array Nat) (sl : Nat → I) (i : Nat) : List Nat :=
  if heff (sl i).o then (List.range ops.size).filter fun k => k != i && isQuiet (sl k).o && isHdep (sl k).o && !(bef.getD i 0).testBit k && !(bef.getD k 0).testBit i else []
def cDraw1 (P : Program) (imp : Hn) (n : Nat) (ops : Array Oper) (fl : Nat → Option Nat) : Option (Nat × List (I × List I)) :=
  let na := countA ops ops.size
  match cIsD P imp ops fl n na (List.range ops.size) with
  | none => none
  | some xs =>
    let sl := fun i => xs.getD i default
    let bef := Region.before ops
    let st := stOf ops bef sl
    let ord := refOrd ops sl ops.size (Array.replicate ops.size false)
    if chk ops sl st ord (Array.replicate ops.size false) && (ord.length == ops.size) && P.follows .mixedOrders then some (na, ord.map fun i => (sl i, (st i).map sl)) else none
def pairs (ops : Array Oper) (xs : List I) : List (Option Nat) :=
  let fs := (List.range ops.size).map (fillsOf ops xs)
  (List.range ops.size).map fun i => match fs.getD i none with
    | some k => match fs.getD k none with
      | some _ => some k
      | none => none
    | none => none
def cDraw (P : Program) (imp : Hn) (n : Nat) (ops : Array Oper) : Option (Nat × List (I × List I)) :=
  match cIsD P imp ops (fun _ => none) n (countA ops ops.size) (List.range ops.size) with
  | none => none
  | some xs =>
    let fl := pairs ops xs
    if fl.any Option.isSome then match cDraw1 P imp n ops (fun i => fl.getD i none) with
      | some r => some r
      | none => cDraw1 P imp n ops (fun _ => none)
    else cDraw1 P imp n ops (fun _ => none)
theorem any_sound [HasG P] {ops : Array Oper} {fl : Nat → Option Nat} {n na : Nat} {sl : Nat → I} {st : Nat → List Nat} (hsl : ∀ i o, ops[i]? = some o → cI P imp true (plOf imp ops fl na i) ops n o = some (sl i)) {R : S → Prop} {c0 : Cx} {w0 : World} {Q : Exit → Act → World → Prop}
    (hG : HasG.G P c0 w0) (hR : ∀ a' w', Nx n c0 w0 R a' w' → Q .normal a' w') : ∀ (fuel : Nat) (listed : Array Bool) (c : Cx) (s : S) (a : Act) (w : World), WAny (Snd P) ops sl st R fuel listed s → Sim c s a w → c0.le c → Below c0.bb w0 w → a.tmps.size = n → a.defers = [] →
    wpAny P .any ops Q fuel listed a w
  | 0, listed, c, s, a, w, h, hs, hle, hb, hn, hd => ⟨h.1, hR _ _ ⟨s, c, h.2, hs, hle, hb, hn, hd⟩⟩
  | fuel + 1, listed, c, s, a, w, h, hs, hle, hb, hn, hd => by
    refine ⟨fun h0 => hR _ _ ⟨s, c, h.1 h0, hs, hle, hb, hn, hd⟩, fun i hi => ?_⟩
    have hW := h.2 i hi
    obtain ⟨_, o, ho, _⟩ := mem_ready.1 hi
    refine instr_sound (X := Snd P) (fun _ _ _ _ _ h => h) ho (hsl i o ho) hG hs hle hb hn hd hW ?_
    rintro a' w' ⟨s', c', k1, k2, k3, k4, k5, k6⟩
    exact any_sound hsl hG hR fuel _ c' s' a' w' k1.2 k2 k3 k4 k5 k6
theorem Inv.holes {c : Cx} {w : World} {H : Hp} (k : Inv c w H) (na : Nat) : Inv c w (H ++ List.replicate na .hole) := by
  have key : ∀ (o : Nat) x, (H ++ List.replicate na Ob.hole)[o]? = some x → H[o]? = some x ∨ x = .hole := by
    intro o x h
    rcases Nat.lt_or_ge o H.length with h' | h'
    · rw [List.getElem?_append_left h'] at h; exact .inl h
    · rw [List.getElem?_append_right h'] at h
      exact .inr (List.eq_of_mem_replicate (List.mem_of_getElem? h))
  refine ⟨k.keep, k.low, ?_, ?_, ?_, ?_, ?_, ?_, k.tok, ?_, k.toks⟩
  · intro o x cs h hx
    rcases key o _ h with h | h
    · exact k.row o x cs h hx
    · subst h; cases hx
  · intro o h
    refine k.free o ?_
    rcases h with h | h
    · exact .inl (by simp at h; omega)
    · rcases Nat.lt_or_ge o H.length with h' | h'
      · rw [List.getElem?_append_left h'] at h; exact .inr h
      · exact .inl h'
  · intro o x h hx
    rcases key o _ h with h | h
    · exact k.own o x h hx
    · subst h; cases hx
  · intro o o' x x' h h' hx hx' he
    rcases key o _ h with h | h
    · rcases key o' _ h' with h' | h'
      · exact k.apart o o' x x' h h' hx hx' he
      · subst h'; cases hx'
    · subst h; cases hx
  · intro o es clk h
    rcases key o _ h with h | h
    · exact k.map o es clk h
    · cases h
  · intro o m sn se la h
    rcases key o _ h with h | h
    · exact k.iter o m sn se la h
    · cases h
  · intro τ n z o x hτ h hx
    rcases key o _ h with h | h
    · exact k.tokrow τ n z o x hτ h hx
    · subst h; cases hx
theorem draw1_sound [HasG P] {id n : Nat} {ops : Array Oper} {fl : Nat → Option Nat} {na : Nat} {js : List (I × List I)} (h : cDraw1 P imp n ops fl = some (na, js)) {R : S → Prop} {c0 c : Cx} {w0 w : World} {s : S} {a : Act} {Q : Exit → Act → World → Prop}
    (hG : HasG.G P c0 w0) (hR : ∀ a' w', Nx n c0 w0 R a' w' → Q .normal a' w') (hW : Wd (Snd P) js R ⟨s.t, s.H ++ List.replicate na .hole, s.T⟩) (hs : Sim c s a w) (hle : c0.le c) (hb : Below c0.bb w0 w) (hn : a.tmps.size = n) (hd : a.defers = []) :
    (Code.region id ops true).wp P Q a w := by
  unfold cDraw1 at h
  simp only at h
  split at h
  · cases h
  · rename_i xs hxs
    split at h
    · rename_i hc
      simp only [Bool.and_eq_true, beq_iff_eq] at hc
      obtain ⟨⟨h1, h2⟩, h3⟩ := hc
      injection h with h; injection h with e1 e2
      subst e1; subst e2
      refine wp_region_any h3 ?_
      have := chk_sound (X := Snd P) (R := R) Snd.mono _ _ _ h1 hW
      rw [h2] at this
      refine any_sound (P := P) (imp := imp) (fl := fl) (na := countA ops ops.size) ?_ hG hR _ _ c _ a _ this ⟨hs.T, Inv.congr (w := w) (w' := { w with drawn := w.drawn + 1 }) rfl (hs.inv.holes _), hs.fr⟩ hle (hb.trans (Below.refl _ _).drew) hn hd
      intro i o ho
      have hlt : i < ops.size := by
        rcases Nat.lt_or_ge i ops.size with h' | h'
        · exact h'
        · simp [Array.getElem?_eq_none h'] at ho
      obtain ⟨o', x, g1, g2, g3⟩ := cIsD_get hxs i i (by simp [hlt])
      rw [ho] at g1; injection g1 with g1; subst g1
      rw [g3]
      simp [List.getD, g2]
    · cases h
theorem draw_sound [HasG P] {id n : Nat} {ops : Array Oper} {na : Nat} {js : List (I × List I)} (h : cDraw P imp n ops = some (na, js)) {R : S → Prop} {c0 c : Cx} {w0 w : World} {s : S} {a : Act} {Q : Exit → Act → World → Prop}
    (hG : HasG.G P c0 w0) (hR : ∀ a' w', Nx n c0 w0 R a' w' → Q .normal a' w') (hW : Wd (Snd P) js R ⟨s.t, s.H ++ List.replicate na .hole, s.T⟩) (hs : Sim c s a w) (hle : c0.le c) (hb : Below c0.bb w0 w) (hn : a.tmps.size = n) (hd : a.defers = []) :
    (Code.region id ops true).wp P Q a w := by
  unfold cDraw at h
  split at h
  · cases h
  · rename_i xs hxs
    simp only at h
    split at h
    · split at h
      · rename_i r hr
        injection h with h; subst h
        exact draw1_sound hr hG hR hW hs hle hb hn hd
      · exact draw1_sound h hG hR hW hs hle hb hn hd
    · exact draw1_sound h hG hR hW hs hle hb hn hd
def cIs (P : Program) (imp : Hn) (ops : Array Oper) (n : Nat) : List Nat → Option (List I)
  | [] => some []
  | i :: is => match ops[i]? with
    | some o => match cI P imp false ⟨0, none, false⟩ ops n o, cIs P imp ops n is with
      | some x, some xs => some (x :: xs)
      | _, _ => none
    | none => none
def cCode (P : Program) (imp : Hn) (n : Nat) : Code → Option C
  | .skip => some .skip
  | .region _ ops dr => if dr then match cDraw P imp n ops with
      | some (na, js) => some (.draw na js)
      | none => some .stop
    else match cIs P imp ops n (List.range ops.size) with
      | some is => some (.reg is)
      | none => some .stop
  | .seq a b => match cCode P imp n a, cCode P imp n b with
    | some x, some y => some (.seq x y)
    | _, _ => none
  | .cond c a b => match cRd c, cCode P imp n a, cCode P imp n b with
    | some r, some x, some y => some (.cond r x y)
    | _, _, _ => some .stop
  | .block i c => match cCode P imp n c with
    | some x => some (.block i x)
    | none => none
  | .loop c => match cCode P imp n c with
    | some x => some (.loop x)
    | none => none
  | .exit i => some (.exit i)
  | .ret => some .ret
  | _ => some .stop
theorem ops_sound [HasG P] {ops : Array Oper} {n : Nat} {R : S → Prop} {c0 : Cx} {w0 : World} {Q : Exit → Act → World → Prop} (hG : HasG.G P c0 w0) (hR : ∀ a' w', Nx n c0 w0 R a' w' → Q .normal a' w') : ∀ (l : List Nat) (is : List I), cIs P imp ops n l = some is →
    ∀ (c : Cx) (s : S) (a : Act) (w : World), Wr (Snd P) is R s → Sim c s a w → c0.le c → Below c0.bb w0 w → a.tmps.size = n → a.defers = [] → wpOps P ops Q l a w
  | [], is, h, c, s, a, w, hW, hs, hle, hb, hn, hd => by
    simp [cIs] at h; subst h
    exact hR _ _ ⟨s, c, hW, hs, hle, hb, hn, hd⟩
  | i :: l, is, h, c, s, a, w, hW, hs, hle, hb, hn, hd => by
    simp only [cIs] at h
    split at h
    · rename_i o ho
      split at h
      · rename_i x xs h1 h2
        injection h with h; subst h
        rw [wpOps_cons]
        refine instr_sound (X := Snd P) (fun _ _ _ _ _ h => h) ho h1 hG hs hle hb hn hd hW ?_
        rintro a' w' ⟨s', c', k1, k2, k3, k4, k5, k6⟩
        exact ops_sound hG hR l xs h2 c' s' a' w' k1 k2 k3 k4 k5 k6
      · cases h
    · cases h
def exQ (Q : Ex → S → Prop) : Exit → S → Prop
  | .normal, s => Q .normal s
  | .exit i, s => Q (.exit i) s
  | .ret, s => Q .ret s
  | _, _ => False
def QC (n : Nat) (c0 : Cx) (w0 : World) (Q : Ex → S → Prop) (e : Exit) (a' : Act) (w' : World) : Prop := Nx n c0 w0 (exQ Q e) a' w'
theorem W_sound [HasG P] {n : Nat} : ∀ (code : Code) (cc : C), cCode P imp n code = some cc → ∀ (c0 : Cx) (w0 : World) (_ : HasG.G P c0 w0) (c : Cx) (s : S) (a : Act) (w : World) (Q : Ex → S → Prop), W (Snd P) cc Q s → Sim c s a w → c0.le c → Below c0.bb w0 w → a.tmps.size = n → a.defers = [] →
    code.wp P (QC n c0 w0 Q) a w := by
  intro code
  induction code with
  | skip =>
    intro cc h c0 w0 hG c s a w Q hW hs hle hb hn hd
    simp [cCode] at h; subst h
    exact wp_skip ⟨s, c, hW, hs, hle, hb, hn, hd⟩
  | region id ops dr =>
    intro cc h c0 w0 hG c s a w Q hW hs hle hb hn hd
    simp only [cCode] at h
    cases dr with
    | true =>
      simp only [if_true] at h
      split at h
      · rename_i na js hdr
        injection h with h; subst h
        exact draw_sound (P := P) (imp := imp) hdr (R := Q .normal) hG (fun a' w' h => h) (by simpa only [W] using hW) hs hle hb hn hd
      · injection h with h; subst h
        exact (show False by simpa only [W] using hW).elim
    | false =>
      simp only [Bool.false_eq_true, if_false] at h
      split at h
      · rename_i is his
        injection h with h; subst h
        exact wp_region (ops_sound (P := P) (imp := imp) (R := Q .normal) hG (fun a' w' h => h) _ is his c s a w (by simpa only [W] using hW) hs hle hb hn hd)
      · injection h with h; subst h
        exact (show False by simpa only [W] using hW).elim
  | seq x y ihx ihy =>
    intro cc h c0 w0 hG c s a w Q hW hs hle hb hn hd
    simp only [cCode] at h
    split at h
    · rename_i cx cy hx hy
      injection h with h; subst h
      simp only [W] at hW
      refine wp_seq (wp_mono (ihx cx hx c0 w0 hG c s a w _ hW hs hle hb hn hd) ?_)
      rintro e a' w' ⟨s', c', k1, k2, k3, k4, k5, k6⟩
      cases e with
      | normal => exact ihy cy hy c0 w0 hG c' s' a' w' Q k1 k2 k3 k4 k5 k6
      | exit i => exact ⟨s', c', k1, k2, k3, k4, k5, k6⟩
      | ret => exact ⟨s', c', k1, k2, k3, k4, k5, k6⟩
      | goto l => exact k1.elim
      | panic ch => exact k1.elim
      | outgrown => exact k1.elim
    · cases h
  | cond x y z ihy ihz =>
    intro cc h c0 w0 hG c s a w Q hW hs hle hb hn hd
    simp only [cCode] at h
    split at h
    · rename_i r cy cz hr hy hz
      injection h with h; subst h
      simp only [W] at hW
      split at hW
      · rename_i t ht
        have hrep := cRd_rep hr hs.fr
        rw [ht] at hrep
        have hv : a.eval x = .bool t := by
          generalize a.eval x = v at hrep
          cases hrep; rfl
        refine wp_cond hv ?_
        cases t
        · exact ihz cz hz c0 w0 hG c s a w Q hW hs hle hb hn hd
        · exact ihy cy hy c0 w0 hG c s a w Q hW hs hle hb hn hd
      · exact hW.elim
    · injection h with h; subst h
      exact (show False by simpa only [W] using hW).elim
  | block i x ih =>
    intro cc h c0 w0 hG c s a w Q hW hs hle hb hn hd
    simp only [cCode] at h
    split at h
    · rename_i cx hx
      injection h with h; subst h
      simp only [W] at hW
      refine wp_block (wp_mono (ih cx hx c0 w0 hG c s a w _ hW hs hle hb hn hd) ?_)
      rintro e a' w' ⟨s', c', k1, k2, k3, k4, k5, k6⟩
      cases e with
      | normal => exact ⟨s', c', k1, k2, k3, k4, k5, k6⟩
      | exit j =>
        simp only [exQ, blkK] at k1
        simp only [Exit.inBlock]
        split
        · rename_i e; rw [if_pos e] at k1; exact ⟨s', c', k1, k2, k3, k4, k5, k6⟩
        · rename_i e; rw [if_neg e] at k1; exact ⟨s', c', k1, k2, k3, k4, k5, k6⟩
      | ret => exact ⟨s', c', k1, k2, k3, k4, k5, k6⟩
      | goto l => exact k1.elim
      | panic ch => exact k1.elim
      | outgrown => exact k1.elim
    · cases h
  | loop x ih =>
    intro cc h c0 w0 hG c s a w Q hW hs hle hb hn hd
    simp only [cCode] at h
    split at h
    · rename_i cx hx
      injection h with h; subst h
      simp only [W] at hW
      obtain ⟨Iv, μ, h0, hround⟩ := hW
      refine wp_loop_ghost (fun k a' w' => Nx n c0 w0 (fun s' => Iv s' ∧ μ s' = k) a' w') (μ s) ⟨s, c, ⟨h0, rfl⟩, hs, hle, hb, hn, hd⟩ ?_
      rintro k a1 w1 ⟨s1, c1, ⟨g1, g2⟩, g3, g4, g5, g6, g7⟩
      refine wp_mono (ih cx hx c0 w0 hG c1 s1 a1 w1 _ (hround s1 g1) g3 g4 g5 g6 g7) ?_
      rintro e a' w' ⟨s', c', k1, k2, k3, k4, k5, k6⟩
      cases e with
      | normal => exact ⟨μ s', by rw [← g2]; exact k1.2, s', c', ⟨k1.1, rfl⟩, k2, k3, k4, k5, k6⟩
      | exit j => exact ⟨s', c', k1, k2, k3, k4, k5, k6⟩
      | ret => exact ⟨s', c', k1, k2, k3, k4, k5, k6⟩
      | goto l => exact k1.elim
      | panic ch => exact k1.elim
      | outgrown => exact k1.elim
    · cases h
  | exit i =>
    intro cc h c0 w0 hG c s a w Q hW hs hle hb hn hd
    simp [cCode] at h; subst h
    exact wp_exit ⟨s, c, hW, hs, hle, hb, hn, hd⟩
  | ret =>
    intro cc h c0 w0 hG c s a w Q hW hs hle hb hn hd
    simp [cCode] at h; subst h
    exact wp_ret ⟨s, c, hW, hs, hle, hb, hn, hd⟩
  | _ =>
    intro cc h c0 w0 hG c s a w Q hW
    simp [cCode] at h; subst h
    exact (show False by simpa only [W] using hW).elim
def resL : List (Sum Nat (Nat × Bool × Nat)) → S → Option (List D)
  | [], _ => some []
  | .inl t :: l, s => match resL l s with
    | some ds => some (s.t t :: ds)
    | none => none
  | .inr (x, ag, n) :: l, s => match ld ag n (rdAt s.H (s.t x)), resL l s with
    | some d, some ds => some (d :: ds)
    | _, _ => none
def cRes (P : Program) : List ResultVar → Option (List (Sum Nat (Nat × Bool × Nat)))
  | [] => some []
  | .tmp t :: l => match cRes P l with
    | some rs => some (.inl t :: rs)
    | none => none
  | .cell x t :: l => match tag P t, tsz P t, cRes P l with
    | some ag, some n, some rs => some (.inr (x, ag, n) :: rs)
    | _, _, _ => none
def retD : List D → D
  | [d] => d
  | ds => .tup ds
def retK (rs : List (Sum Nat (Nat × Bool × Nat))) (Q : Post) (s : S) : Prop :=
  match resL rs s with
  | some ds => Q (retD ds) s.H s.T
  | none => False
def endQ (rs : List (Sum Nat (Nat × Bool × Nat))) (Q : Post) : Ex → S → Prop
  | .normal, s | .ret, s => retK rs Q s
  | _, _ => False
def argT (args : List D) : Nat → D := fun i => (args[i]?).getD .top
structure Fn (P : Program) (f : FuncId) (n : Nat) (rs : List (Sum Nat (Nat × Bool × Nat))) (cc : C) : Prop where
  ok : ∃ fn code, P.funcs[f]? = some fn ∧ fn.body = some code ∧ (fn.name == "runtime.NumGoroutine") = false ∧ fn.ntmps = n ∧ cRes P fn.results.toList = some rs ∧ ∃ imp, cCode P imp n code = some cc
theorem res_sound {c : Cx} {s : S} {a : Act} {w : World} (hs : Sim c s a w) : ∀ {l : List ResultVar} {rs : List (Sum Nat (Nat × Bool × Nat))} {ds : List D}, cRes P l = some rs → resL rs s = some ds →
    ∃ vs, (l.mapM (fun r => match r with | .tmp t => pure (a.tmps.getD t undef) | .cell x t => do loadVar t (← asAddr (a.tmps.getD x undef)) : ResultVar → Sem Value)).run P w = .ok vs w ∧ Reps c ds vs
  | [], rs, ds, h1, h2 => by
    simp [cRes] at h1; subst h1
    simp [resL] at h2; subst h2
    exact ⟨[], by simp, Reps.nil⟩
  | .tmp t :: l, rs, ds, h1, h2 => by
    simp only [cRes] at h1
    split at h1
    · rename_i rs' h3
      injection h1 with h1; subst h1
      simp only [resL] at h2
      split at h2
      · rename_i ds' h4
        injection h2 with h2; subst h2
        obtain ⟨vs, e1, e2⟩ := res_sound hs h3 h4
        refine ⟨a.tmps.getD t undef :: vs, ?_, ?_⟩
        · simp only [List.mapM_cons, Sem.run_bind, Sem.run_pure, Result.andThen_ok, e1]
        · refine ⟨by simp [e2.len], fun i h h' => ?_⟩
          cases i with
          | zero => exact hs.fr t
          | succ i => exact e2.rep i (by simpa using h) (by simpa using h')
      · cases h2
    · cases h1
  | .cell x t :: l, rs, ds, h1, h2 => by
    simp only [cRes] at h1
    split at h1
    · rename_i ag n rs' h5 h6 h3
      injection h1 with h1; subst h1
      simp only [resL] at h2
      split at h2
      · rename_i d ds' h7 h4
        injection h2 with h2; subst h2
        obtain ⟨vs, e1, e2⟩ := res_sound hs h3 h4
        obtain ⟨u, e3, e4⟩ := load_sound (P := P) hs.inv (hs.fr x) h5 h6 h7
        have hp : ∃ p, a.tmps.getD x undef = .pointer (some p) := by
          cases hrd : rdAt s.H (s.t x) with
          | none => rw [hrd] at h7; cases h7
          | some cs =>
            obtain ⟨p, _, hp, _⟩ := read_at hs.inv (hs.fr x) hrd
            exact ⟨p, hp⟩
        obtain ⟨p, hp⟩ := hp
        have hq : (asAddr (a.tmps.getD x undef)).run P w = .ok p w := by rw [hp]; rfl
        rw [hp] at e3
        have e3' : (loadVar t p).run P w = .ok u w := by simpa [Instr.loadAt, Instr.sureAddr] using e3
        refine ⟨u :: vs, ?_, ?_⟩
        · simp only [List.mapM_cons, Sem.run_bind, hq, Sem.run_pure, Result.andThen_ok, e3', e1]
        · refine ⟨by simp [e2.len], fun i h h' => ?_⟩
          cases i with
          | zero => exact e4
          | succ i => exact e2.rep i (by simpa using h) (by simpa using h')
      · cases h2
    · cases h1
theorem call_body [HasG P] {f : FuncId} {n : Nat} {rs : List (Sum Nat (Nat × Bool × Nat))} {cc : C} (hf : Fn P f n rs cc) {args : List D} (hlen : args.length ≤ n) {H : Hp} {T : Tk} {Q : Post} (hW : W (Snd P) cc (endQ rs Q) ⟨argT args, H, T⟩) :
    ∀ (c : Cx) (w : World) (vs : List Value), HasG.G P c w → Inv c w H → c.T = T → Reps c args vs → (callFunc f vs.toArray).run P w = .ok (.enter f vs.toArray) w ∧ Calls P f vs.toArray w (CallPost c w Q) := by
  obtain ⟨fn, code, h1, h2, h3, h4, h5, imp, h6⟩ := hf.ok
  intro c w vs hg hi hT hr
  refine ⟨?_, ?_⟩
  · have h3' : ¬ fn.name = "runtime.NumGoroutine" := by simpa using h3
    simp [callFunc, h1, h2, h3']
  · refine calls_of_wp h1 h2 ?_
    have hvl : vs.length ≤ n := by rw [hr.len]; exact hlen
    have hsz : (vs.toArray ++ Array.replicate (fn.ntmps - vs.toArray.size) undef).size = n := by simp [h4]; omega
    have hs : Sim c ⟨argT args, H, T⟩ { tmps := vs.toArray ++ Array.replicate (fn.ntmps - vs.toArray.size) undef, defers := [] } w := by
      refine ⟨hT, hi, fun i => ?_⟩
      simp only [argT]
      rcases Nat.lt_or_ge i args.length with h' | h'
      · have h'' : i < vs.length := by rw [hr.len]; exact h'
        have := hr.rep i h' h''
        simp only [List.getElem?_eq_getElem h', Option.getD_some]
        rw [Array.getD_eq_getD_getElem?, Array.getElem?_append_left (by simpa using h'')]
        simpa [h''] using this
      · rw [List.getElem?_eq_none h']
        exact .top _
    refine wp_mono (W_sound (P := P) (imp := imp) code cc (by rw [h4] at *; exact h6) c w hg c _ _ w _ hW hs (Cx.le.refl c) (Below.refl _ _) hsz rfl) ?_
    rintro e a' w' ⟨s', c', k1, k2, k3, k4, k5, k6⟩
    have fin : retK rs Q s' → ∃ v, (results fn a'.tmps).run P w' = .ok v w' ∧ CallPost c w Q (.returned v) w' := by
      intro hret
      unfold retK at hret
      split at hret
      · rename_i ds hds
        obtain ⟨us, e1, e2⟩ := res_sound (P := P) k2 h5 hds
        have hm : (fn.results.mapM (fun r => match r with | .tmp t => pure (a'.tmps.getD t undef) | .cell x t => do loadVar t (← asAddr (a'.tmps.getD x undef)) : ResultVar → Sem Value)).run P w' = .ok us.toArray w' := by
          rw [Array.mapM_eq_mapM_toList, Sem.run_map, e1]; rfl
        refine ⟨if h : us.toArray.size = 1 then us.toArray[0] else .tuple us.toArray, ?_, _, rfl, _, s'.H, s'.T, c', hret, ?_, k2.inv, k3, k2.T, k4⟩
        · unfold results
          simp only [Sem.run_bind, Sem.run_pure]
          exact (congrArg (fun r => Result.andThen r _) hm)
        · have hl := e2.len
          match ds, us, hl with
          | [d], [u], _ =>
            have := e2.rep 0 (by simp) (by simp)
            simpa [retD] using this
          | [], [], _ => exact Rep.tup [] [] rfl e2.rep
          | d :: d' :: ds, u :: u' :: us, hl =>
            have hne : ¬ ((u :: u' :: us).toArray.size = 1) := by simp
            rw [dif_neg hne]
            exact Rep.tup _ _ hl e2.rep
      · exact hret.elim
    cases e with
    | normal => exact ⟨k6, fin k1⟩
    | ret => exact ⟨k6, fin k1⟩
    | exit i => exact k1.elim
    | goto l => exact k1.elim
    | panic ch => exact k1.elim
    | outgrown => exact k1.elim
theorem call_of [HasG P] {f : FuncId} {n : Nat} {rs : List (Sum Nat (Nat × Bool × Nat))} {cc : C} (hf : Fn P f n rs cc) {args : List D} (hlen : args.length ≤ n) {H : Hp} {T : Tk} {Q : Post} (hW : W (Snd P) cc (endQ rs Q) ⟨argT args, H, T⟩) : Snd P f args H T Q :=
  fun c w vs hg h1 h2 h3 => .inl (call_body hf hlen hW c w vs hg h1 h2 h3)
end GP
