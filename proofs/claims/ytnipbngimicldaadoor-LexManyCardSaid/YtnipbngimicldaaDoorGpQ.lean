import Derived.Test.YtnipbngimicldaaDoorGpP
/- Regions that draw their order; code; calls. -/
namespace GP
open Go

variable {P : Program} {X : Pred} {imp : Hn}

def Mono (X : Pred) : Prop := ∀ f args H T Q Q', (∀ r H T, Q r H T → Q' r H T) → X f args H T Q → X f args H T Q'

theorem Snd.mono [HasG P] : Mono (Snd P) := by
  intro f args H T Q Q' h k c w vs hg hi hT hr
  have hp : ∀ e w', CallPost c w Q e w' → CallPost c w Q' e w' := by
    rintro e w' ⟨v, h1, r, H', T', c', h2, h3⟩
    exact ⟨v, h1, r, H', T', c', h _ _ _ h2, h3⟩
  rcases k c w vs hg hi hT hr with ⟨h1, h2⟩ | ⟨v, w', h1, h2⟩
  · exact .inl ⟨h1, h2.mono hp⟩
  · exact .inr ⟨v, w', h1, hp _ _ h2⟩

/-! ### Whatever order is drawn: in the abstract -/
def isQuiet : O → Bool
  | .alloc _ | .allocAt _ _ | .box _ | .boxAt _ _ | .bsl _ _ | .store _ _ _ | .s2b _ | .b2m _ | .call _ _ | .app _ _ _ _ _ | .rawAt _ _ | .fillAt _ _ _ _ | .appm _ _ _ _ _ _ | .bslm _ _ _ | .copy _ _ _ | .clr _ _ | .mkm _ _ _ _ _ _ => false
  | _ => true
/-- Does its value hang on the objects? -/
def isHdep : O → Bool
  | .load _ _ _ | .pcall _ _ => true
  | _ => false

/-- An instruction yields v, and goes on. -/
def Y (X : Pred) (i : I) (v : D) (s : S) : Prop :=
  (gd s i.g = some true ∧ ∀ K : D → S → Prop, K v s → WO X i.o s K) ∨ (gd s i.g = some false ∧ v = .tup [])

theorem Y.wi {i : I} {v : D} {s : S} (h : Y X i v s) {K : S → Prop} (hk : K (s.put i.d v)) : WI X i s K := by
  unfold WI WIk
  rcases h with ⟨h1, h2⟩ | ⟨h1, rfl⟩
  · rw [h1]; exact h2 _ hk
  · rw [h1]; exact hk

theorem WO_q {o : O} (hq : isQuiet o = true) (hp : ∀ f xs, o ≠ .pcall f xs) (s : S) (K : D → S → Prop) : WO X o s K = K1 K s (qv s o) := by
  cases o <;> first | rfl | (simp [isQuiet] at hq; done) | exact absurd rfl (hp _ _)

theorem quiet_WO {o : O} (hq : isQuiet o = true) {s : S} {K : D → S → Prop} (h : WO X o s K) : ∃ v, (∀ K' : D → S → Prop, K' v s → WO X o s K') ∧ K v s := by
  cases o with
  | pcall f xs =>
    change pcallK X (xs.map s.ev) K s (s.ev f) at h
    have key : ∀ d, pcallK X (xs.map s.ev) K s d → ∃ v, (∀ K' : D → S → Prop, K' v s → pcallK X (xs.map s.ev) K' s d) ∧ K v s := by
      intro d hd
      cases d <;> simp only [pcallK] at hd ⊢ <;> first | exact hd.elim | skip
      obtain ⟨r, h1, h2⟩ := hd
      exact ⟨r, fun K' hk => ⟨r, h1, hk⟩, h2⟩
    exact key _ h
  | _ =>
    rw [WO_q hq (fun _ _ h => by cases h)] at h
    obtain ⟨v, h1, h2⟩ := K1_ok h
    refine ⟨v, fun K' hk => ?_, h2⟩
    rw [WO_q hq (fun _ _ h => by cases h), h1]; exact hk

theorem Y.of_quiet {i : I} (hq : isQuiet i.o = true) {s : S} {K : S → Prop} (h : WI X i s K) : ∃ v, Y X i v s ∧ K (s.put i.d v) := by
  unfold WI WIk at h
  split at h
  · rename_i hg
    obtain ⟨v, h1, h2⟩ := quiet_WO hq h
    exact ⟨v, .inl ⟨hg, h1⟩, h2⟩
  · rename_i hg; exact ⟨.tup [], .inr ⟨hg, rfl⟩, h⟩
  · exact h.elim

/-- The slots that an instruction looks at. -/
def I.looks (i : I) : List Nat := (i.o.rds.filterMap fun | .t k => some k | .k _ => none) ++ (match i.g with | some (g, _) => [g] | none => [])

theorem ev_put {s : S} {d : Option Nat} {v : D} {r : Rd} (h : ∀ k, d = some k → r ≠ .t k) : (s.put d v).ev r = s.ev r := by
  cases d with
  | none => rfl
  | some k =>
    cases r with
    | k d => rfl
    | t i =>
      have : i ≠ k := fun e => h k rfl (by rw [e])
      show upd s.t k v i = s.t i
      simp [upd, this]

theorem gd_put {s : S} {d : Option Nat} {v : D} {i : I} (h : ∀ k, d = some k → k ∉ i.looks) : gd (s.put d v) i.g = gd s i.g := by
  cases d with
  | none => rfl
  | some k =>
    unfold gd
    cases hg : i.g with
    | none => rfl
    | some p =>
      obtain ⟨g, w⟩ := p
      have : g ≠ k := fun e => h k rfl (by simp [I.looks, hg, e])
      have e : upd s.t k v g = s.t g := by simp [upd, this]
      show (match upd s.t k v g with | .bool b => some (b == w) | .tup [] => some false | _ => none) = _
      rw [e]
      rfl

theorem rds_put {s : S} {d : Option Nat} {v : D} {i : I} (h : ∀ k, d = some k → k ∉ i.looks) : ∀ r ∈ i.o.rds, (s.put d v).ev r = s.ev r := by
  intro r hr
  refine ev_put fun k hk e => h k hk ?_
  subst e
  exact List.mem_append_left _ (List.mem_filterMap.2 ⟨.t k, hr, rfl⟩)

theorem put_H (s : S) (d : Option Nat) (v : D) : (s.put d v).H = s.H ∧ (s.put d v).T = s.T := by cases d <;> exact ⟨rfl, rfl⟩
theorem put_t (s s' : S) (d : Option Nat) (v : D) (h : s'.t = s.t) : (s'.put d v).t = (s.put d v).t := by
  cases d with
  | none => exact h
  | some k => show upd s'.t k v = upd s.t k v; rw [h]

theorem put_comm {s : S} {d e : Option Nat} {u v : D} (h : ∀ k, d = some k → e ≠ some k) : (s.put d u).put e v = (s.put e v).put d u := by
  cases d with
  | none => rfl
  | some k =>
    cases e with
    | none => rfl
    | some m =>
      have : k ≠ m := fun e' => h k rfl (by rw [e'])
      show S.mk (upd (upd s.t k u) m v) _ _ = S.mk (upd (upd s.t m v) k u) _ _
      congr 1
      funext x
      simp only [upd]
      split
      · rename_i e1; rw [if_neg (by omega)]
      · rfl

/-- A yield at a state that agrees. -/
theorem Y.at {i : I} {v : D} {s s' : S} (hX : Mono X) (h : Y X i v s) (hH : s'.H = s.H) (hT : s'.T = s.T) (hg : gd s' i.g = gd s i.g) (hev : ∀ r ∈ i.o.rds, s'.ev r = s.ev r) : Y X i v s' := by
  rcases h with ⟨h1, h2⟩ | ⟨h1, h2⟩
  · refine .inl ⟨by rw [hg]; exact h1, fun K' hk => ?_⟩
    refine WO_imp hX (s := s) hH hT hev (K := fun u z => u = v ∧ z = s) ?_ (h2 _ ⟨rfl, rfl⟩)
    rintro u H T ⟨rfl, e⟩
    have e1 : H = s.H := congrArg S.H e
    have e2 : T = s.T := congrArg S.T e
    have : (⟨s'.t, H, T⟩ : S) = s' := by
      rw [e1, e2, ← hH, ← hT]
    rw [this]; exact hk
  · exact .inr ⟨by rw [hg]; exact h1, h2⟩

/-- An instruction at a state where one slot that it doesn't look at, nor write, is otherwise. -/
theorem WI_put {i : I} {d : Option Nat} {v : D} {s : S} (hX : Mono X) (h1 : ∀ k, d = some k → k ∉ i.looks) (h2 : ∀ k, d = some k → i.d ≠ some k) {K : S → Prop} (h : WI X i (s.put d v) K) : WI X i s (fun s' => K (s'.put d v)) := by
  unfold WI WIk at *
  rw [gd_put h1] at h
  split
  · rename_i hg
    rw [hg] at h
    refine WO_imp hX (s := s.put d v) (put_H s d v).1.symm (put_H s d v).2.symm (fun r hr => (rds_put h1 r hr).symm) ?_ h
    intro u H T hk
    have e : (⟨(s.put d v).t, H, T⟩ : S).put i.d u = ((⟨s.t, H, T⟩ : S).put i.d u).put d v := by
      rw [← put_comm h2]
      congr 1
      cases d <;> rfl
    show K (((⟨s.t, H, T⟩ : S).put i.d u).put d v)
    rw [← e]; exact hk
  · rename_i hg
    rw [hg] at h
    show K ((s.put i.d (.tup [])).put d v)
    rw [← put_comm h2]; exact h
  · rename_i hg
    rw [hg] at h; exact h

/-- A quiet instruction at a state that agrees, with other objects if it doesn't look at them. -/
theorem qv_at {o : O} {s s' : S} (hH : isHdep o = true → s'.H = s.H) (hev : ∀ r ∈ o.rds, s'.ev r = s.ev r) : qv s' o = qv s o := by
  have key : ∀ z : S, z.H = s.H → (∀ r ∈ o.rds, z.ev r = s.ev r) → qv z o = qv s o := by
    intro z hz hzev
    have h1 : ∀ (v : D) (K : D → S → Prop), qv s o = some v → True := fun _ _ _ => trivial
    have fwd : ∀ v, qv s o = some v → qv z o = some v := by
      intro v hv
      by_cases hq : isQuiet o = true ∧ ∀ f xs, o ≠ .pcall f xs
      · have := WO_imp (X := fun _ _ _ _ _ => False) (X' := fun _ _ _ _ _ => False) (fun _ _ _ _ _ _ _ h => h) (o := o) (s := ⟨s.t, s.H, z.T⟩) (s' := z) hz rfl hzev (K := fun u _ => u = v) (K' := fun u _ => u = v) (fun _ _ _ h => h)
          (by rw [WO_q hq.1 hq.2]; show K1 _ _ (qv s o); rw [hv]; rfl)
        rw [WO_q hq.1 hq.2] at this
        obtain ⟨d, h1, h2⟩ := K1_ok this
        rw [h1, h2]
      · cases o <;> first | (simp [qv] at hv; done) | (exact absurd ⟨rfl, fun _ _ h => by cases h⟩ hq)
    have bwd : ∀ v, qv z o = some v → qv s o = some v := by
      intro v hv
      by_cases hq : isQuiet o = true ∧ ∀ f xs, o ≠ .pcall f xs
      · have := WO_imp (X := fun _ _ _ _ _ => False) (X' := fun _ _ _ _ _ => False) (fun _ _ _ _ _ _ _ h => h) (o := o) (s := ⟨z.t, z.H, s.T⟩) (s' := s) hz.symm rfl (fun r hr => (hzev r hr).symm) (K := fun u _ => u = v) (K' := fun u _ => u = v) (fun _ _ _ h => h)
          (by rw [WO_q hq.1 hq.2]; show K1 _ _ (qv z o); rw [hv]; rfl)
        rw [WO_q hq.1 hq.2] at this
        obtain ⟨d, h1, h2⟩ := K1_ok this
        rw [h1, h2]
      · cases o <;> first | (simp [qv] at hv; done) | (exact absurd ⟨rfl, fun _ _ h => by cases h⟩ hq)
    cases h : qv s o with
    | none =>
      cases h' : qv z o with
      | none => rfl
      | some v => rw [bwd v h'] at h; cases h
    | some v => exact fwd v h
  by_cases hd : isHdep o = true
  · exact key s' (hH hd) hev
  · have e1 : qv s' o = qv ⟨s'.t, s.H, s'.T⟩ o := by
      cases o <;> first | rfl | (simp [isHdep] at hd; done)
    rw [e1]
    exact key ⟨s'.t, s.H, s'.T⟩ rfl hev

theorem Y.atq {i : I} (hq : isQuiet i.o = true) {v : D} {s s' : S} (h : Y X i v s) (hH : isHdep i.o = true → s'.H = s.H) (hg : gd s' i.g = gd s i.g) (hev : ∀ r ∈ i.o.rds, s'.ev r = s.ev r) : Y X i v s' := by
  rcases h with ⟨h1, h2⟩ | ⟨h1, h2⟩
  · refine .inl ⟨by rw [hg]; exact h1, fun K' hk => ?_⟩
    by_cases hp : ∀ f xs, i.o ≠ .pcall f xs
    · have := h2 (fun u _ => u = v) rfl
      rw [WO_q hq hp] at this ⊢
      rw [qv_at hH hev]
      obtain ⟨d, e1, e2⟩ := K1_ok this
      rw [e1, e2]; exact hk
    · cases ho : i.o with
      | pcall f xs =>
        rw [ho] at h2 hH hev
        have := h2 (fun u _ => u = v) rfl
        change pcallK X (xs.map s.ev) (fun u _ => u = v) s (s.ev f) at this
        show pcallK X (xs.map s'.ev) K' s' (s'.ev f)
        rw [hev f (by simp [O.rds]), map_ev (s := s) (s' := s') (xs := xs) (fun r hr => hev r (by simp [O.rds, hr]))]
        refine pcallK_imp (s := s) (fun _ _ _ _ _ h => h) (hH rfl) (K := fun u _ => u = v) (fun u hu => ?_) this
        subst hu; exact hk
      | _ => exact absurd (fun f xs h => by rw [ho] at h; cases h) hp
  · exact .inr ⟨by rw [hg]; exact h1, h2⟩

/-- Where a hole is filled, what is yielded is yielded. -/
theorem Y.fill {i : I} (hq : isQuiet i.o = true) {v : D} {s : S} (h : Y X i v s) {k : Nat} {b u : Ob} (hb : b.blank = true) (hk : s.H[k]? = some b) : Y X i v ⟨s.t, s.H.set k u, s.T⟩ := by
  have hle : Hle s.H (s.H.set k u) := by
    intro o x hx h1
    by_cases e : k = o
    · subst e; rw [hk] at hx; injection hx with hx; subst hx; rw [hb] at h1; cases h1
    · rw [List.getElem?_set_ne e]; exact hx
  have hrd : ∀ off, rdAt s.H (.ptr k off) = none := fun off => by
    simp only [rdAt, hk]
    cases b <;> simp [Ob.blank] at hb <;> rfl
  rcases h with ⟨h1, h2⟩ | ⟨h1, h2⟩
  · refine .inl ⟨h1, fun K' hk' => ?_⟩
    by_cases hp : ∀ f xs, i.o ≠ .pcall f xs
    · have := h2 (fun u _ => u = v) rfl
      rw [WO_q hq hp] at this ⊢
      obtain ⟨d, e1, e2⟩ := K1_ok this
      subst e2
      have : qv ⟨s.t, s.H.set k u, s.T⟩ i.o = some d := by
        by_cases hd : isHdep i.o = true
        · cases ho : i.o with
          | load ag n x =>
            rw [ho] at e1
            simp only [qv] at e1 ⊢
            have hev : (⟨s.t, s.H.set k u, s.T⟩ : S).ev x = s.ev x := by cases x <;> rfl
            rw [hev]
            rw [← e1]
            congr 1
            cases hx : s.ev x with
            | ptr o off =>
              rw [hx] at e1
              simp only [rdAt]
              by_cases e : k = o
              · subst e; rw [hrd] at e1; simp [ld] at e1
              · rw [List.getElem?_set_ne e]
            | _ => rfl
          | pcall f xs => exact absurd ho (hp f xs)
          | _ => rw [ho] at hd; simp [isHdep] at hd
        · rw [qv_at (s := s) (fun h => absurd h hd) (fun r _ => by cases r <;> rfl)]; exact e1
      rw [this]; exact hk'
    · cases ho : i.o with
      | pcall f xs =>
        rw [ho] at h2
        have := h2 (fun u _ => u = v) rfl
        change pcallK X (xs.map s.ev) (fun u _ => u = v) s (s.ev f) at this
        have hevx : ∀ r, (⟨s.t, s.H.set k u, s.T⟩ : S).ev r = s.ev r := fun r => by cases r <;> rfl
        show pcallK X (xs.map (⟨s.t, s.H.set k u, s.T⟩ : S).ev) K' _ ((⟨s.t, s.H.set k u, s.T⟩ : S).ev f)
        rw [hevx f, map_ev (s := s) (fun r _ => hevx r)]
        have key : ∀ d, pcallK X (xs.map s.ev) (fun u _ => u = v) s d → pcallK X (xs.map s.ev) K' ⟨s.t, s.H.set k u, s.T⟩ d := by
          intro d hd
          cases d <;> simp only [pcallK] at hd ⊢ <;> first | exact hd.elim | skip
          obtain ⟨r, p1, p2⟩ := hd
          subst p2
          exact ⟨r, fun H' T' Q a b => p1 H' T' Q (fun o x a1 a2 => a o x (hle o x a1 a2) a2) b, hk'⟩
        exact key _ this
      | _ => exact absurd (fun f xs h => by rw [ho] at h; cases h) hp
  · exact .inr ⟨h1, h2⟩

def ready (ops : Array Oper) (listed : Array Bool) : List Nat := Region.ready .any ops listed

/-- What must still be yielded behind an instruction. -/
def stillB (X : Pred) (sl : Nat → I) (st : List Nat) (listed : Array Bool) (s : S) : Prop := ∀ i ∈ st, listed.getD i false = true → still X (sl i) s

def WAny (X : Pred) (ops : Array Oper) (sl : Nat → I) (st : Nat → List Nat) (R : S → Prop) : Nat → Array Bool → S → Prop
  | 0, listed, s => ready ops listed = [] ∧ R s
  | fuel + 1, listed, s => (ready ops listed = [] → R s) ∧ ∀ j ∈ ready ops listed, WI X (sl j) s (fun s' => stillB X sl (st j) listed s' ∧ WAny X ops sl st R fuel (listed.setIfInBounds j true) s')

end GP
