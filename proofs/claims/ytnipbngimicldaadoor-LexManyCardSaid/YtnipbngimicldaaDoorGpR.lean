import Derived.Test.YtnipbngimicldaaDoorGpQ
/- Whatever order is drawn: one walk of a reference order serves every order. -/
namespace GP
open Go

variable {P : Program} {X : Pred} {ops : Array Oper} {sl : Nat → I} {st : Nat → List Nat} {R : S → Prop}

def atOf : I → Option Nat
  | ⟨_, none, .allocAt j _⟩ | ⟨_, none, .boxAt j _⟩ | ⟨_, none, .rawAt j _⟩ | ⟨_, none, .fillAt j _ _ _⟩ => some j
  | _ => none

def tOnly : O → Bool
  | .bsl _ _ | .s2b _ | .app _ _ _ _ _ => true
  | _ => false

def apartI (x y : I) : Bool :=
  (match x.d with | some d => !y.looks.contains d && y.d != some d | none => true) && (match y.d with | some d => !x.looks.contains d | none => true)

theorem apartI_spec {x y : I} (h : apartI x y = true) : (∀ d, x.d = some d → d ∉ y.looks) ∧ (∀ d, x.d = some d → y.d ≠ some d) ∧ (∀ d, y.d = some d → d ∉ x.looks) := by
  unfold apartI at h
  rw [Bool.and_eq_true] at h
  refine ⟨fun d hd => ?_, fun d hd => ?_, fun d hd => ?_⟩
  · rw [hd] at h; simp at h; exact h.1.1
  · rw [hd] at h; simp at h; exact h.1.2
  · rw [hd] at h; simp at h; exact h.2

def offI (x y : I) : Bool := match x.d with | some d => !y.looks.contains d && y.d != some d | none => true

/-- May 'j' come up ahead of the quiet 'i'? -/
def okQ (S : Array Bool) (sl : Nat → I) (st : Nat → List Nat) (i j : Nat) : Bool :=
  apartI (sl i) (sl j) &&
  (isQuiet (sl j).o || (atOf (sl j)).isSome ||
    (tOnly (sl j).o || !isHdep (sl i).o || ((st j).contains i && (match (sl i).d with | some d => !(sl i).looks.contains d | none => false)))) &&
  (st j).all (fun k => k == i || offI (sl i) (sl k) || !S.getD k false)

/-- May 'j' come up ahead of 'i', both making an object? -/
def okA (sl : Nat → I) (st : Nat → List Nat) (i j : Nat) : Bool :=
  apartI (sl i) (sl j) && (atOf (sl j)).isSome && (atOf (sl j) != atOf (sl i)) && (st j).isEmpty

/-- All that may come up ahead of 'i'. -/
def ahead (ops : Array Oper) (i : Nat) : Nat → Array Bool → Array Bool
  | 0, S => S
  | f + 1, S => match (ready ops S).filter (· != i) with
    | [] => S
    | l => ahead ops i f (l.foldl (fun S j => S.setIfInBounds j true) S)

def closed (ops : Array Oper) (i : Nat) (listed S : Array Bool) : Bool :=
  (ready ops S).all (· == i) && (List.range listed.size).all (fun k => !listed.getD k false || S.getD k false) && !S.getD i true && (S.size == listed.size)

def chk (ops : Array Oper) (sl : Nat → I) (st : Nat → List Nat) : List Nat → Array Bool → Bool
  | [], listed => (ready ops listed).isEmpty
  | i :: rest, listed =>
    (ready ops listed).contains i && chk ops sl st rest (listed.setIfInBounds i true) &&
    (if isQuiet (sl i).o then
      let S := ahead ops i ops.size listed
      closed ops i listed S && (st i).isEmpty && (List.range listed.size).all fun j => !S.getD j false || listed.getD j false || okQ S sl st i j
    else match atOf (sl i) with
      | some _ =>
        let S := ahead ops i ops.size listed
        closed ops i listed S && (st i).isEmpty && (List.range listed.size).all fun j => !S.getD j false || listed.getD j false || okA sl st i j
      | none => ready ops listed == [i])

/-- Within S, but for what is to come. -/
def Within (listed S : Array Bool) : Prop := listed.size = S.size ∧ ∀ k, listed.getD k false = true → S.getD k false = true

theorem closed_within {i : Nat} {listed S : Array Bool} (h : closed ops i listed S = true) : Within listed S ∧ S.getD i true = false ∧ ∀ k ∈ ready ops S, k = i := by
  unfold closed at h
  simp only [Bool.and_eq_true, beq_iff_eq, Bool.not_eq_true', List.all_eq_true] at h
  obtain ⟨⟨⟨h1, h2⟩, h3⟩, h4⟩ := h
  refine ⟨⟨h4.symm, fun k hk => ?_⟩, h3, fun k hk => by simpa using h1 k hk⟩
  have hlt : k < listed.size := by
    rcases Nat.lt_or_ge k listed.size with h' | h'
    · exact h'
    · simp [Array.getElem?_eq_none h'] at hk
  have := h2 k (by simpa using hlt)
  simpa [hk] using this

theorem within_ready {i : Nat} {listed S : Array Bool} (hw : Within listed S) (hc : ∀ k ∈ ready ops S, k = i) {j : Nat} (hj : j ∈ ready ops listed) (hne : j ≠ i) : S.getD j false = true := by
  unfold ready at hj hc
  rw [mem_ready] at hj
  obtain ⟨h0, o, ho, hall⟩ := hj
  cases hS : S.getD j false with
  | true => rfl
  | false =>
    exfalso
    refine hne (hc j (mem_ready.2 ⟨?_, o, ho, fun e he hb => hw.2 _ (hall e he hb)⟩))
    have hlt : j < listed.size := by
      rcases Nat.lt_or_ge j listed.size with h' | h'
      · exact h'
      · simp [Array.getElem?_eq_none h'] at h0
    have hlt' : j < S.size := by rw [← hw.1]; exact hlt
    simpa [Array.getElem?_eq_getElem hlt'] using hS

theorem within_set {listed S : Array Bool} (hw : Within listed S) {j : Nat} (hj : S.getD j false = true) : Within (listed.setIfInBounds j true) S := by
  refine ⟨by simp [hw.1], fun k hk => ?_⟩
  by_cases e : j = k
  · subst e; exact hj
  · rw [getD_set_ne false e] at hk; exact hw.2 k hk

theorem ready_lt {listed : Array Bool} {j : Nat} (hj : j ∈ ready ops listed) : j < ops.size ∧ listed.getD j true = false := by
  unfold ready at hj
  rw [mem_ready] at hj
  obtain ⟨h0, o, ho, _⟩ := hj
  refine ⟨?_, h0⟩
  rcases Nat.lt_or_ge j ops.size with h' | h'
  · exact h'
  · simp [Array.getElem?_eq_none h'] at ho

theorem getD_false_of_true {listed : Array Bool} {j : Nat} (h : listed.getD j true = false) : listed.getD j false = false := by
  rcases Nat.lt_or_ge j listed.size with h' | h'
  · simpa [Array.getElem?_eq_getElem h'] using h
  · simp [Array.getElem?_eq_none h'] at h

theorem stillB_put {S : Array Bool} {j : Nat} {listed : Array Bool} {i : Nat} {v : D} (hX : Mono X) (hun : listed.getD i true = false) (hw : Within listed S) (h : (st j).all (fun k => k == i || offI (sl i) (sl k) || !S.getD k false) = true) {s : GP.S}
    (hs : stillB X sl (st j) (listed.setIfInBounds i true) (s.put (sl i).d v)) : stillB X sl (st j) listed s := by
  intro k hk hl
  have hki : k ≠ i := fun e => by subst e; rw [getD_false_of_true hun] at hl; cases hl
  have h1 := hs k hk (by rw [getD_set_ne false (Ne.symm hki)]; exact hl)
  have h2 := List.all_eq_true.1 h k hk
  rw [hw.2 k hl, Bool.not_true, Bool.or_false] at h2
  simp only [Bool.or_eq_true, beq_iff_eq] at h2
  have h3 := h2.resolve_left hki
  have hoff : (∀ d, (sl i).d = some d → d ∉ (sl k).looks) ∧ (∀ d, (sl i).d = some d → (sl k).d ≠ some d) := by
    unfold offI at h3
    refine ⟨fun d hd => ?_, fun d hd => ?_⟩ <;> rw [hd] at h3 <;> simp at h3
    · exact h3.1
    · exact h3.2
  unfold still at h1 ⊢
  rw [gd_put hoff.1] at h1
  split
  · rename_i d hg hd
    rw [hg, hd] at h1
    simp only at h1
    have e : (s.put (sl i).d v).t d = s.t d := by
      cases hdi : (sl i).d with
      | none => rfl
      | some di =>
        have : d ≠ di := fun e => hoff.2 di hdi (by rw [hd, e])
        show upd s.t di v d = s.t d
        simp [upd, this]
    rw [e] at h1
    refine WO_imp hX (s := s.put (sl i).d v) (put_H _ _ _).1.symm (put_H _ _ _).2.symm (fun r hr => (rds_put hoff.1 r hr).symm) (fun u H T hu => hu) h1
  · trivial

theorem WO_eff {o : O} (ht : tOnly o = true) {s : S} {K : D → S → Prop} (h : WO X o s K) : WO X o s (fun u s' => K u s' ∧ s'.H = s.H) := by
  cases o <;> simp [tOnly] at ht
  · exact ⟨h.1, h.2, rfl⟩
  · rename_i x
    change s2bK K s (s.ev x) at h
    show s2bK (fun u s' => K u s' ∧ s'.H = s.H) s (s.ev x)
    cases hx : s.ev x <;> rw [hx] at h <;> simp only [s2bK] at h ⊢ <;> first | exact h | exact ⟨h, rfl⟩ | exact ⟨h, trivial⟩
  · rename_i str sz bytes x y
    change appK sz bytes K s (s.ev x) (appSrc str (s.ev y)) at h
    show appK sz bytes (fun u s' => K u s' ∧ s'.H = s.H) s (s.ev x) (appSrc str (s.ev y))
    cases hy : appSrc str (s.ev y) with
    | none => rw [hy] at h; exact h
    | some ys =>
      rw [hy] at h
      refine ⟨h.1, ?_⟩
      have h2 := h.2
      cases hx : s.ev x with
      | nils =>
        rw [hx] at h2
        simp only at h2 ⊢
        split
        · rename_i e; rw [if_pos e] at h2; first | exact ⟨h2, rfl⟩ | exact ⟨h2, trivial⟩
        · rename_i e; rw [if_neg e] at h2; first | exact ⟨h2.1, h2.2.1, h2.2.2, rfl⟩ | exact ⟨h2.1, h2.2.1, h2.2.2, trivial⟩
      | e0 =>
        rw [hx] at h2
        simp only at h2 ⊢
        split
        · rename_i e; rw [if_pos e] at h2; first | exact ⟨h2, rfl⟩ | exact ⟨h2, trivial⟩
        · rename_i e; rw [if_neg e] at h2; first | exact ⟨h2.1, h2.2.1, h2.2.2, rfl⟩ | exact ⟨h2.1, h2.2.1, h2.2.2, trivial⟩
      | sl t xs =>
        rw [hx] at h2
        cases t with
        | none => exact h2
        | some t => first | exact ⟨h2.1, h2.2.1, h2.2.2.1, h2.2.2.2.1, h2.2.2.2.2, rfl⟩ | exact ⟨h2.1, h2.2.1, h2.2.2.1, h2.2.2.2.1, h2.2.2.2.2, trivial⟩
      | _ => rw [hx] at h2; exact h2

/-- The operations that may fill a place that reads as blank behind them. -/
def isPl : O → Bool
  | .rawAt _ _ | .fillAt _ _ _ _ => true
  | _ => false

theorem WO_at {o : O} {j : Nat} {i : I} (hi : i.o = o) (ha : atOf i = some j) {s : S} {K : D → S → Prop} (h : WO X o s K) :
    ∃ (b u : Ob) (r : D), b.blank = true ∧ (isPl o = true → j ≤ s.H.length) ∧ (isPl o = false → b = .hole) ∧ (u.blank = true → isPl o = true) ∧ u ≠ .hole ∧ s.H[s.H.length - j]? = some b ∧ K r ⟨s.t, s.H.set (s.H.length - j) u, s.T⟩ ∧
      ∀ s' : S, s'.H.length = s.H.length → s'.H[s.H.length - j]? = some b → (∀ r ∈ o.rds, s'.ev r = s.ev r) → ∀ K' : D → S → Prop, K' r ⟨s'.t, s'.H.set (s.H.length - j) u, s'.T⟩ → WO X o s' K' := by
  obtain ⟨d, g, oo⟩ := i
  simp only at hi
  subst hi
  cases g with
  | some p => cases oo <;> simp [atOf] at ha
  | none =>
    cases oo <;> simp [atOf] at ha
    · rename_i j' z
      subst ha
      change atK K s (s.H.length - j') z s.H[s.H.length - j']? at h
      obtain ⟨h1, h2⟩ := atK_ok h
      refine ⟨.hole, .row z, _, rfl, fun h => (by cases h), fun _ => rfl, fun h => (by cases h), (by simp), h1, h2, fun s' hl hh _ K' hk => ?_⟩
      show atK K' s' (s'.H.length - j') z s'.H[s'.H.length - j']?
      rw [hl, hh]; exact hk
    · rename_i j' z
      subst ha
      obtain ⟨h0, h⟩ := h
      obtain ⟨h1, h2⟩ := rawK_ok h
      refine ⟨.hole, .raw z, _, rfl, fun _ => h0, fun h => (by cases h), fun _ => rfl, (by simp), h1, h2, fun s' hl hh _ K' hk => ?_⟩
      show _ ∧ rawK K' s' (s'.H.length - j') z s'.H[s'.H.length - j']?
      rw [hl, hh]; exact ⟨h0, hk⟩
    · rename_i j' n x y
      subst ha
      obtain ⟨h0, h⟩ := h
      obtain ⟨z, h1, q1, q2, q3, q4, h2⟩ := fillK_ok h
      refine ⟨.raw z, .row (s.ev y).cells, _, rfl, fun _ => h0, fun h => (by cases h), fun h => (by cases h), (by simp), h1, h2, fun s' hl hh hev K' hk => ?_⟩
      have e1 := hev x (by simp [O.rds])
      have e2 := hev y (by simp [O.rds])
      show _ ∧ fillK K' s' (s'.H.length - j') n (s'.ev x) (s'.ev y) s'.H[s'.H.length - j']?
      rw [hl, hh, e1, e2]; exact ⟨h0, q1, q2, q3, q4, hk⟩
    · rename_i j' x
      subst ha
      obtain ⟨hk0, h⟩ := h
      obtain ⟨h1, h2⟩ := atK_ok h
      refine ⟨.hole, .row (s.ev x).cells, _, rfl, fun h => (by cases h), fun _ => rfl, fun h => (by cases h), (by simp), h1, h2, fun s' hl hh hev K' hk => ?_⟩
      have e := hev x (by simp [O.rds])
      show _ ∧ atK K' s' (s'.H.length - j') (s'.ev x).cells s'.H[s'.H.length - j']?
      rw [hl, hh, e]; exact ⟨hk0, hk⟩

theorem gd_at {i : I} {j : Nat} (ha : atOf i = some j) (s : S) : gd s i.g = some true := by
  obtain ⟨d, g, oo⟩ := i
  cases g with
  | some p => cases oo <;> simp [atOf] at ha
  | none => rfl

theorem WI_form {i : I} {s : S} {K K' : S → Prop} (hX : Mono X) (h : WI X i s K) (hk : ∀ u H T, K ((⟨s.t, H, T⟩ : S).put i.d u) → K' ((⟨s.t, H, T⟩ : S).put i.d u)) : WI X i s K' := by
  unfold WI WIk at *
  split
  · rename_i hg; rw [hg] at h; exact WO_imp hX rfl rfl (fun _ _ => rfl) (fun u H T h => hk u H T h) h
  · rename_i hg; rw [hg] at h; exact hk (.tup []) s.H s.T h
  · rename_i hg; rw [hg] at h; exact h

/-- A quiet instruction that may come up now may be taken first. -/
theorem first_quiet (hX : Mono X) {i : Nat} {v : D} (hq : isQuiet (sl i).o = true) {S : Array Bool} (hclosed : ∀ k ∈ ready ops S, k = i) (hSi : S.getD i true = false) : ∀ (fuel : Nat) (listed : Array Bool) (s : GP.S),
    Within listed S → (∀ j, S.getD j false = true → listed.getD j false = false → okQ S sl st i j = true) → i ∈ ready ops listed → Y X (sl i) v s → (st i) = [] →
    WAny X ops sl st R fuel (listed.setIfInBounds i true) (s.put (sl i).d v) → WAny X ops sl st R (fuel + 1) listed s := by
  intro fuel
  induction fuel with
  | zero =>
    intro listed s hw hok hr hy hst H
    refine ⟨fun h => (by rw [h] at hr; cases hr), fun j hj => ?_⟩
    by_cases hji : j = i
    · subst hji
      refine hy.wi ⟨?_, H⟩
      rw [hst]; intro k hk; cases hk
    · have := ready_mono (md := .any) hj hji
      have h0 := H.1
      unfold ready at h0
      rw [h0] at this
      cases this
  | succ fuel ih =>
    intro listed s hw hok hr hy hst H
    refine ⟨fun h => (by rw [h] at hr; cases hr), fun j hj => ?_⟩
    by_cases hji : j = i
    · subst hji
      refine hy.wi ⟨?_, H⟩
      rw [hst]; intro k hk; cases hk
    · have hSj := within_ready hw hclosed hj hji
      have hjun := (ready_lt hj).2
      have hokj := hok j hSj (getD_false_of_true hjun)
      unfold okQ at hokj
      simp only [Bool.and_eq_true] at hokj
      obtain ⟨⟨hap, hcase⟩, hst'⟩ := hokj
      obtain ⟨a1, a2, a3⟩ := apartI_spec hap
      have hj' : j ∈ ready ops (listed.setIfInBounds i true) := ready_mono (md := .any) hj hji
      have h1 := WI_put hX a1 a2 (H.2 j hj')
      have hiun := (ready_lt hr).2
      -- what goes on behind j
      have next : ∀ s' : GP.S, Y X (sl i) v s' → stillB X sl (st j) (listed.setIfInBounds i true) (s'.put (sl i).d v) ∧ WAny X ops sl st R fuel ((listed.setIfInBounds i true).setIfInBounds j true) (s'.put (sl i).d v) →
          stillB X sl (st j) listed s' ∧ WAny X ops sl st R (fuel + 1) (listed.setIfInBounds j true) s' := by
        intro s' hy' hh
        refine ⟨stillB_put hX hiun hw hst' hh.1, ih _ s' (within_set hw hSj) ?_ (ready_mono (md := .any) hr (Ne.symm hji)) hy' hst ?_⟩
        · intro k hk hl
          refine hok k hk ?_
          by_cases e : j = k
          · subst e; exact getD_false_of_true hjun
          · rwa [getD_set_ne false e] at hl
        · rw [Array.setIfInBounds_comm _ _ hji]; exact hh.2
      -- i yields v behind j
      have same : ∀ (u : D) (H' : Hp) (T' : Tk), (isHdep (sl i).o = true → H' = s.H) → Y X (sl i) v ((⟨s.t, H', T'⟩ : GP.S).put (sl j).d u) := by
        intro u H' T' hH
        refine hy.atq hq (fun h => by rw [(put_H _ _ _).1]; exact hH h) ?_ ?_
        · rw [gd_put a3]; rfl
        · intro r hr'
          rw [rds_put a3 r hr']
          cases r <;> rfl
      simp only [Bool.or_eq_true] at hcase
      rcases hcase with (hqj | hat) | heff
      · obtain ⟨u, hu1, hu2⟩ := Y.of_quiet hqj h1
        exact hu1.wi (next _ (same u s.H s.T (fun _ => rfl)) hu2)
      · obtain ⟨m, hat⟩ := Option.isSome_iff_exists.1 hat
        unfold WI WIk at h1 ⊢
        rw [gd_at hat] at h1 ⊢
        obtain ⟨b, z, r0, gb, _, _, _, _, g1, g2, g3⟩ := WO_at rfl hat h1
        refine g3 s rfl g1 (fun _ _ => rfl) _ ?_
        refine next _ ?_ g2
        have := (hy.fill hq (u := z) gb g1)
        refine Y.atq hq this (fun _ => by rw [(put_H _ _ _).1]) ?_ ?_
        · rw [gd_put a3]
        · intro r hr'; rw [rds_put a3 r hr']
      · rcases heff with (ht | hnd) | hstj
        · unfold WI WIk at h1 ⊢
          split at h1
          · have h2 := WO_eff ht h1
            refine WO_imp hX rfl rfl (fun _ _ => rfl) (fun u H' T' hh => ?_) h2
            exact next _ (same u H' T' (fun _ => hh.2)) hh.1
          · exact next _ (same _ s.H s.T (fun _ => rfl)) h1
          · exact h1.elim
        · refine WI_form hX h1 (fun u H' T' hh => next _ (same u H' T' (fun h => by rw [h] at hnd; cases hnd)) hh)
        · rw [Bool.and_eq_true] at hstj
          obtain ⟨hmem, hself⟩ := hstj
          refine WI_form hX h1 (fun u H' T' hh => next _ ?_ hh)
          have hi' : i ∈ st j := by simpa using hmem
          have hbs : (listed.setIfInBounds i true).getD i false = true := by
            have hlt : i < listed.size := by
              rcases Nat.lt_or_ge i listed.size with h' | h'
              · exact h'
              · simp [Array.getElem?_eq_none h'] at hiun
            simp [hlt]
          have hstill := hh.1 i hi' hbs
          cases hdi : (sl i).d with
          | none => rw [hdi] at hself; cases hself
          | some di =>
            rw [hdi] at hself
            have hself : di ∉ (sl i).looks := by simpa using hself
            have hself' : ∀ k, some di = some k → k ∉ (sl i).looks := fun k hk => by injection hk with hk; subst hk; exact hself
            unfold still at hstill
            rw [hdi, gd_put hself'] at hstill
            have hg0 : gd ((⟨s.t, H', T'⟩ : GP.S).put (sl j).d u) (sl i).g = gd s (sl i).g := by rw [gd_put a3]; rfl
            rw [hg0] at hstill
            rcases hy with ⟨y1, y2⟩ | ⟨y1, y2⟩
            · rw [y1] at hstill
              simp only at hstill
              have hv : (((⟨s.t, H', T'⟩ : GP.S).put (sl j).d u).put (some di) v).t di = v := by show upd _ _ _ _ = _; simp [upd]
              rw [hv] at hstill
              obtain ⟨v', w1, w2⟩ := quiet_WO hq hstill
              subst w2
              have hY : Y X (sl i) v' (((⟨s.t, H', T'⟩ : GP.S).put (sl j).d u).put (some di) v') := .inl ⟨by rw [gd_put hself', hg0]; exact y1, w1⟩
              refine hY.atq hq (fun _ => by rw [(put_H _ (some di) v').1]) (by rw [gd_put hself']) (fun r hr' => ?_)
              rw [rds_put hself' r hr']
            · exact .inr ⟨by rw [hg0]; exact y1, y2⟩

/-- An instruction that makes an object in its own place may be taken first. -/
theorem first_at (hX : Mono X) {i m : Nat} (ha : atOf (sl i) = some m) {S : Array Bool} (hclosed : ∀ k ∈ ready ops S, k = i) : ∀ (fuel : Nat) (listed : Array Bool) (s : GP.S),
    Within listed S → (∀ j, S.getD j false = true → listed.getD j false = false → okA sl st i j = true) → i ∈ ready ops listed → (st i) = [] →
    WI X (sl i) s (fun s' => WAny X ops sl st R fuel (listed.setIfInBounds i true) s') → WAny X ops sl st R (fuel + 1) listed s := by
  intro fuel
  induction fuel with
  | zero =>
    intro listed s hw hok hr hst H
    refine ⟨fun h => (by rw [h] at hr; cases hr), fun j hj => ?_⟩
    by_cases hji : j = i
    · subst hji
      refine WI_mono hX (fun s' h => ⟨?_, h⟩) H
      rw [hst]; intro k hk; cases hk
    · exfalso
      have := ready_mono (md := .any) hj hji
      unfold WI WIk at H
      rw [gd_at ha] at H
      obtain ⟨b, z, r0, gb, _, _, _, _, g1, g2, g3⟩ := WO_at rfl ha H
      have h0 := g2.1
      unfold ready at h0
      rw [h0] at this
      cases this
  | succ fuel ih =>
    intro listed s hw hok hr hst H
    refine ⟨fun h => (by rw [h] at hr; cases hr), fun j hj => ?_⟩
    by_cases hji : j = i
    · subst hji
      refine WI_mono hX (fun s' h => ⟨?_, h⟩) H
      rw [hst]; intro k hk; cases hk
    · have hSj := within_ready hw hclosed hj hji
      have hjun := (ready_lt hj).2
      have hokj := hok j hSj (getD_false_of_true hjun)
      unfold okA at hokj
      simp only [Bool.and_eq_true, bne_iff_ne, ne_eq] at hokj
      obtain ⟨⟨⟨hap, hat⟩, hne⟩, hstj⟩ := hokj
      obtain ⟨a1, a2, a3⟩ := apartI_spec hap
      obtain ⟨m', hat⟩ := Option.isSome_iff_exists.1 hat
      have hmm : m' ≠ m := fun e => hne (by rw [hat, ha, e])
      have hj' : j ∈ ready ops (listed.setIfInBounds i true) := ready_mono (md := .any) hj hji
      unfold WI WIk at H
      rw [gd_at ha] at H
      obtain ⟨b, z, r0, gb, gl, gh, gn, gnh, g1, g2, g3⟩ := WO_at rfl ha H
      have h1 := g2.2 j hj'
      unfold WI WIk at h1
      rw [gd_at hat] at h1
      obtain ⟨b', z', r', kb, kl, kh, kn, knh, k1, k2, k3⟩ := WO_at rfl hat h1
      -- the places are two
      have hlen : ((⟨s.t, s.H.set (s.H.length - m) z, s.T⟩ : GP.S).put (sl i).d r0).H.length = s.H.length := by rw [(put_H _ _ _).1]; simp
      rw [hlen] at k1 k2 k3 kl
      rw [(put_H _ _ _).1] at k1
      have hpl : s.H.length - m' ≠ s.H.length - m := by
        intro e
        rw [e] at k1
        have hlt : s.H.length - m < s.H.length := by
          rcases Nat.lt_or_ge (s.H.length - m) s.H.length with h' | h'
          · exact h'
          · rw [List.getElem?_eq_none h'] at g1; cases g1
        rw [List.getElem?_set_self hlt] at k1
        injection k1 with k1
        subst k1
        have p1 := gl (gn kb)
        cases hp : isPl (sl j).o with
        | true => have := kl hp; omega
        | false =>
          exact gnh (kh hp)
      rw [List.getElem?_set_ne (Ne.symm hpl)] at k1
      unfold WI WIk
      rw [gd_at hat]
      have hev : ∀ r ∈ (sl j).o.rds, s.ev r = ((⟨s.t, s.H.set (s.H.length - m) z, s.T⟩ : GP.S).put (sl i).d r0).ev r := by
        intro r hr'
        rw [rds_put a1 r hr']
        cases r <;> rfl
      refine k3 s rfl k1 hev _ ⟨?_, ?_⟩
      · have : st j = [] := by simpa using hstj
        rw [this]; intro k hk; cases hk
      · refine ih _ _ (within_set hw hSj) ?_ (ready_mono (md := .any) hr (Ne.symm hji)) hst ?_
        · intro k hk hl
          refine hok k hk ?_
          by_cases e : j = k
          · subst e; exact getD_false_of_true hjun
          · rwa [getD_set_ne false e] at hl
        · unfold WI WIk
          rw [gd_at ha]
          have hl2 : ((⟨s.t, s.H.set (s.H.length - m') z', s.T⟩ : GP.S).put (sl j).d r').H.length = s.H.length := by rw [(put_H _ _ _).1]; simp
          have hh2 : ((⟨s.t, s.H.set (s.H.length - m') z', s.T⟩ : GP.S).put (sl j).d r').H[s.H.length - m]? = some b := by
            rw [(put_H _ _ _).1]
            show (s.H.set _ _)[_]? = _
            rw [List.getElem?_set_ne hpl]; exact g1
          refine g3 _ hl2 hh2 (fun r hr' => ?_) _ ?_
          · rw [rds_put a3 r hr']; cases r <;> rfl
          · have hfin := k2.2
            rw [Array.setIfInBounds_comm _ _ hji]
            have e : ((⟨((⟨s.t, s.H.set (s.H.length - m') z', s.T⟩ : GP.S).put (sl j).d r').t, ((⟨s.t, s.H.set (s.H.length - m') z', s.T⟩ : GP.S).put (sl j).d r').H.set (s.H.length - m) z,
                ((⟨s.t, s.H.set (s.H.length - m') z', s.T⟩ : GP.S).put (sl j).d r').T⟩ : GP.S).put (sl i).d r0) =
              ((⟨((⟨s.t, s.H.set (s.H.length - m) z, s.T⟩ : GP.S).put (sl i).d r0).t, ((⟨s.t, s.H.set (s.H.length - m) z, s.T⟩ : GP.S).put (sl i).d r0).H.set (s.H.length - m') z',
                ((⟨s.t, s.H.set (s.H.length - m) z, s.T⟩ : GP.S).put (sl i).d r0).T⟩ : GP.S).put (sl j).d r') := by
              have c1 : (s.H.set (s.H.length - m') z').set (s.H.length - m) z = (s.H.set (s.H.length - m) z).set (s.H.length - m') z' := List.set_comm _ _ hpl
              cases hdi : (sl i).d with
              | none =>
                cases hdj : (sl j).d with
                | none => show GP.S.mk s.t ((s.H.set (s.H.length - m') z').set (s.H.length - m) z) s.T = GP.S.mk s.t ((s.H.set (s.H.length - m) z).set (s.H.length - m') z') s.T; rw [c1]
                | some dj => show GP.S.mk (upd s.t dj r') ((s.H.set (s.H.length - m') z').set (s.H.length - m) z) s.T = GP.S.mk (upd s.t dj r') ((s.H.set (s.H.length - m) z).set (s.H.length - m') z') s.T; rw [c1]
              | some di =>
                cases hdj : (sl j).d with
                | none => show GP.S.mk (upd s.t di r0) ((s.H.set (s.H.length - m') z').set (s.H.length - m) z) s.T = GP.S.mk (upd s.t di r0) ((s.H.set (s.H.length - m) z).set (s.H.length - m') z') s.T; rw [c1]
                | some dj =>
                  have hdd : di ≠ dj := fun e => a2 di hdi (by rw [hdj, e])
                  show GP.S.mk (upd (upd s.t dj r') di r0) ((s.H.set (s.H.length - m') z').set (s.H.length - m) z) s.T = GP.S.mk (upd (upd s.t di r0) dj r') ((s.H.set (s.H.length - m) z).set (s.H.length - m') z') s.T
                  rw [c1]
                  congr 1
                  funext x
                  simp only [upd]
                  split
                  · rename_i e1; rw [if_neg (by omega)]
                  · rfl
            rw [e]
            exact hfin

theorem stillAll_B {ks : List Nat} {listed : Array Bool} {s : GP.S} (h : stillAll X (ks.map sl) s) : stillB X sl ks listed s := by
  induction ks with
  | nil => intro k hk; cases hk
  | cons a ks ih =>
    intro k hk hl
    simp only [List.map_cons, stillAll] at h
    rcases List.mem_cons.1 hk with e | hk
    · subst e; exact h.1
    · exact ih h.2 k hk hl

theorem chk_sound (hX : Mono X) : ∀ (ord : List Nat) (listed : Array Bool) (s : GP.S), chk ops sl st ord listed = true → Wd X (ord.map fun i => (sl i, (st i).map sl)) R s → WAny X ops sl st R ord.length listed s
  | [], listed, s, hc, h => ⟨by simpa [chk] using hc, h⟩
  | i :: ord, listed, s, hc, h => by
    simp only [chk, Bool.and_eq_true] at hc
    obtain ⟨⟨hr, hrec⟩, hcase⟩ := hc
    have hr : i ∈ ready ops listed := by simpa using hr
    have hrest : ∀ s', Wd X (ord.map fun i => (sl i, (st i).map sl)) R s' → WAny X ops sl st R ord.length (listed.setIfInBounds i true) s' := fun s' h' => chk_sound hX ord _ s' hrec h'
    simp only [List.map_cons, Wd] at h
    simp only [List.length_cons]
    split at hcase
    · rename_i hq
      simp only [Bool.and_eq_true] at hcase
      obtain ⟨⟨hcl, hst⟩, hall⟩ := hcase
      obtain ⟨c1, c2, c3⟩ := closed_within hcl
      obtain ⟨v, y1, y2⟩ := Y.of_quiet hq h
      refine first_quiet hX hq c3 c2 _ _ _ c1 ?_ hr y1 (by simpa using hst) (hrest _ y2.2)
      intro j hj hl
      have hlt : j < listed.size := by
        rcases Nat.lt_or_ge j listed.size with h' | h'
        · exact h'
        · rw [c1.1] at h'
          simp [Array.getElem?_eq_none h'] at hj
      have := List.all_eq_true.1 hall j (by simpa using hlt)
      simpa [hj, hl] using this
    · rename_i hq
      split at hcase
      · rename_i m ha
        simp only [Bool.and_eq_true] at hcase
        obtain ⟨⟨hcl, hst⟩, hall⟩ := hcase
        obtain ⟨c1, c2, c3⟩ := closed_within hcl
        refine first_at hX ha c3 _ _ _ c1 ?_ hr (by simpa using hst) (WI_mono hX (fun s' h' => hrest s' h'.2) h)
        intro j hj hl
        have hlt : j < listed.size := by
          rcases Nat.lt_or_ge j listed.size with h' | h'
          · exact h'
          · rw [c1.1] at h'
            simp [Array.getElem?_eq_none h'] at hj
        have := List.all_eq_true.1 hall j (by simpa using hlt)
        simpa [hj, hl] using this
      · have he : ready ops listed = [i] := by simpa using hcase
        refine ⟨fun h' => (by rw [h'] at hr; cases hr), fun j hj => ?_⟩
        rw [he] at hj
        have : j = i := by simpa using hj
        subst this
        exact WI_mono hX (fun s' h' => ⟨stillAll_B h'.1, hrest s' h'.2⟩) h

end GP
