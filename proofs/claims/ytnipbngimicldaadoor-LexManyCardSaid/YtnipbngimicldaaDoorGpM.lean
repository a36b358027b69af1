import Derived.Test.YtnipbngimicldaaDoorGpL
/- Soundness of one operation. -/
namespace GP
open Go

variable {P : Program} {X : Pred} {imp : Hn} {dr : Bool} {j : Pl} {c : Cx} {s : S} {a : Act} {w : World} {K : D → S → Prop}

/-- The three ways in which an operation goes on. -/
def OpGoes (P : Program) (o : Oper) (a : Act) (c : Cx) (w : World) (s : S) (K : D → S → Prop) : Prop :=
  (∃ v w', (execOp a.eval o).run P w = .ok (.value v) w' ∧ Res c w s K v w') ∨
  (∃ w', (execOp a.eval o).run P w = .ok .skip w' ∧ Res c w s K undef w') ∨
  (∃ f args, (execOp a.eval o).run P w = .ok (.enter f args) w ∧ Calls P f args w (fun e w' => ∃ v, e = .returned v ∧ Res c w s K v w'))

theorem goes_val {o : Oper} {m : Sem Value} (he : execOp a.eval o = do pure (.value (← m))) {v : Value} {w' : World} (hm : m.run P w = .ok v w') (hr : Res c w s K v w') : OpGoes P o a c w s K :=
  .inl ⟨v, w', by rw [he]; simp [hm], hr⟩

theorem goes_quiet {o : Oper} {m : Sem Value} (hs : Sim c s a w) (he : execOp a.eval o = do pure (.value (← m))) {d : D} (hk : K d s) (h : ∃ u, m.run P w = .ok u w ∧ Rep c d u) : OpGoes P o a c w s K := by
  obtain ⟨u, h1, h2⟩ := h
  exact goes_val he h1 (.quiet hs hk h2)

theorem goes_yld {o : Oper} {m : Sem Value} (he : execOp a.eval o = do pure (.value (← m))) {d : D} {s' : S} (hk : K d s') (ht : s'.t = s.t) (h : Yld c w s'.H s'.T d (m.run P w)) : OpGoes P o a c w s K := by
  obtain ⟨v, w', e⟩ := h.ok
  rw [e] at h
  exact goes_val he e (.of_yld h hk ht)

theorem K1_ok {o : Option D} (h : K1 K s o) : ∃ d, o = some d ∧ K d s := by
  cases o with
  | none => exact h.elim
  | some d => exact ⟨d, rfl, h⟩

theorem call_sound [HasG P] (hX : ∀ f args H T Q, X f args H T Q → Snd P f args H T Q) {dst : Option Tmp} {f : Operand} {args : Array Operand} {ats : Array TypeId} {ty : TypeId} {pos : String} {after : Array Edge} {guard : Option (Nat × Bool)}
    (hG : HasG.G P c w) (hs : Sim c s a w) {r : Rd} {rs : List Rd} (hf : cRd f = some r) (hargs : cRds args.toList = some rs) {g : FuncId} {first cap : List D} (hr : s.ev r = .fn g first cap) {Q : Post}
    (hQ : X g (first ++ rs.map s.ev ++ cap) s.H s.T Q) (hK : ∀ d H T, Q d H T → K d ⟨s.t, H, T⟩) :
    OpGoes P ⟨dst, .call { callee := .value f, args, argTypes := ats }, ty, pos, after, guard⟩ a c w s K := by
  have hrf := cRd_rep hf hs.fr
  rw [hr] at hrf
  have hra := cRds_rep hargs hs.fr
  generalize hv : a.eval f = vf at hrf
  cases hrf with
  | fn _ _ _ vp vq hp hq hpr hqr =>
    have hreps : Reps c (first ++ rs.map s.ev ++ cap) (vp ++ args.toList.map a.eval ++ vq) := (Reps.append ⟨hp, hpr⟩ hra).append ⟨hq, hqr⟩
    have hres : ∀ m, (execOp a.eval ⟨dst, .call { callee := .value f, args, argTypes := ats }, ty, pos, after, guard⟩).run P w = m ↔ (callFunc g (vp ++ args.toList.map a.eval ++ vq).toArray).run P w = m := by
      intro m
      have : (vp.toArray ++ args.map a.eval ++ vq.toArray) = (vp ++ args.toList.map a.eval ++ vq).toArray := by
        apply Array.toList_inj.1; simp
      simp only [execOp, resolve, hv, Deferred.ofValue, pure_bind, invoke, this]
    have hpost : ∀ v w', CallPost c w Q (.returned v) w' → Res c w s K v w' := by
      rintro v w' ⟨v', e, r', H', T', c', h1, h2, h3, h4, h5, h6⟩
      injection e with e; subst e
      exact ⟨r', ⟨s.t, H', T'⟩, c', hK _ _ _ h1, rfl, h2, h3, h4, h5, h6⟩
    rcases hX _ _ _ _ _ hQ c w _ hG hs.inv hs.T hreps with ⟨h1, h2⟩ | ⟨v, w', h1, h2⟩
    · refine .inr (.inr ⟨g, _, (hres _).2 h1, h2.mono ?_⟩)
      rintro e w' hp
      obtain ⟨v, rfl, _⟩ := id hp
      exact ⟨v, rfl, hpost v w' hp⟩
    · exact .inl ⟨v, w', (hres _).2 h1, hpost v w' h2⟩

theorem parts_rep {place : Nat → Option (Nat × Nat)} (hf : FR c s.t a) : ∀ {ps : List (Nat × Operand)} {l : List (Nat × Nat × Rd)}, cParts place ps = some l → (l.all fun p => (s.ev p.2.2).okc) = true →
    PartsRep c place (l.map fun p => (p.1, p.2.1, s.ev p.2.2)) (ps.map fun p => (p.1, a.eval p.2))
  | [], l, h, _ => by simp [cParts] at h; subst h; exact .nil
  | (i, x) :: ps, l, h, hk => by
    simp only [cParts] at h
    split at h
    · rename_i off sz r rs h1 h2 h3
      injection h with h; subst h
      simp only [List.all_cons, Bool.and_eq_true] at hk
      exact .cons h1 (cRd_rep h2 hf) hk.1 (parts_rep hf h3 hk.2)
    · cases h

theorem build_struct {t : TypeId} {fs : Array Field} {z r : List D} (ht : structOf P t = some fs) (hz : tz P t = some z) {ps : List (Nat × Value)} {l : List (Nat × Nat × D)} (hp : PartsRep c (fieldPlaces P fs) l ps)
    (hall : (List.range fs.size).all (fun i => (fieldPlaces P fs i).isSome) = true) (ha : (l.all fun p => p.2.2.cells.length == p.2.1) = true) (hr : fillD z (l.map fun p => (p.1, p.2.2.cells)) = some r) :
    ∃ u, (Instr.build t ps.toArray).run P w = .ok u w ∧ Rep c (.agg r) u := by
  obtain ⟨zv, z1, z2⟩ := run_zero (P := P) hz c
  obtain ⟨cs', h1, h2⟩ := fill_sound hp z2 ha hr
  have hm : ∀ l : List Field, (∀ f ∈ l, ∃ n, tsz P f.type = some n) → (l.mapM (fun f => do pure (f.offset, ← Go.sizeOf f.type) : Field → Sem (Nat × Nat))).run P w = .ok (l.map fun f => (f.offset, (tsz P f.type).getD 0)) w := by
    intro l
    induction l with
    | nil => intro _; simp
    | cons f l ih =>
      intro h
      obtain ⟨n, hn⟩ := h f (by simp)
      have ih' := ih (fun g hg => h g (by simp [hg]))
      simp only [List.mapM_cons, Sem.run_bind, run_size hn, Result.andThen_ok, Sem.run_pure, ih', List.map_cons, hn, Option.getD_some]
  have hfs : ∀ f ∈ fs.toList, ∃ n, tsz P f.type = some n := by
    intro f hf
    obtain ⟨i, hi, rfl⟩ := List.getElem_of_mem hf
    have hi' : i < fs.size := by simpa using hi
    have := List.all_eq_true.1 hall i (by simpa using hi')
    simp only [fieldPlaces, Array.getElem?_eq_getElem hi'] at this
    have e : fs.toList[i] = fs[i] := by simp
    rw [e]
    cases hn : tsz P (fs[i]).type with
    | none => rw [hn] at this; cases this
    | some n => exact ⟨n, rfl⟩
  have hplace : (fun i => (fs.toList.map fun f => (f.offset, (tsz P f.type).getD 0)).toArray[i]?) = fieldPlaces P fs := by
    funext i
    simp only [fieldPlaces]
    rcases Nat.lt_or_ge i fs.size with hi | hi
    · obtain ⟨n, hn⟩ := hfs fs[i] (by simp)
      simp [Array.getElem?_eq_getElem hi, hn]
    · simp [Array.getElem?_eq_none hi]
  refine ⟨.agg cs', ?_, Rep.agg _ _ h2.len h2.one h2.rep⟩
  have hm' := hm fs.toList hfs
  have : (fs.mapM (fun f => do pure (f.offset, ← Go.sizeOf f.type) : Field → Sem (Nat × Nat))).run P w = .ok (fs.toList.map fun f => (f.offset, (tsz P f.type).getD 0)).toArray w := by
    rw [Array.mapM_eq_mapM_toList]
    rw [Sem.run_map]
    simp only [hm', Result.andThen_ok]
  simp only [Instr.build, Sem.run_bind, z1, Result.andThen_ok, run_underlying (structOf_eq ht), this]
  rw [hplace, h1]
  simp

theorem build_array {t e : TypeId} {len sz : Nat} {z r : List D} (ht : arrayOf P t = some (len, e)) (hsz : tsz P e = some sz) (hz : tz P t = some z) {ps : List (Nat × Value)} {l : List (Nat × Nat × D)} (hp : PartsRep c (fun i => some (i * sz, sz)) l ps)
    (ha : (l.all fun p => p.2.2.cells.length == p.2.1) = true) (hr : fillD z (l.map fun p => (p.1, p.2.2.cells)) = some r) :
    ∃ u, (Instr.build t ps.toArray).run P w = .ok u w ∧ Rep c (.agg r) u := by
  obtain ⟨zv, z1, z2⟩ := run_zero (P := P) hz c
  obtain ⟨cs', h1, h2⟩ := fill_sound hp z2 ha hr
  refine ⟨.agg cs', ?_, Rep.agg _ _ h2.len h2.one h2.rep⟩
  simp only [Instr.build, Sem.run_bind, z1, Result.andThen_ok, run_underlying (arrayOf_eq ht), run_size hsz]
  rw [h1]
  simp

end GP
