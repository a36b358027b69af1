import Derived.Test.YtnipbngimicldaaDoorGpE
/- Soundness of the quiet operations that make no memory, the last ones. -/
namespace GP
open Go
variable {P : Program} {c : Cx} {w : World} {H : Hp}

def tqOf (P : Program) (t : TypeId) : Option Tq :=
  match P.underlying t with
  | some .bool => some .bool
  | some (.pointer _) => some .ptr
  | some (.slice _) => some .slc
  | some (.interface _) => some .ifc
  | some (.map _ _) => some .mp
  | some (.func _ _ _) => some .fn
  | _ => none

def isConstOp : Operand → Bool
  | .const _ => true
  | _ => false

theorem eq_run {t : TypeId} {vx vy : Value} {b neg : Bool} {ox oy : Operand} (hg : ∀ op, (eqGuard op t ox oy vx vy).run P w = .ok () w) (he : ∀ d, (Op.equalIn (d + 1) t vx vy).run P w = .ok b w)
    (h1 : Go.binOp .eql t vx vy = do pure (.bool (← Op.equal t vx vy))) (h2 : Go.binOp .neq t vx vy = do pure (.bool (!(← Op.equal t vx vy)))) :
    (do eqGuard (if neg then .neq else .eql) t ox oy vx vy; Go.binOp (if neg then .neq else .eql) t vx vy : Sem Value).run P w = .ok (.bool (b != neg)) w := by
  have he' : (Op.equal t vx vy).run P w = .ok b w := he 9999
  cases neg
  · simp only [Bool.false_eq_true, if_false, Sem.run_bind, hg, Result.andThen_ok, h1, he']
    simp
  · simp only [if_true, Sem.run_bind, hg, Result.andThen_ok, h2, he']
    simp

theorem guard_bool (op : BinOp) (t : TypeId) (ox oy : Operand) (a b : Bool) : (eqGuard op t ox oy (.bool a) (.bool b)).run P w = .ok () w := by cases op <;> rfl
theorem guard_ptr (op : BinOp) (t : TypeId) (ox oy : Operand) (a b : Option Addr) : (eqGuard op t ox oy (.pointer a) (.pointer b)).run P w = .ok () w := by cases op <;> rfl
theorem guard_slc (op : BinOp) (t : TypeId) (ox oy : Operand) (a b : Option Addr) (i j k l : Nat) : (eqGuard op t ox oy (.slice a i j) (.slice b k l)).run P w = .ok () w := by cases op <;> rfl
theorem guard_map (op : BinOp) (t : TypeId) (ox oy : Operand) (a b : Option Nat) : (eqGuard op t ox oy (.map a) (.map b)).run P w = .ok () w := by cases op <;> rfl
theorem guard_nf (op : BinOp) (t : TypeId) (ox oy : Operand) : (eqGuard op t ox oy .nilFunc .nilFunc).run P w = .ok () w := by cases op <;> rfl
theorem guard_fn (op : BinOp) (t : TypeId) (ox oy : Operand) (f : Fn) (a b : Array Value) : (eqGuard op t ox oy (.func f a b) .nilFunc).run P w = .ok () w := by cases op <;> rfl
theorem guard_ifc (op : BinOp) (t : TypeId) (ox oy : Operand) (u : TypeId) (a : Value) : (eqGuard op t ox oy (.iface u a) .nilIface).run P w = .ok () w := by cases op <;> rfl
theorem guard_nili (op : BinOp) (t : TypeId) (ox : Operand) (v : Value) : (eqGuard op t ox (.const v) .nilIface .nilIface).run P w = .ok () w := by cases op <;> simp [eqGuard]

theorem eq1_sound {t : TypeId} {q : Tq} (ht : tqOf P t = some q) {x y : D} {vx vy : Value} (hx : Rep c x vx) (hy : Rep c y vy) {b : Bool} (h : eq1D q x y = some b) (neg : Bool) (ox oy : Operand) (hc : q = .ifc → isConstOp oy = true) :
    (do eqGuard (if neg then .neq else .eql) t ox oy vx vy; Go.binOp (if neg then .neq else .eql) t vx vy : Sem Value).run P w = .ok (.bool (b != neg)) w := by
  unfold eq1D at h
  split at h <;> first | cases h | (injection h with h; subst h)
  all_goals
    unfold tqOf at ht
    split at ht <;> first | cases ht | skip
    rename_i hu
    cases hx; cases hy
  · exact eq_run (fun op => guard_bool op _ _ _ _ _) (fun d => by simp only [Op.equalIn, Sem.run_bind, run_underlying hu, Result.andThen_ok]; rfl) rfl rfl
  · exact eq_run (fun op => guard_ptr op _ _ _ _ _) (fun d => by simp only [Op.equalIn, Sem.run_bind, run_underlying hu, Result.andThen_ok]; rfl) rfl rfl
  · have hc' := hc rfl
    cases oy <;> simp [isConstOp] at hc'
    exact eq_run (fun op => guard_nili op _ _ _) (fun d => by simp only [Op.equalIn, Sem.run_bind, run_underlying hu, Result.andThen_ok]; rfl) rfl rfl
  · exact eq_run (fun op => guard_slc op _ _ _ _ _ _ _ _ _) (fun d => by simp only [Op.equalIn, Sem.run_bind, run_underlying hu, Result.andThen_ok]; rfl) rfl rfl
  · exact eq_run (fun op => guard_map op _ _ _ _ _) (fun d => by simp only [Op.equalIn, Sem.run_bind, run_underlying hu, Result.andThen_ok]; rfl) rfl rfl
  · exact eq_run (fun op => guard_nf op _ _ _) (fun d => by simp only [Op.equalIn, Sem.run_bind, run_underlying hu, Result.andThen_ok]; rfl) rfl rfl
  · exact eq_run (fun op => guard_ptr op _ _ _ _ _) (fun d => by simp only [Op.equalIn, Sem.run_bind, run_underlying hu, Result.andThen_ok]; rfl) rfl rfl
  · exact eq_run (fun op => guard_ptr op _ _ _ _ _) (fun d => by simp only [Op.equalIn, Sem.run_bind, run_underlying hu, Result.andThen_ok]; rfl) rfl rfl
  · exact eq_run (fun op => guard_ifc op _ _ _ _ _) (fun d => by simp only [Op.equalIn, Sem.run_bind, run_underlying hu, Result.andThen_ok]; rfl) rfl rfl
  · exact eq_run (fun op => guard_map op _ _ _ _ _) (fun d => by simp only [Op.equalIn, Sem.run_bind, run_underlying hu, Result.andThen_ok]; rfl) rfl rfl
  · exact eq_run (fun op => guard_fn op _ _ _ _ _ _) (fun d => by simp only [Op.equalIn, Sem.run_bind, run_underlying hu, Result.andThen_ok]; rfl) rfl rfl
  · rename_i h1 ha _ hM hr ht'
    obtain ⟨b', rfl⟩ := ha (List.cons_ne_nil _ _)
    exact eq_run (fun op => guard_slc op _ _ _ _ _ _ _ _ _) (fun d => by simp only [Op.equalIn, Sem.run_bind, run_underlying hu, Result.andThen_ok]; rfl) rfl rfl
  · exact eq_run (fun op => guard_slc op _ _ _ _ _ _ _ _ _) (fun d => by simp only [Op.equalIn, Sem.run_bind, run_underlying hu, Result.andThen_ok]; rfl) rfl rfl


theorem len_sound {t e : TypeId} (ht : sliceOf P t = some e) {x : D} {v : Value} {n : Nat} (hx : Rep c x v) (h : lenD x = some n) (ty : TypeId) : (Builtin.len_ #[t] ty #[v]).run P w = .ok (.int .i64 n) w := by
  have ht := sliceOf_eq ht
  cases hx with
  | nils => simp [lenD] at h; subst h; simp [Builtin.len_, run_underlying ht, goInt]
  | sl => simp [lenD] at h; subst h; simp [Builtin.len_, run_underlying ht, goInt]
  | ms => simp [lenD] at h; subst h; simp [Builtin.len_, run_underlying ht, goInt]
  | e0 => simp [lenD] at h; subst h; simp [Builtin.len_, run_underlying ht, goInt]
  | _ => simp [lenD] at h

theorem lens_sound {t : TypeId} (ht : P.underlying t = some .string) {x : D} {v : Value} {n : Nat} (hx : Rep c x v) (h : strLen x = some n) (ty : TypeId) : (Builtin.len_ #[t] ty #[v]).run P w = .ok (.int .i64 n) w := by
  cases hx with
  | str l => simp [strLen] at h; subst h; simp only [Builtin.len_]; simp [run_underlying ht, goInt, size_mk]
  | _ => simp [strLen] at h

theorem mn_sound {ats : Array TypeId} {ty : TypeId} {x y r : D} {vx vy : Value} (hx : Rep c x vx) (hy : Rep c y vy) (h : mn2 x y = some r) : ∃ u, (Builtin.min_ ats ty #[vx, vy]).run P w = .ok u w ∧ Rep c r u := by
  unfold mn2 at h
  split at h <;> first | cases h | (injection h with h; subst h)
  cases hx; cases hy
  exact ⟨_, by simp [Builtin.min_, Builtin.min2, List.foldlM]; try rfl, Rep.int _ _⟩
theorem mx_sound {ats : Array TypeId} {ty : TypeId} {x y r : D} {vx vy : Value} (hx : Rep c x vx) (hy : Rep c y vy) (h : mx2 x y = some r) : ∃ u, (Builtin.max_ ats ty #[vx, vy]).run P w = .ok u w ∧ Rep c r u := by
  unfold mx2 at h
  split at h <;> first | cases h | (injection h with h; subst h)
  cases hx; cases hy
  exact ⟨_, by simp [Builtin.max_, Builtin.max2, List.foldlM]; try rfl, Rep.int _ _⟩

/-- A bound of a slice expression. -/
theorem bound_sound {vi : Value} {i : Int} {k : IntKind} (hv : vi = .int k i) {y : Nat} (h0 : 0 ≤ i) (h1 : i ≤ y) (code : BoundsCode) : (Instr.sliceBound vi y code).run P w = .ok i.toNat w := by
  subst hv
  simp [Instr.sliceBound, asIntOf, h0, h1]

theorem optN_sound {s : S} {a : Act} (hf : FR c s.t a) {dflt : Nat} {o : Option Rd} {oo : Option Operand} (ho : o = none ∧ oo = none ∨ ∃ r x, o = some r ∧ oo = some x ∧ cRd x = some r) {i : Int} (h : optN s dflt o = some i) :
    (o = none ∧ oo = none ∧ i = dflt) ∨ ∃ x k, oo = some x ∧ a.eval x = .int k i ∧ o ≠ none := by
  rcases ho with ⟨rfl, rfl⟩ | ⟨r, x, rfl, rfl, hx⟩
  · simp [optN] at h; exact .inl ⟨rfl, rfl, h.symm⟩
  · have hr := cRd_rep hx hf
    simp only [optN] at h
    split at h
    · rename_i k n he
      injection h with h; subst h
      rw [he] at hr
      refine .inr ⟨x, k, rfl, ?_, by simp⟩
      generalize a.eval x = v at hr
      cases hr
      rfl
    · cases h

theorem bounds_sound {s : S} {a : Act} (hf : FR c s.t a) {isSlice : Bool} {len cap : Nat} {lo hi : Option Rd} {olo ohi : Option Operand}
    (hlo : lo = none ∧ olo = none ∨ ∃ r x, lo = some r ∧ olo = some x ∧ cRd x = some r) (hhi : hi = none ∧ ohi = none ∨ ∃ r x, hi = some r ∧ ohi = some x ∧ cRd x = some r)
    {l h : Int} (el : optN s 0 lo = some l) (eh : optN s len hi = some h) (h0 : 0 ≤ l) (h1 : l ≤ h) (h2 : h ≤ len) (hc : len ≤ cap) :
    (Instr.sliceBounds isSlice len cap (olo.map a.eval) (ohi.map a.eval) none).run P w = .ok (l.toNat, h.toNat, cap) w := by
  rcases optN_sound hf hlo el with ⟨-, rfl, rfl⟩ | ⟨x, k, rfl, ex, -⟩ <;> rcases optN_sound hf hhi eh with ⟨-, rfl, rfl⟩ | ⟨y, k', rfl, ey, -⟩
  · simp [Instr.sliceBounds]
  · simp [Instr.sliceBounds, bound_sound (P := P) (w := w) ey (by omega) (show h ≤ (cap : Int) by omega)]
  · have hb := bound_sound (P := P) (w := w) (y := len) ex h0 (by omega) .sliceB
    simp [Instr.sliceBounds, hb]
  · have hb2 : (if isSlice = true then BoundsCode.sliceAcap else .sliceAlen) = (if isSlice = true then BoundsCode.sliceAcap else .sliceAlen) := rfl
    have hb := bound_sound (P := P) (w := w) (y := h.toNat) ex h0 (by omega) .sliceB
    simp [Instr.sliceBounds, bound_sound (P := P) (w := w) ey (by omega) (show h ≤ (cap : Int) by omega), hb]


theorem bounds3_sound {s : S} {a : Act} (hf : FR c s.t a) {len cap : Nat} {lo hi mx : Option Rd} {olo ohi omx : Option Operand}
    (hlo : lo = none ∧ olo = none ∨ ∃ r x, lo = some r ∧ olo = some x ∧ cRd x = some r) (hhi : ∃ r x, hi = some r ∧ ohi = some x ∧ cRd x = some r) (hmx : ∃ r x, mx = some r ∧ omx = some x ∧ cRd x = some r)
    {l h m : Int} (el : optN s 0 lo = some l) (eh : optN s len hi = some h) (em : optN s len mx = some m) (h0 : 0 ≤ l) (h1 : l ≤ h) (h2 : h ≤ m) (hc : m ≤ cap) :
    (Instr.sliceBounds true len cap (olo.map a.eval) (ohi.map a.eval) (omx.map a.eval)).run P w = .ok (l.toNat, h.toNat, m.toNat) w := by
  obtain ⟨rh, xh, rfl, rfl, hxh⟩ := hhi
  obtain ⟨rm, xm, rfl, rfl, hxm⟩ := hmx
  rcases optN_sound hf (.inr ⟨rh, xh, rfl, rfl, hxh⟩) eh with ⟨e, _⟩ | ⟨y, k', ey, ey', -⟩
  · cases e
  rcases optN_sound hf (.inr ⟨rm, xm, rfl, rfl, hxm⟩) em with ⟨e, _⟩ | ⟨z, k'', ez, ez', -⟩
  · cases e
  injection ey with ey; subst ey
  injection ez with ez; subst ez
  have b1 := bound_sound (P := P) (w := w) (y := cap) ez' (by omega) hc .slice3Acap
  have b2 := bound_sound (P := P) (w := w) (y := m.toNat) ey' (by omega) (by omega) .slice3B
  rcases optN_sound hf hlo el with ⟨-, rfl, rfl⟩ | ⟨x, k, rfl, ex, -⟩
  · simp [Instr.sliceBounds, b1, b2]
  · have b3 := bound_sound (P := P) (w := w) (y := h.toNat) ex h0 (by omega) .slice3C
    simp [Instr.sliceBounds, b1, b2, b3]

theorem subs_sound {t : TypeId} (ht : P.underlying t = some .string) {s : S} {a : Act} (hf : FR c s.t a) {lo hi : Option Rd} {olo ohi : Option Operand}
    (hlo : lo = none ∧ olo = none ∨ ∃ r x, lo = some r ∧ olo = some x ∧ cRd x = some r) (hhi : hi = none ∧ ohi = none ∨ ∃ r x, hi = some r ∧ ohi = some x ∧ cRd x = some r)
    {x r : D} {v : Value} {n : Nat} (hx : Rep c x v) (hn : strLen x = some n) (h : sub (optN s 0 lo) (optN s n hi) x = some r) :
    ∃ u, (Instr.sliceAt t v (olo.map a.eval) (ohi.map a.eval) none).run P w = .ok u w ∧ Rep c r u := by
  cases hx with
  | str l hl =>
    simp [strLen] at hn; subst hn
    simp only [sub] at h
    split at h
    · rename_i lo' hi' e1 e2
      split at h
      · rename_i hc
        injection h with h; subst h
        have hb := bounds_sound (P := P) (w := w) hf (isSlice := false) (cap := l.length) hlo hhi e1 e2 hc.1 hc.2.1 hc.2.2 (Nat.le_refl _)
        refine ⟨.string ⟨(subList l lo'.toNat hi'.toNat).toArray⟩, ?_, Rep.str _ (by unfold subList; simp; omega)⟩
        simp [Instr.sliceAt, run_underlying ht, Instr.slice, size_mk, hb, extract_mk]
      · cases h
    · cases h
  | _ => simp [strLen] at hn

theorem sls_sound {t e : TypeId} {sz : Nat} (ht : sliceOf P t = some e) (hsz : tsz P e = some sz) {s : S} {a : Act} (hf : FR c s.t a) {lo hi : Option Rd} {olo ohi : Option Operand}
    (hlo : lo = none ∧ olo = none ∨ ∃ r x, lo = some r ∧ olo = some x ∧ cRd x = some r) (hhi : hi = none ∧ ohi = none ∨ ∃ r x, hi = some r ∧ ohi = some x ∧ cRd x = some r)
    {x r : D} {v : Value} {n : Nat} (hx : Rep c x v) (hn : lenD x = some n) (h : slc sz (optN s 0 lo) (optN s n hi) x = some r) :
    ∃ u, (Instr.sliceAt t v (olo.map a.eval) (ohi.map a.eval) none).run P w = .ok u w ∧ Rep c r u := by
  have ht := sliceOf_eq ht
  cases hx with
  | nils =>
    simp [lenD] at hn; subst hn
    simp only [slc] at h
    split at h
    · rename_i lo' hi' e1 e2
      split at h
      · rename_i hc
        obtain ⟨rfl, rfl⟩ := hc
        injection h with h; subst h
        have hb := bounds_sound (P := P) (w := w) hf (isSlice := true) (cap := 0) hlo hhi e1 e2 (by omega) (by omega) (by omega) (Nat.le_refl _)
        exact ⟨.slice none 0 0, by simp [Instr.sliceAt, run_underlying ht, Instr.slice, hb, run_size hsz], Rep.nils⟩
      · cases h
    · cases h
  | sl τ xs b cap sz' vs hlen hb hszs h1 ha hs hM hr htl ht' =>
    simp [lenD] at hn; subst hn
    simp only [slc] at h
    split at h
    · rename_i lo' hi' e1 e2
      split at h
      · rename_i hc
        obtain ⟨c0, c1, c2, c3⟩ := hc
        injection h with h; subst h
        have hbs := bounds_sound (P := P) (w := w) hf (isSlice := true) (cap := cap) hlo hhi e1 e2 c0 c1 c2 hlen
        have hlen' : (subList xs lo'.toNat hi'.toNat).length = hi'.toNat - lo'.toNat := by unfold subList; simp; omega
        refine ⟨.slice (if cap = lo'.toNat then b else b.map (·.add (lo'.toNat * sz))) (hi'.toNat - lo'.toNat) (cap - lo'.toNat), ?_, ?_⟩
        · simp [Instr.sliceAt, run_underlying ht, Instr.slice, hbs, run_size hsz]
        · by_cases hw : lo' = 0 ∧ hi' = xs.length
          · obtain ⟨rfl, rfl⟩ := hw
            have e : subList xs (0 : Int).toNat (xs.length : Int).toNat = xs := by simp [subList]
            have e3 : (if cap = (0 : Int).toNat then b else b.map (·.add ((0 : Int).toNat * sz))) = b := by
              split
              · rfl
              · cases b <;> simp [Addr.add]
            rw [e, e3]
            simpa using Rep.sl τ xs b cap sz' vs hlen hb hszs h1 ha hs hM hr htl ht'
          · rw [if_neg hw]
            rw [← hlen']
            have hget : ∀ i (hi : i < (subList xs lo'.toNat hi'.toNat).length), (subList xs lo'.toNat hi'.toNat)[i] = xs[lo'.toNat + i]'(by rw [hlen'] at hi; omega) := by
              intro i hi
              simp [subList]
            have hmem : ∀ x ∈ subList xs lo'.toNat hi'.toNat, x ∈ xs := fun x hx => List.mem_of_mem_take (List.mem_of_mem_drop hx)
            refine Rep.sl none _ _ _ sz' (fun i j => vs (lo'.toNat + i) j) (by rw [hlen']; omega) (by rw [hlen']; omega) (fun x hx => hszs x (hmem x hx)) (fun x hx => h1 x (hmem x hx)) ?_ ?_ ?_ ?_ (fun τ h => by cases h) (fun τ h => by cases h)
            · intro hne
              have hxs : xs ≠ [] := by intro e; subst e; exact hne (by simp [subList])
              obtain ⟨b', rfl⟩ := ha hxs
              split
              · exact ⟨_, rfl⟩
              · exact ⟨_, rfl⟩
            · intro hne b' hb'
              have hxs : xs ≠ [] := by intro e; subst e; exact hne (by simp [subList])
              split at hb'
              · exact hs hxs b' hb'
              · cases b with
                | none => cases hb'
                | some b0 =>
                  simp only [Option.map_some, Option.some.injEq] at hb'
                  rw [Addr.add_eq b0 (hs hxs b0 rfl)] at hb'
                  subst hb'; rfl
            · intro i hi j hj b' hb'
              rw [hlen'] at hi
              have hcap : ¬ cap = lo'.toNat := by omega
              have hxs' : xs ≠ [] := fun e => by
                have : xs.length = 0 := by rw [e]; rfl
                omega
              rw [if_neg hcap] at hb'
              cases b with
              | none => cases hb'
              | some b0 =>
                simp only [Option.map_some, Option.some.injEq] at hb'
                rw [Addr.add_eq b0 (hs hxs' b0 rfl)] at hb'
                subst hb'
                have hsz2 : sz' = sz := by
                  have hm : xs[lo'.toNat + i]'(by omega) ∈ xs := List.getElem_mem _
                  have := List.all_eq_true.1 c3 _ hm
                  rw [hszs _ hm] at this
                  simpa using this
                have := hM (lo'.toNat + i) (by omega) j hj b0 rfl
                rw [hsz2] at this
                simp only
                rw [← this]
                congr 2
                rw [hsz2, Nat.add_mul]; omega
            · intro i hi j hj
              have := hr (lo'.toNat + i) (by rw [hlen'] at hi; omega) j (by rw [hget i hi] at hj; exact hj)
              simp only [hget i hi]
              exact this
      · cases h
    · cases h
  | e0 a =>
    simp [lenD] at hn; subst hn
    simp only [slc] at h
    split at h
    · rename_i lo' hi' e1 e2
      split at h
      · rename_i hc
        obtain ⟨rfl, rfl⟩ := hc
        injection h with h; subst h
        have hb := bounds_sound (P := P) (w := w) hf (isSlice := true) (cap := 0) hlo hhi e1 e2 (by omega) (by omega) (by omega) (Nat.le_refl _)
        exact ⟨.slice a 0 0, by simp [Instr.sliceAt, run_underlying ht, Instr.slice, hb, run_size hsz], Rep.e0 a⟩
      · cases h
    · cases h
  | ms ag z o off len cap rc hbd h1 h2 h3 =>
    simp [lenD] at hn; subst hn
    simp only [slc] at h
    split at h
    · rename_i lo' hi' e1 e2
      split at h
      · rename_i hc
        obtain ⟨c0, c1, c2, c3, rfl⟩ := hc
        injection h with h; subst h
        have hb := bounds_sound (P := P) (w := w) hf (isSlice := true) (cap := rc) hlo hhi e1 e2 c0 c1 c2 (by omega)
        have hne : ¬ rc = lo'.toNat := by omega
        have hadd : Addr.add ⟨c.β o, off, none⟩ (lo'.toNat * z) = ⟨c.β o, off + lo'.toNat * z, none⟩ := Addr.add_eq _ rfl _
        refine ⟨.slice (some ⟨c.β o, off + lo'.toNat * z, none⟩) (hi'.toNat - lo'.toNat) (rc - lo'.toNat), ?_, ?_⟩
        · simp [Instr.sliceAt, run_underlying ht, Instr.slice, hb, run_size hsz, hne, hadd]
        · have e3 : (hi' - lo').toNat = hi'.toNat - lo'.toNat := by omega
          rw [e3]
          refine Rep.ms ag z o _ _ _ _ hbd (by omega) (by omega) ?_
          have : lo'.toNat * z + (rc - lo'.toNat) * z = rc * z := by rw [← Nat.add_mul]; congr 1; omega
          omega
      · split at h
        · rename_i hc
          obtain ⟨c0, c1, c2, rfl⟩ := hc
          injection h with h; subst h
          have hb := bounds_sound (P := P) (w := w) hf (isSlice := true) (cap := rc) hlo hhi e1 e2 c0 c1 c2 (by omega)
          refine ⟨.slice (if rc = hi'.toNat then some ⟨c.β o, off, none⟩ else some (Addr.add ⟨c.β o, off, none⟩ (hi'.toNat * sz))) 0 (rc - hi'.toNat), ?_, ?_⟩
          · simp [Instr.sliceAt, run_underlying ht, Instr.slice, hb, run_size hsz]
          · exact Rep.sl none [] _ _ 0 (fun _ _ => undef) (by simp) (by simp) (by simp) (by simp) (by simp) (by simp) (by simp) (by simp) (by simp) (by simp)
        · cases h
    · cases h
  | _ => simp [lenD] at hn

theorem sls3_sound {t e : TypeId} {sz : Nat} (ht : sliceOf P t = some e) (hsz : tsz P e = some sz) {s : S} {a : Act} (hf : FR c s.t a) {lo hi mx : Option Rd} {olo ohi omx : Option Operand}
    (hlo : lo = none ∧ olo = none ∨ ∃ r x, lo = some r ∧ olo = some x ∧ cRd x = some r) (hhi : ∃ r x, hi = some r ∧ ohi = some x ∧ cRd x = some r) (hmx : ∃ r x, mx = some r ∧ omx = some x ∧ cRd x = some r)
    {x r : D} {v : Value} {n : Nat} (hx : Rep c x v) (hn : lenD x = some n) (h : slc3 sz (optN s 0 lo) (optN s n hi) (optN s n mx) x = some r) :
    ∃ u, (Instr.sliceAt t v (olo.map a.eval) (ohi.map a.eval) (omx.map a.eval)).run P w = .ok u w ∧ Rep c r u := by
  have ht := sliceOf_eq ht
  cases hx with
  | nils =>
    simp [lenD] at hn; subst hn
    simp only [slc3] at h
    split at h
    · rename_i lo' hi' mx' e1 e2 e3
      split at h
      · rename_i hc
        obtain ⟨rfl, rfl, rfl⟩ := hc
        injection h with h; subst h
        have hb := bounds3_sound (P := P) (w := w) hf (cap := 0) hlo hhi hmx e1 e2 e3 (by omega) (by omega) (by omega) (by omega)
        exact ⟨.slice none 0 0, by simp [Instr.sliceAt, run_underlying ht, Instr.slice, hb, run_size hsz], Rep.nils⟩
      · cases h
    · cases h
  | e0 b =>
    simp [lenD] at hn; subst hn
    simp only [slc3] at h
    split at h
    · rename_i lo' hi' mx' e1 e2 e3
      split at h
      · rename_i hc
        obtain ⟨rfl, rfl, rfl⟩ := hc
        injection h with h; subst h
        have hb := bounds3_sound (P := P) (w := w) hf (cap := 0) hlo hhi hmx e1 e2 e3 (by omega) (by omega) (by omega) (by omega)
        exact ⟨.slice b 0 0, by simp [Instr.sliceAt, run_underlying ht, Instr.slice, hb, run_size hsz], Rep.e0 b⟩
      · cases h
    · cases h
  | sl τ xs b cap sz' vs hlen hb' hszs h1 ha hs hM hr htl ht' =>
    simp [lenD] at hn; subst hn
    simp only [slc3] at h
    split at h
    · rename_i lo' hi' mx' e1 e2 e3
      split at h
      · rename_i hc
        obtain ⟨c0, rfl, rfl, c3⟩ := hc
        injection h with h; subst h
        have hb := bounds3_sound (P := P) (w := w) hf (cap := cap) hlo hhi hmx e1 e2 e3 c0 (by omega) (by omega) (by omega)
        exact ⟨.slice b 0 0, by simp [Instr.sliceAt, run_underlying ht, Instr.slice, hb, run_size hsz], Rep.e0 b⟩
      · cases h
    · cases h
  | ms ag z o off len cap rc hbd h1 h2 h3 =>
    simp [lenD] at hn; subst hn
    simp only [slc3] at h
    split at h
    · rename_i lo' hi' mx' e1 e2 e3
      split at h
      · rename_i hc
        obtain ⟨c0, rfl, rfl, c3⟩ := hc
        injection h with h; subst h
        have hb := bounds3_sound (P := P) (w := w) hf (cap := rc) hlo hhi hmx e1 e2 e3 c0 (by omega) (by omega) (by omega)
        exact ⟨.slice (some ⟨c.β o, off, none⟩) 0 0, by simp [Instr.sliceAt, run_underlying ht, Instr.slice, hb, run_size hsz], Rep.e0 _⟩
      · split at h
        · rename_i hc
          obtain ⟨c0, c1, c2, c3, c4, rfl⟩ := hc
          injection h with h; subst h
          have hb := bounds3_sound (P := P) (w := w) hf (cap := rc) hlo hhi hmx e1 e2 e3 c0 c1 c2 (by omega)
          have hne : ¬ mx'.toNat = lo'.toNat := by omega
          have hadd : Addr.add ⟨c.β o, off, none⟩ (lo'.toNat * z) = ⟨c.β o, off + lo'.toNat * z, none⟩ := Addr.add_eq _ rfl _
          refine ⟨.slice (some ⟨c.β o, off + lo'.toNat * z, none⟩) (hi'.toNat - lo'.toNat) (mx'.toNat - lo'.toNat), ?_, ?_⟩
          · simp [Instr.sliceAt, run_underlying ht, Instr.slice, hb, run_size hsz, hne, hadd]
          · have q1 : (hi' - lo').toNat = hi'.toNat - lo'.toNat := by omega
            have q2 : (mx' - lo').toNat = mx'.toNat - lo'.toNat := by omega
            rw [q1, q2]
            refine Rep.ms ag z o _ _ _ _ hbd (by omega) (by omega) ?_
            have q3 : lo'.toNat * z + (mx'.toNat - lo'.toNat) * z = mx'.toNat * z := by rw [← Nat.add_mul]; congr 1; omega
            have q4 : mx'.toNat * z ≤ rc * z := Nat.mul_le_mul_right _ (by omega)
            omega
        · cases h
    · cases h
  | _ => simp [lenD] at hn

end GP
