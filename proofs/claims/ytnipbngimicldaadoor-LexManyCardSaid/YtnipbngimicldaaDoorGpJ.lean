import Derived.Test.YtnipbngimicldaaDoorGpI
/- Slice literals, appends, strings to bytes. -/
namespace GP
open Go

variable {P : Program} {c : Cx} {w : World} {H : Hp}

theorem fill_dense (sz : Nat) : ∀ (vs : List Value) (k : Nat) (done : List Value) (cs : Array Value), cs.toList.take (k * sz) = done → cs.size = (k + vs.length) * sz → (∀ v ∈ vs, v.cells.size = sz) →
    ∃ cs', Instr.fill (fun i => some (i * sz, sz)) cs ((vs.zipIdx k).map fun p => (p.2, p.1)) = some cs' ∧ cs'.toList = done ++ (vs.map fun v => v.cells.toList).flatten
  | [], k, done, cs, h, hs, _ => ⟨cs, rfl, by
      simp only [List.map_nil, List.flatten_nil, List.append_nil]
      rw [← h, List.take_of_length_le]
      simp only [Array.length_toList, hs]
      simp⟩
  | v :: vs, k, done, cs, h, hs, hv => by
    have hv0 := hv v (by simp)
    have hle : k * sz + v.cells.size ≤ cs.size := by
      rw [hs, hv0]
      simp only [List.length_cons]
      have : k * sz + sz = (k + 1) * sz := by rw [Nat.add_mul]; omega
      rw [this]
      exact Nat.mul_le_mul_right _ (by omega)
    have e := fill_one (k * sz) v.cells cs hle
    have hsz' : (v.cells.zipIdx.foldl (fun cs (p : Value × Nat) => cs.setIfInBounds (k * sz + p.2) p.1) cs).size = cs.size := by
      rw [← Array.length_toList, e]
      simp only [List.length_append, List.length_take, List.length_drop, Array.length_toList]
      omega
    have hd : done.length = k * sz := by rw [← h, List.length_take, Array.length_toList]; omega
    obtain ⟨cs', h1, h2⟩ := fill_dense sz vs (k + 1) (done ++ v.cells.toList) (v.cells.zipIdx.foldl (fun cs (p : Value × Nat) => cs.setIfInBounds (k * sz + p.2) p.1) cs)
      (by
        rw [e, h]
        rw [List.take_append_of_le_length (by simp [hd, hv0, Nat.add_mul])]
        rw [List.take_of_length_le (by simp [hd, hv0, Nat.add_mul])])
      (by rw [hsz', hs]; simp only [List.length_cons]; congr 1; omega) (fun u hu => hv u (by simp [hu]))
    refine ⟨cs', ?_, ?_⟩
    · simp only [List.zipIdx_cons, List.map_cons, Instr.fill]
      rw [hv0] at hle
      rw [if_neg (by simp only [hv0, ne_eq, not_true_eq_false, decide_false, Bool.false_or, decide_eq_true_eq]; omega)]
      exact h1
    · rw [h2]; simp

theorem run_bsl {t e : TypeId} {sz : Nat} (ht : sliceOf P t = some e) (hsz : tsz P e = some sz) (hz : (tz P e).isSome = true) (vs : List Value) (hv : ∀ v ∈ vs, v.cells.size = sz) (hs : vs.length * sz ≤ 2 ^ 24) (c : Cx) :
    (Instr.buildSlice t vs.length ((vs.zipIdx 0).map fun p => (p.2, p.1)).toArray).run P w = .ok (.slice (some ⟨w.heap.size, 0, none⟩) vs.length vs.length) (w.alloc (.cells (vs.map fun v => v.cells.toList).flatten.toArray e)) := by
  obtain ⟨z, hz⟩ := Option.isSome_iff_exists.1 hz
  obtain ⟨zv, z1, z2⟩ := run_zero hz c
  have hsmall : ¬ (vs.length * sz > 2 ^ 24) := by omega
  by_cases h0 : vs.length * sz = 0
  · obtain ⟨cs', h1, h2⟩ := fill_dense sz vs 0 [] #[] (by simp) (by simp [h0]) hv
    have e0 : cs' = (vs.map fun v => v.cells.toList).flatten.toArray := by
      apply Array.toList_inj.1; rw [h2]; simp
    have e1 : ∀ d : Value, (Array.map (fun _ : Nat => d) (Array.range 0)) = #[] := fun d => by simp [Array.range]
    simp [Instr.buildSlice, run_underlying (sliceOf_eq ht), run_size hsz, h0, newRow]
    rw [e1, h1]
    simp [e0]
  · obtain ⟨cs', h1, h2⟩ := fill_dense sz vs 0 [] ((Array.range (vs.length * sz)).map (zv.cells[· % zv.cells.size]!)) (by simp) (by simp) hv
    have e0 : cs' = (vs.map fun v => v.cells.toList).flatten.toArray := by
      apply Array.toList_inj.1; rw [h2]; simp
    simp [Instr.buildSlice, run_underlying (sliceOf_eq ht), run_size hsz, h0, hsmall, z1, newRow, h1, e0]

/-- A new row of elements, all of it kept. -/
theorem fresh_sl (k : Inv c w H) {sz : Nat} {xs : List D} {vss : List (List Value)} (hk : Elems c sz xs vss) (e : TypeId) (hb : xs.length < 2 ^ 62) {T : Tk} (hT : c.T = T) :
    Yld c w H T (.sl none xs) (.ok (.slice (some ⟨w.heap.size, 0, none⟩) xs.length xs.length) (w.alloc (.cells vss.flatten.toArray e))) := by
  have hle := fresh_le k vss.flatten vss.flatten.length
  refine ⟨_, { c with M := freshM c.M w.heap.size vss.flatten vss.flatten.length }, _, rfl, ?_, k.fresh _ e (0, 0) _, hle, hT, Below.of_alloc w _ k.low⟩
  refine rep_sl_of (hk.mono hle) rfl (Nat.le_refl _) hb (fun j hj => ?_) none (fun τ h => by cases h) (fun τ h => by cases h)
  have : j < vss.flatten.length := by rw [flat_len vss hk.sz', hk.len]; exact hj
  show freshM _ _ _ _ _ = _
  simp only [Nat.zero_add]
  rw [freshM_at this]

/-- A new row of elements, the rest of it to be appended to. -/
theorem fresh_slq (k : Inv c w H) {sz : Nat} {xs : List D} {vss : List (List Value)} (hk : Elems c sz xs vss) (e : TypeId) (hb : xs.length < 2 ^ 62) {T : Tk} (hT : c.T = T) :
    Yld c w H T (slq xs) (.ok (.slice (some ⟨w.heap.size, 0, none⟩) xs.length xs.length) (w.alloc (.cells vss.flatten.toArray e))) := by
  cases xs with
  | cons x xs => exact fresh_sl k hk e hb hT
  | nil =>
    obtain ⟨v, c', w', e1, e2, e3, e4⟩ := fresh_sl k hk e hb hT
    injection e1 with e1 e1'
    exact ⟨v, c', w', by rw [e1, e1'], e1 ▸ Rep.e0 _, e3, e4⟩

theorem fresh_tok (k : Inv c w H) {sz : Nat} {xs : List D} {vss : List (List Value)} (hk : Elems c sz xs vss) (e : TypeId) (hb : xs.length < 2 ^ 62) (rest : List Value) (fr : Nat × Nat) (hfr : ∀ i, i < vss.flatten.length + rest.length → ¬ (fr.1 ≤ i ∧ i < fr.2))
    {cap : Nat} (hcap : xs.length ≤ cap) (hrest : cap * sz ≤ vss.flatten.length + rest.length) {τ : Nat} {T' : Tk}
    (hτ : T'[τ]? = some (some (xs.length, sz))) (hold : τ < c.T.length → ∃ n, c.T[τ]? = some (some (n, sz)) ∧ n < xs.length) (hne : ∀ τ', τ' ≠ τ → T'[τ']? = c.T[τ']?) (hlen : c.T.length ≤ T'.length) :
    Yld c w H T' (.sl (some τ) xs) (.ok (.slice (some ⟨w.heap.size, 0, none⟩) xs.length cap) (w.alloc (.cells (vss.flatten ++ rest).toArray e fr))) := by
  let c1 : Cx := { c with M := freshM c.M w.heap.size (vss.flatten ++ rest) vss.flatten.length }
  let κ' : Nat → Addr × Nat := fun j => if j = τ then (⟨w.heap.size, 0, none⟩, cap) else c.κ j
  have hκ0 : κ' τ = (⟨w.heap.size, 0, none⟩, cap) := if_pos rfl
  have hκ : ∀ j, j ≠ τ → κ' j = c.κ j := fun j h => if_neg h
  have hfl : vss.flatten.length = xs.length * sz := by rw [flat_len vss hk.sz', hk.len]
  have k1 : Inv c1 (w.alloc (.cells (vss.flatten ++ rest).toArray e fr)) H := k.fresh _ e fr _
  have hle1 : c.le c1 := fresh_le k _ _
  have hle2 : c1.le { c1 with T := T', κ := κ' } := by
    refine ⟨fun _ _ h => h, fun _ h => h, fun _ _ => rfl, hlen, ?_, ?_, rfl, fun _ _ => rfl⟩
    · intro j hj
      by_cases e' : j = τ
      · subst e'
        have hlt : j < c.T.length := by
          rcases Nat.lt_or_ge j c.T.length with h' | h'
          · exact h'
          · have : c.T[j]? = none := List.getElem?_eq_none h'
            have hj' : c.T[j]? = some none := hj
            rw [this] at hj'; cases hj'
        obtain ⟨n, hn, _⟩ := hold hlt
        have hj' : c.T[j]? = some none := hj
        rw [hn] at hj'; cases hj'
      · show T'[j]? = _
        rw [hne j e']; exact hj
    · intro j n z hj
      by_cases e' : j = τ
      · subst e'
        have hj' : c.T[j]? = some (some (n, z)) := hj
        have hlt : j < c.T.length := by
          rcases Nat.lt_or_ge j c.T.length with h' | h'
          · exact h'
          · rw [List.getElem?_eq_none h'] at hj'; cases hj'
        obtain ⟨n0, hn, hl⟩ := hold hlt
        rw [hn] at hj'; injection hj' with hj'; injection hj' with hj'; injection hj' with e1 e2
        subst e1; subst e2
        exact .inr ⟨xs.length, hτ, Nat.le_of_lt hl, fun e => by omega⟩
      · refine .inr ⟨n, ?_, Nat.le_refl _, fun _ => hκ j e'⟩
        show T'[j]? = _
        rw [hne j e']; exact hj
  have k2 : Inv { c1 with T := T', κ := κ' } (w.alloc (.cells (vss.flatten ++ rest).toArray e fr)) H := by
    refine k1.retok hle2 (some τ) ?_
    intro j n z hj
    by_cases e' : j = τ
    · subst e'
      rw [hτ] at hj; injection hj with hj; injection hj with hj; injection hj with e1 e2
      subst e1; subst e2
      rw [hκ0]
      refine .inr ⟨rfl, k.low, by rw [World.size_alloc]; exact Nat.lt_succ_self _, rfl, hcap, ?_, ?_, ?_⟩
      · intro i h1 h2
        simp only at h2
        simp only [Nat.zero_add]
        refine ⟨?_, ?_, ?_⟩
        · rw [cell?_new]
          have : i < (vss.flatten ++ rest).toArray.size := by simp only [List.size_toArray, List.length_append]; omega
          simp [Array.getElem?_eq_getElem this]
        · rw [frozen?_new]
          have := hfr i (by omega)
          simp; omega
        · show freshM _ _ _ _ _ = none
          exact freshM_out (by omega)
      · intro o x ho hx
        exact Nat.ne_of_lt (k.own o x ho hx).2.2.1
      · intro τ' n' z' hne' hτ'
        have h1 := hne τ' hne'
        rw [hτ'] at h1
        exact Nat.ne_of_lt (k.tok τ' n' z' h1.symm).2.1
    · exact .inl ⟨by show c.T[j]? = _; rw [← hne j e']; exact hj, hκ j e', fun e => by injection e with e; exact e' e⟩
  refine ⟨_, { c1 with T := T', κ := κ' }, _, rfl, ?_, k2, hle1.trans hle2, rfl, Below.of_alloc w _ k.low⟩
  refine rep_sl_of ((hk.mono hle1).mono hle2) rfl hcap hb (fun j hj => ?_) (some τ) (fun τ' h => ?_) (fun τ' h n z hn => ?_)
  · have : j < vss.flatten.length := by omega
    show freshM _ _ _ _ _ = _
    simp only [Nat.zero_add]
    rw [freshM_at this, List.getElem?_append_left this]
  · injection h with h; subst h
    rcases Nat.lt_or_ge τ T'.length with h' | h'
    · exact h'
    · rw [List.getElem?_eq_none h'] at hτ; cases hτ
  · injection h with h; subst h
    have hn' : T'[τ]? = some (some (n, z)) := hn
    rw [hτ] at hn'; injection hn' with hn'; injection hn' with hn'; injection hn' with e1 e2
    subst e1
    exact ⟨Nat.le_refl _, fun _ => ⟨by show some _ = some (κ' τ).1; rw [hκ0], by show cap = (κ' τ).2; rw [hκ0]⟩⟩

theorem Yld.drew {c : Cx} {w : World} {H : Hp} {T : Tk} {d : D} {r : Result Value} (h : Yld c w.drew H T d r) : Yld c w H T d r := by
  obtain ⟨v, c', w', h1, h2, h3, h4, h5, h6⟩ := h
  exact ⟨v, c', w', h1, h2, h3, h4, h5, ((Below.refl c.B w).drew).trans h6⟩

theorem Inv.drew (k : Inv c w H) : Inv c w.drew H := Inv.congr (w := w) (w' := w.drew) rfl k

theorem fit_sz {sz : Nat} {xs : List D} (h : xs.all (fit sz) = true) : ∀ x ∈ xs, x.cells.length = sz := fun x hx => by
  have := List.all_eq_true.1 h x hx
  simp only [fit, Bool.and_eq_true, beq_iff_eq] at this
  exact this.2

/-- What an append takes from its second operand, in the world. -/
theorem src_sound (k : Inv c w H) {sz : Nat} {y : D} {vy : Value} (hy : Rep c y vy) {ys : List D} {st : Bool} (h : appSrc st y = some ys) (hf : ys.all (fit sz) = true) (hbyte : ∀ l, y = .str l → sz = 1) :
    ∃ vss, Elems c sz ys vss ∧ (∀ w', (Builtin.lenOf vy).run P w' = .ok ys.length w') ∧ (∀ w', w'.heap = w.heap → (Builtin.firstCells sz ys.length vy).run P w' = .ok vss.flatten.toArray w') := by
  cases y with
  | nils =>
    simp only [appSrc] at h
    cases st <;> simp at h
    subst h
    cases hy
    exact ⟨[], ⟨rfl, fun i h _ => absurd h (by simp), fun x hx => by cases hx⟩, fun w' => by simp [Builtin.lenOf], fun w' _ => by simp [Builtin.firstCells]⟩
  | e0 =>
    simp only [appSrc] at h
    cases st <;> simp at h
    subst h
    cases hy with
    | e0 a =>
    refine ⟨[], ⟨rfl, fun i h _ => absurd h (by simp), fun x hx => by cases hx⟩, fun w' => by simp [Builtin.lenOf], fun w' _ => ?_⟩
    cases a <;> simp [Builtin.firstCells, loadCells, loadCellsFrom]
  | sl t xs =>
    simp only [appSrc] at h
    cases st <;> simp at h
    subst h
    obtain ⟨a, cap, vss, rfl, hc, hk, hs, ha, hcell, hlen⟩ := sl_elems k hy (fit_sz hf)
    refine ⟨vss, hk, fun w' => by simp [Builtin.lenOf], fun w' hw' => ?_⟩
    cases a with
    | none =>
      cases xs with
      | nil => 
        have : vss = [] := by have := hk.len; simpa using this
        subst this
        simp [Builtin.firstCells]
      | cons x xs => obtain ⟨b, hb⟩ := ha (by simp); cases hb
    | some b =>
      exact run_firstCells_some w' sz xs.length b xs.length cap vss.flatten hlen (fun j v hj => by rw [cell?_heap hw']; exact (hcell b rfl j v hj).1)
  | str l =>
    simp only [appSrc] at h
    cases st <;> simp at h
    subst h
    cases hy with
    | str _ hl =>
      have hs1 := hbyte l rfl
      subst hs1
      refine ⟨l.map fun b => [Value.int .u8 b.toNat], ⟨by simp [byteD], fun i h h' => ⟨by simp [byteD, D.cells], by simp [byteD, D.cells, D.one], fun j hj hj' => ?_⟩, fun x hx => ?_⟩, fun w' => ?_, fun w' _ => ?_⟩
      · simp [byteD, D.cells] at hj ⊢
        subst hj
        exact Rep.int _ _
      · simp only [byteD, List.mem_map] at hx
        obtain ⟨b, _, rfl⟩ := hx
        rfl
      · simp [Builtin.lenOf, byteD, ByteArray.size]
      · simp only [Builtin.firstCells, byteD, List.length_map]
        have : ((⟨l.toArray⟩ : ByteArray).extract 0 l.length).data = l.toArray := by
          rw [extract_mk]; simp [subList]
        rw [this]
        simp only [Sem.run_pure]
        congr 1
        apply Array.toList_inj.1
        simp only [Array.toList_map]
        clear hl hbyte hf this
        induction l with
        | nil => rfl
        | cons b l ih => simpa using ih
  | _ => simp [appSrc] at h

end GP
