import Derived.Test.YtnipbngimicldaaDoorGpH
/- New objects, stores, appends. -/
namespace GP
open Go

variable {P : Program} {c : Cx} {w : World} {H : Hp}

def updN (f : Nat → Nat) (i v : Nat) : Nat → Nat := fun j => if j = i then v else f j
def updB (f : Nat → Bool) (i : Nat) : Nat → Bool := fun j => if j = i then true else f j

def bindC (c : Cx) (o b n : Nat) : Cx := { c with β := updN c.β o b, bd := updB c.bd o, sz := updN c.sz o n }

theorem bind_le {o b n : Nat} (h : c.bd o = false) : c.le (bindC c o b n) where
  M := fun _ _ h => h
  bd := fun o' h' => by show updB c.bd o o' = true; unfold updB; split <;> simp_all
  β := fun o' h' => by
    show updN c.β o b o' = c.β o'
    unfold updN
    rw [if_neg]
    intro e; subst e; rw [h] at h'; cases h'
  T := Nat.le_refl _
  dead := fun _ h => h
  tok := fun τ m z h => .inr ⟨m, h, Nat.le_refl _, fun _ => rfl⟩
  B := rfl
  sz := fun o' h' => by
    show updN c.sz o n o' = c.sz o'
    unfold updN
    rw [if_neg]
    intro e; subst e; rw [h] at h'; cases h'

theorem Inv.bind (k : Inv c w H) {cs : List D} {vs : List Value} (rest : List Value) (e : TypeId) (hc : Cells c cs vs) {o : Nat} (hf : c.bd o = false) {H' : Hp} {x0 : Ob} (h0 : H'[o]? = some x0) (hx0 : x0.cells? = some cs) (hH : ∀ o', o' ≠ o → H'[o']? = H[o']?) :
    Inv (bindC c o w.heap.size (vs.length + rest.length)) (w.alloc (.cells (vs ++ rest).toArray e)) H' := by
  have hl0 := Ob.live_of_cells hx0
  have hle := bind_le (c := c) (o := o) (b := w.heap.size) (n := vs.length + rest.length) hf
  generalize hnn : vs.length + rest.length = nn at hle ⊢
  have hβ : ∀ o', o' ≠ o → (bindC c o w.heap.size nn).β o' = c.β o' := fun o' h => by show updN _ _ _ _ = _; unfold updN; rw [if_neg h]
  have hβ0 : (bindC c o w.heap.size nn).β o = w.heap.size := by show updN _ _ _ _ = _; unfold updN; rw [if_pos rfl]
  have hz : ∀ o', o' ≠ o → (bindC c o w.heap.size nn).sz o' = c.sz o' := fun o' h => by show updN _ _ _ _ = _; unfold updN; rw [if_neg h]
  have hz0 : (bindC c o w.heap.size nn).sz o = nn := by show updN _ _ _ _ = _; unfold updN; rw [if_pos rfl]
  have hb : ∀ o', o' ≠ o → (bindC c o w.heap.size nn).bd o' = c.bd o' := fun o' h => by show updB _ _ _ = _; unfold updB; rw [if_neg h]
  have hb0 : (bindC c o w.heap.size nn).bd o = true := by show updB _ _ _ = _; unfold updB; rw [if_pos rfl]
  have hMnew : ∀ i, c.M ⟨w.heap.size, i, none⟩ = none := fun i => by
    cases hm : c.M ⟨w.heap.size, i, none⟩ with
    | none => rfl
    | some v => have := k.M_lt hm; simp at this
  have hlow := k.low
  refine ⟨?_, ?_, ?_, ?_, ?_, ?_, ?_, ?_, ?_, ?_, ?_⟩
  · intro a v h
    have h' : c.M a = some v := h
    rw [World.cell?_alloc_lt _ _ _ (k.M_lt h')]
    exact k.keep a v h'
  · rw [World.size_alloc]; exact Nat.le_succ_of_le k.low
  · intro o' x' cs' ho' hx'
    by_cases e' : o' = o
    · subst e'
      rw [h0] at ho'; injection ho' with ho'; subst ho'
      rw [hx0] at hx'; injection hx' with hx'; subst hx'
      rw [hβ0, hz0]
      exact ⟨vs, rest, e, (0, 0), alloc_new w _, hc.mono hle, hnn, fun i _ => by simp⟩
    · rw [hH o' e'] at ho'
      rw [hβ o' e', hz o' e']
      exact (k.row o' x' cs' ho' hx').mono hle (alloc_heap (k.own o' _ ho' (Ob.live_of_cells hx')).2.2.1)
  · intro o' ho'
    by_cases e' : o' = o
    · subst e'
      rcases ho' with h | h
      · rw [List.getElem?_eq_none h] at h0; cases h0
      · rw [h0] at h; injection h with h; subst h; cases hx0
    · rw [hb o' e']
      refine k.free o' ?_
      rcases ho' with h | h
      · refine .inl ?_
        have := hH o' e'
        rw [List.getElem?_eq_none h] at this
        exact List.getElem?_eq_none_iff.1 this.symm
      · exact .inr (by rw [← hH o' e']; exact h)
  · intro o' x ho' hx
    by_cases e' : o' = o
    · subst e'
      rw [hβ0, World.size_alloc]
      exact ⟨hb0, k.low, Nat.lt_succ_self _, hMnew⟩
    · rw [hH o' e'] at ho'
      obtain ⟨h1, h2, h3, h4⟩ := k.own o' x ho' hx
      rw [hβ o' e', hb o' e', World.size_alloc]
      exact ⟨h1, h2, Nat.lt_succ_of_lt h3, h4⟩
  · intro o1 o2 x1 x2 g1 g2 l1 l2 he
    by_cases e1 : o1 = o <;> by_cases e2 : o2 = o
    · rw [e1, e2]
    · subst e1
      rw [hβ0, hβ o2 e2] at he
      rw [hH o2 e2] at g2
      have := (k.own o2 x2 g2 l2).2.2.1
      omega
    · subst e2
      rw [hβ0, hβ o1 e1] at he
      rw [hH o1 e1] at g1
      have := (k.own o1 x1 g1 l1).2.2.1
      omega
    · rw [hβ o1 e1, hβ o2 e2] at he
      rw [hH o1 e1] at g1
      rw [hH o2 e2] at g2
      exact k.apart o1 o2 x1 x2 g1 g2 l1 l2 he
  · intro o' es h
    by_cases e' : o' = o
    · subst e'; rw [h0] at h; injection h with h; subst h; cases hx0
    · rw [hH o' e'] at h; exact k.map o' es h
  · intro o' m l h
    by_cases e' : o' = o
    · subst e'; rw [h0] at h; injection h with h; subst h; cases hx0
    · rw [hH o' e'] at h; exact k.iter o' m l h
  · intro τ m z hτ
    obtain ⟨h1, h2, h3, h4, h5⟩ := k.tok τ m z hτ
    refine ⟨h1, by rw [World.size_alloc]; exact Nat.lt_succ_of_lt h2, h3, h4, fun j a b => ?_⟩
    obtain ⟨g1, g2, g3⟩ := h5 j a b
    refine ⟨?_, ?_, g3⟩
    · have := World.cell?_alloc_lt w (.cells (vs ++ rest).toArray e) ⟨(c.κ τ).1.block, (c.κ τ).1.off + j, none⟩ h2
      exact (congrArg Option.isSome this).trans g1
    · have := World.frozen?_alloc_old w (.cells (vs ++ rest).toArray e) ⟨(c.κ τ).1.block, (c.κ τ).1.off + j, none⟩ (Nat.ne_of_lt h2)
      exact this.trans g2
  · intro τ m z o' x hτ ho' hx
    by_cases e' : o' = o
    · subst e'
      rw [hβ0]
      exact Nat.ne_of_gt (k.tok τ m z hτ).2.1
    · rw [hH o' e'] at ho'
      rw [hβ o' e']
      exact k.tokrow τ m z o' x hτ ho' hx
  · exact k.toks

theorem new_row (k : Inv c w H) {cs : List D} {vs : List Value} (e : TypeId) (hc : Cells c cs vs) {o : Nat} (hf : c.bd o = false) {H' : Hp} {x0 : Ob} (h0 : H'[o]? = some x0) (hx0 : x0.cells? = some cs) (hH : ∀ o', o' ≠ o → H'[o']? = H[o']?) {T : Tk} (hT : c.T = T) :
    Yld c w H' T (.ptr o 0) (.ok (.pointer (some ⟨w.heap.size, 0, none⟩)) (w.alloc (.cells vs.toArray e))) := by
  have hb := k.bind [] e hc hf h0 hx0 hH
  rw [List.append_nil] at hb
  refine ⟨_, bindC c o w.heap.size (vs.length + ([] : List Value).length), _, rfl, ?_, hb, bind_le hf, hT, Below.of_alloc w _ k.low⟩
  have : Rep (bindC c o w.heap.size (vs.length + ([] : List Value).length)) (.ptr o 0) (.pointer (some ⟨(bindC c o w.heap.size (vs.length + ([] : List Value).length)).β o, 0, none⟩)) := Rep.ptr o 0 (by show updB _ _ _ = _; unfold updB; rw [if_pos rfl])
  have hβ0 : (bindC c o w.heap.size (vs.length + ([] : List Value).length)).β o = w.heap.size := by show updN _ _ _ _ = _; unfold updN; rw [if_pos rfl]
  rwa [hβ0] at this

/-- A new mutable row, and the slice of it. -/
theorem new_ms (k : Inv c w H) {cs : List D} {vs : List Value} (rest : List Value) (e : TypeId) (hc : Cells c cs vs) {o : Nat} (hf : c.bd o = false) {H' : Hp} (h0 : H'[o]? = some (.row cs)) (hH : ∀ o', o' ≠ o → H'[o']? = H[o']?) {T : Tk} (hT : c.T = T)
    {ag : Bool} {sz n cap rc : Nat} (h1 : n ≤ cap) (h2 : cap ≤ rc) (h3 : rc * sz ≤ vs.length + rest.length) :
    Yld c w H' T (.ms ag sz o 0 n cap) (.ok (.slice (some ⟨w.heap.size, 0, none⟩) n rc) (w.alloc (.cells (vs ++ rest).toArray e))) := by
  refine ⟨_, bindC c o w.heap.size (vs.length + rest.length), _, rfl, ?_, k.bind rest e hc hf h0 rfl hH, bind_le hf, hT, Below.of_alloc w _ k.low⟩
  have hz0 : (bindC c o w.heap.size (vs.length + rest.length)).sz o = vs.length + rest.length := by show updN _ _ _ _ = _; unfold updN; rw [if_pos rfl]
  have : Rep (bindC c o w.heap.size (vs.length + rest.length)) (.ms ag sz o 0 n cap) (.slice (some ⟨(bindC c o w.heap.size (vs.length + rest.length)).β o, 0, none⟩) n rc) :=
    Rep.ms ag sz o 0 n cap rc (by show updB _ _ _ = _; unfold updB; rw [if_pos rfl]) h1 h2 (by rw [hz0]; omega)
  have hβ0 : (bindC c o w.heap.size (vs.length + rest.length)).β o = w.heap.size := by show updN _ _ _ _ = _; unfold updN; rw [if_pos rfl]
  rwa [hβ0] at this

theorem push_at (H : Hp) (x : Ob) : (H ++ [x])[H.length]? = some x := by simp
theorem push_other (H : Hp) (x : Ob) (o : Nat) (h : o ≠ H.length) : (H ++ [x])[o]? = H[o]? := by
  rcases Nat.lt_or_ge o H.length with h' | h'
  · rw [List.getElem?_append_left h']
  · rw [List.getElem?_eq_none (by simp; omega), List.getElem?_eq_none h']

/-! ### Stores -/
def putCells (w : World) (b off : Nat) : List Value → World
  | [] => w
  | v :: vs => putCells (w.setCell ⟨b, off, none⟩ v) b (off + 1) vs

theorem setCell_heap {w : World} {b off : Nat} {v : Value} {cs : Array Value} {e : TypeId} {fr : Nat × Nat} (h : w.heap[b]? = some (.cells cs e fr)) :
    (w.setCell ⟨b, off, none⟩ v).heap[b]? = some (.cells (cs.setIfInBounds off v) e fr) := by
  simp [World.setCell, Array.getElem?_modify, h]

theorem setCell_heap_ne {w : World} {b b' off : Nat} {v : Value} (h : b' ≠ b) : (w.setCell ⟨b, off, none⟩ v).heap[b']? = w.heap[b']? := by
  simp [World.setCell, Array.getElem?_modify, Ne.symm h]

theorem putCells_ne {b b' : Nat} (h : b' ≠ b) : ∀ (vs : List Value) (off : Nat) (w : World), (putCells w b off vs).heap[b']? = w.heap[b']?
  | [], _, _ => rfl
  | v :: vs, off, w => by rw [putCells, putCells_ne h vs, setCell_heap_ne h]

theorem putCells_at {b : Nat} {e : TypeId} {fr : Nat × Nat} : ∀ (vs : List Value) (off : Nat) (w : World) (cs : Array Value), w.heap[b]? = some (.cells cs e fr) → off + vs.length ≤ cs.size →
    ∃ cs', (putCells w b off vs).heap[b]? = some (.cells cs' e fr) ∧ cs'.toList = cs.toList.take off ++ vs ++ cs.toList.drop (off + vs.length)
  | [], off, w, cs, h, _ => ⟨cs, h, by simp⟩
  | v :: vs, off, w, cs, h, hl => by
    simp only [List.length_cons] at hl
    obtain ⟨cs', h1, h2⟩ := putCells_at vs (off + 1) (w.setCell ⟨b, off, none⟩ v) (cs.setIfInBounds off v) (setCell_heap h) (by simp; omega)
    refine ⟨cs', h1, ?_⟩
    rw [h2]
    simp only [Array.toList_setIfInBounds, List.length_cons]
    rw [List.take_succ_eq_append_getElem (by simp; omega), List.take_set_of_le (by omega), List.drop_set_of_lt (by omega)]
    simp only [List.getElem_set_self, List.append_assoc, List.cons_append, List.nil_append]
    congr 4
    omega

theorem putCells_same {b : Nat} : ∀ (vs : List Value) (off : Nat) (w : World), (putCells w b off vs).heap.size = w.heap.size ∧ (putCells w b off vs).os = w.os ∧ (putCells w b off vs).tape = w.tape ∧ (putCells w b off vs).output = w.output ∧ (putCells w b off vs).drawn = w.drawn
  | [], _, _ => ⟨rfl, rfl, rfl, rfl, rfl⟩
  | v :: vs, off, w => by
    obtain ⟨h1, h2, h3, h4, h5⟩ := putCells_same vs (off + 1) (w.setCell ⟨b, off, none⟩ v)
    exact ⟨by rw [putCells, h1, World.size_setCell], h2, h3, h4, h5⟩

theorem run_storeCells {b o : Nat} : ∀ (vs : List Value) (i : Nat) (w : World), (∀ j, j < vs.length → (w.cell? ⟨b, o + i + j, none⟩).isSome = true ∧ w.frozen? ⟨b, o + i + j, none⟩ = false) → (∀ v ∈ vs, v.oneCell' = true) →
    (storeCells ⟨b, o, none⟩ vs i).run P w = .ok () (putCells w b (o + i) vs)
  | [], i, w, _, _ => by simp [storeCells, putCells]
  | v :: vs, i, w, h, h1 => by
    have h0 := h 0 (by simp)
    simp only [Nat.add_zero] at h0
    obtain ⟨u, hu⟩ := Option.isSome_iff_exists.1 h0.1
    have hs : (store (Addr.add ⟨b, o, none⟩ i) v).run P w = .ok () (w.setCell ⟨b, o + i, none⟩ v) := by
      rw [Addr.add_eq _ rfl, run_store P w _ v _ (h1 v (by simp))]
      simp only [hu, h0.2]
      rfl
    simp only [storeCells, Sem.run_bind, hs, Result.andThen_ok]
    rw [run_storeCells vs (i + 1) _ ?_ (fun v hv => h1 v (by simp [hv]))]
    · rfl
    · intro j hj
      have hj' := h (j + 1) (by simp; omega)
      rw [show o + i + (j + 1) = o + (i + 1) + j by omega] at hj'
      refine ⟨?_, by rw [World.frozen?_setCell]; exact hj'.2⟩
      rw [World.cell?_setCell_other]
      · exact hj'.1
      · intro e; injection e with _ e; omega

/-- Cells laid into an object's block. -/
theorem put_inv (k : Inv c w H) {o : Nat} {x : Ob} {cs ds : List D} {us : List Value} (ho : H[o]? = some x) (hx : x.cells? = some cs) (kc : Cells c ds us) {off : Nat} (h1 : off ≤ cs.length) (h3 : off + ds.length ≤ c.sz o) :
    (storeCells ⟨c.β o, off, none⟩ us).run P w = .ok () (putCells w (c.β o) off us) ∧
    Inv c (putCells w (c.β o) off us) (H.set o (.row (cs.take off ++ ds ++ cs.drop (off + ds.length)))) ∧ Below c.B w (putCells w (c.β o) off us) := by
  have hl := Ob.live_of_cells hx
  obtain ⟨vs, rest, e, fr, g1, g2, g4, g3⟩ := (k.row o x cs ho hx).hold
  obtain ⟨k0, k1, k2, k3⟩ := k.own o _ ho hl
  have hvl : vs.length = cs.length := g2.len
  have hul : us.length = ds.length := kc.len
  generalize hN : (Ob.row (cs.take off ++ ds ++ cs.drop (off + ds.length))) = N
  have hrun : (storeCells ⟨c.β o, off, none⟩ us).run P w = .ok () (putCells w (c.β o) off us) := by
    have hst := run_storeCells (P := P) (b := c.β o) (o := off) us 0 w (fun j hj => ?_) kc.cell
    · simpa only [Nat.add_zero] using hst
    · simp only [Nat.add_zero, World.cell?, World.frozen?, g1]
      have hlt : off + j < c.sz o := by omega
      have := g3 (off + j) hlt
      have hlt' : off + j < (vs ++ rest).length := by rw [List.length_append]; omega
      refine ⟨?_, ?_⟩
      · simp only [List.getElem?_toArray, List.getElem?_eq_getElem hlt']; rfl
      · simp; omega
  obtain ⟨p1, p2, p3, p4, p5⟩ := putCells_same (b := c.β o) us off w
  obtain ⟨cs', q1, q2⟩ := putCells_at (b := c.β o) us off w (vs ++ rest).toArray g1 (by simp; omega)
  have hne : ∀ b', b' ≠ c.β o → (putCells w (c.β o) off us).heap[b']? = w.heap[b']? := fun b' h => putCells_ne h _ _ _
  have hcell : ∀ x : Addr, x.block ≠ c.β o → (putCells w (c.β o) off us).cell? x = w.cell? x := fun x h => by simp only [World.cell?, hne _ h]
  have hfroz : ∀ x : Addr, x.block ≠ c.β o → (putCells w (c.β o) off us).frozen? x = w.frozen? x := fun x h => by simp only [World.frozen?, hne _ h]
  have hHne : ∀ o', o' ≠ o → (H.set o N)[o']? = H[o']? := fun o' h => by rw [List.getElem?_set_ne (Ne.symm h)]
  have hlt : o < H.length := by
    rcases Nat.lt_or_ge o H.length with h' | h'
    · exact h'
    · rw [List.getElem?_eq_none h'] at ho; cases ho
  have hHo : (H.set o N)[o]? = some N := by simp [hlt]
  refine ⟨hrun, ?_, ?_⟩
  · refine ⟨?_, ?_, ?_, ?_, ?_, ?_, ?_, ?_, ?_, ?_, ?_⟩
    · intro x v hx
      by_cases hb : x.block = c.β o
      · exfalso
        obtain ⟨b, f, s⟩ := x
        simp only at hb; subst hb
        have hc := k.keep _ _ hx
        cases s with
        | none => rw [k3 f] at hx; cases hx
        | some s => simp [World.cell?, g1] at hc
      · rw [hcell x hb]; exact k.keep x v hx
    · rw [p1]; exact k.low
    · intro o' x'' cs'' ho' hx''
      by_cases e' : o' = o
      · subst e'
        rw [hHo] at ho'; injection ho' with ho'; subst ho'; subst hN
        injection hx'' with hx''; subst hx''
        have hc : Cells c (cs.take off ++ ds ++ cs.drop (off + ds.length)) (vs.take off ++ us ++ vs.drop (off + us.length)) := by
          rw [hul]
          exact ((g2.take off).append kc).append (g2.drop _)
        have hlen := hc.len
        refine ⟨vs.take off ++ us ++ vs.drop (off + us.length), rest.drop (off + us.length - vs.length), e, fr, ?_, hc, ?_, g3⟩
        · rw [q1]
          congr 2
          apply Array.toList_inj.1
          rw [q2]
          simp only [List.append_assoc, List.drop_append]
          rw [List.take_append_of_le_length (by omega)]
        · simp only [List.length_append, List.length_take, List.length_drop]
          omega
      · rw [hHne o' e'] at ho'
        have hb := fun e => e' (k.apart o' o _ _ ho' ho (Ob.live_of_cells hx'') hl e)
        exact (k.row o' x'' cs'' ho' hx'').mono (Cx.le.refl c) (hne _ hb)
    · intro o' ho'
      by_cases e' : o' = o
      · subst e'
        rcases ho' with h | h
        · rw [List.length_set] at h; omega
        · rw [hHo] at h; subst hN; cases h
      · refine k.free o' ?_
        rcases ho' with h | h
        · exact .inl (by rw [List.length_set] at h; exact h)
        · exact .inr (by rw [← hHne o' e']; exact h)
    · intro o' x ho' hx
      rw [p1]
      by_cases e' : o' = o
      · subst e'; exact ⟨k0, k1, k2, k3⟩
      · rw [hHne o' e'] at ho'; exact k.own o' x ho' hx
    · intro o1 o2 x1 x2 h1' h2' l1 l2 he
      have key : ∀ (o' : Nat) (y : Ob), (H.set o N)[o']? = some y → y.live = true → ∃ x' : Ob, H[o']? = some x' ∧ x'.live = true := fun o' y h l => by
        by_cases e' : o' = o
        · subst e'; exact ⟨_, ho, hl⟩
        · rw [hHne o' e'] at h; exact ⟨y, h, l⟩
      obtain ⟨y1, a1, b1⟩ := key o1 x1 h1' l1
      obtain ⟨y2, a2, b2⟩ := key o2 x2 h2' l2
      exact k.apart o1 o2 y1 y2 a1 a2 b1 b2 he
    · intro o' es h
      by_cases e' : o' = o
      · subst e'; rw [hHo] at h; subst hN; cases h
      · rw [hHne o' e'] at h; exact k.map o' es h
    · intro o' m l h
      by_cases e' : o' = o
      · subst e'; rw [hHo] at h; subst hN; cases h
      · rw [hHne o' e'] at h; exact k.iter o' m l h
    · intro τ m z hτ
      obtain ⟨h1, h2, h3, h4, h5⟩ := k.tok τ m z hτ
      have hb : (c.κ τ).1.block ≠ c.β o := fun e => k.tokrow τ m z o _ hτ ho hl e.symm
      refine ⟨h1, by rw [p1]; exact h2, h3, h4, fun j a b => ?_⟩
      obtain ⟨z1, z2, z3⟩ := h5 j a b
      exact ⟨(congrArg Option.isSome (hcell ⟨(c.κ τ).1.block, (c.κ τ).1.off + j, none⟩ hb)).trans z1, (hfroz ⟨(c.κ τ).1.block, (c.κ τ).1.off + j, none⟩ hb).trans z2, z3⟩
    · intro τ m z o' x hτ ho' hx
      by_cases e' : o' = o
      · subst e'; exact k.tokrow τ m z o' _ hτ ho hl
      · rw [hHne o' e'] at ho'; exact k.tokrow τ m z o' x hτ ho' hx
    · exact k.toks
  · exact ⟨p2, p3, p4, by rw [p1]; exact Nat.le_refl _, fun i hi => hne i (by omega)⟩

theorem row_fits (k : Inv c w H) {o : Nat} {x : Ob} {cs : List D} (ho : H[o]? = some x) (hx : x.cells? = some cs) : cs.length ≤ c.sz o := by
  obtain ⟨vs, rest, e, fr, g1, g2, g4, g3⟩ := (k.row o x cs ho hx).hold
  have := g2.len
  omega

theorem store_any (k : Inv c w H) {t : TypeId} {n : Nat} (ht : tsz P t = some n) {a d : D} {va vd : Value} (ha : Rep c a va) (hd : Rep c d vd) {o off : Nat} {x : Ob} {cs : List D} (ea : a = .ptr o off) (ho : H[o]? = some x) (hx : x.cells? = some cs)
    (h1 : d.okc = true) (h2 : d.cells.length = n) (h3 : off + n ≤ cs.length) :
    ∃ w', (Instr.storeAt t va vd).run P w = .ok () w' ∧ Inv c w' (H.set o (.row (cs.take off ++ d.cells ++ cs.drop (off + n)))) ∧ Below c.B w w' := by
  subst ea
  cases ha with
  | ptr _ _ hbd =>
    have kc := hd.cells h1
    have hvn : vd.cells.size = n := by have := kc.len; simp at this; omega
    have hfit := row_fits k ho hx
    obtain ⟨hst, hi, hb⟩ := put_inv (P := P) k ho hx kc (off := off) (by omega) (by omega)
    refine ⟨_, ?_, by rw [h2] at hi; exact hi, hb⟩
    simp [Instr.storeAt, Instr.sureAddr, storeVar, run_size ht, hvn, hst]

theorem store_sound (k : Inv c w H) {t : TypeId} {n : Nat} (ht : tsz P t = some n) {a d : D} {va vd : Value} (ha : Rep c a va) (hd : Rep c d vd) {o off : Nat} {cs : List D} (ea : a = .ptr o off) (ho : H[o]? = some (.row cs))
    (h1 : d.okc = true) (h2 : d.cells.length = n) (h3 : off + n ≤ cs.length) :
    ∃ w', (Instr.storeAt t va vd).run P w = .ok () w' ∧ Inv c w' (H.set o (.row (cs.take off ++ d.cells ++ cs.drop (off + n)))) ∧ Below c.B w w' :=
  store_any k ht ha hd ea ho rfl h1 h2 h3

/-- An object under a new number; the old one is dead. -/
theorem rename_inv (k : Inv c w H) {o : Nat} {x : Ob} {cs : List D} (ho : H[o]? = some x) (hx : x.cells? = some cs) :
    Inv (bindC c H.length (c.β o) (c.sz o)) w (H.set o .dead ++ [.row cs]) ∧ c.le (bindC c H.length (c.β o) (c.sz o)) := by
  have hl := Ob.live_of_cells hx
  have hlt : o < H.length := by
    rcases Nat.lt_or_ge o H.length with h' | h'
    · exact h'
    · rw [List.getElem?_eq_none h'] at ho; cases ho
  have hf : c.bd H.length = false := k.free _ (.inl (Nat.le_refl _))
  have hle := bind_le (c := c) (o := H.length) (b := c.β o) (n := c.sz o) hf
  obtain ⟨k0, k1, k2, k3⟩ := k.own o _ ho hl
  have hβ : ∀ o', o' ≠ H.length → (bindC c H.length (c.β o) (c.sz o)).β o' = c.β o' := fun o' h => by show updN _ _ _ _ = _; unfold updN; rw [if_neg h]
  have hβ0 : (bindC c H.length (c.β o) (c.sz o)).β H.length = c.β o := by show updN _ _ _ _ = _; unfold updN; rw [if_pos rfl]
  have hz : ∀ o', o' ≠ H.length → (bindC c H.length (c.β o) (c.sz o)).sz o' = c.sz o' := fun o' h => by show updN _ _ _ _ = _; unfold updN; rw [if_neg h]
  have hz0 : (bindC c H.length (c.β o) (c.sz o)).sz H.length = c.sz o := by show updN _ _ _ _ = _; unfold updN; rw [if_pos rfl]
  have hb : ∀ o', o' ≠ H.length → (bindC c H.length (c.β o) (c.sz o)).bd o' = c.bd o' := fun o' h => by show updB _ _ _ = _; unfold updB; rw [if_neg h]
  have hb0 : (bindC c H.length (c.β o) (c.sz o)).bd H.length = true := by show updB _ _ _ = _; unfold updB; rw [if_pos rfl]
  have get : ∀ (o' : Nat) (y : Ob), (H.set o .dead ++ [.row cs])[o']? = some y → (o' = H.length ∧ y = .row cs) ∨ (o' = o ∧ y = .dead) ∨ (o' ≠ H.length ∧ o' ≠ o ∧ H[o']? = some y) := by
    intro o' y h
    rcases Nat.lt_or_ge o' H.length with h' | h'
    · rw [List.getElem?_append_left (by simpa using h')] at h
      by_cases e : o' = o
      · subst e; simp [h'] at h; exact .inr (.inl ⟨rfl, h.symm⟩)
      · rw [List.getElem?_set_ne (Ne.symm e)] at h
        exact .inr (.inr ⟨by omega, e, h⟩)
    · rw [List.getElem?_append_right (by simpa using h')] at h
      simp only [List.length_set] at h
      cases hd : o' - H.length with
      | zero =>
        rw [hd] at h
        exact .inl ⟨by omega, by simpa using h.symm⟩
      | succ n => rw [hd] at h; simp at h
  refine ⟨⟨k.keep, k.low, ?_, ?_, ?_, ?_, ?_, ?_, k.tok, ?_, k.toks⟩, hle⟩
  · intro o' x' cs' h hx'
    rcases get o' _ h with ⟨rfl, rfl⟩ | ⟨rfl, rfl⟩ | ⟨h1, h2, h3⟩
    · injection hx' with hx'; subst hx'
      rw [hβ0, hz0]
      exact (k.row o x cs ho hx).mono hle rfl
    · cases hx'
    · rw [hβ o' h1, hz o' h1]
      exact (k.row o' x' cs' h3 hx').mono hle rfl
  · intro o' h
    rcases h with h | h
    · simp at h
      rw [hb o' (by omega)]
      exact k.free o' (.inl (by omega))
    · rcases get o' _ h with ⟨rfl, e⟩ | ⟨rfl, e⟩ | ⟨h1, h2, h3⟩
      · cases e
      · cases e
      · rw [hb o' h1]; exact k.free o' (.inr h3)
  · intro o' y h hy
    rcases get o' _ h with ⟨rfl, rfl⟩ | ⟨rfl, rfl⟩ | ⟨h1, h2, h3⟩
    · rw [hβ0]; exact ⟨hb0, k1, k2, k3⟩
    · cases hy
    · rw [hβ o' h1, hb o' h1]; exact k.own o' y h3 hy
  · intro o1 o2 x1 x2 h1 h2 l1 l2 he
    rcases get o1 _ h1 with ⟨rfl, rfl⟩ | ⟨rfl, rfl⟩ | ⟨a1, a2, a3⟩
    · rcases get o2 _ h2 with ⟨rfl, rfl⟩ | ⟨rfl, rfl⟩ | ⟨b1, b2, b3⟩
      · rfl
      · cases l2
      · rw [hβ0, hβ o2 b1] at he
        exact absurd (k.apart o o2 x x2 ho b3 hl l2 he).symm b2
    · cases l1
    · rcases get o2 _ h2 with ⟨rfl, rfl⟩ | ⟨rfl, rfl⟩ | ⟨b1, b2, b3⟩
      · rw [hβ0, hβ o1 a1] at he
        exact absurd (k.apart o1 o x1 x a3 ho l1 hl he) a2
      · cases l2
      · rw [hβ o1 a1, hβ o2 b1] at he
        exact k.apart o1 o2 x1 x2 a3 b3 l1 l2 he
  · intro o' es h
    rcases get o' _ h with ⟨rfl, e⟩ | ⟨rfl, e⟩ | ⟨h1, h2, h3⟩
    · cases e
    · cases e
    · exact k.map o' es h3
  · intro o' m l h
    rcases get o' _ h with ⟨rfl, e⟩ | ⟨rfl, e⟩ | ⟨h1, h2, h3⟩
    · cases e
    · cases e
    · exact k.iter o' m l h3
  · intro τ m z o' y hτ h hy
    rcases get o' _ h with ⟨rfl, rfl⟩ | ⟨rfl, rfl⟩ | ⟨h1, h2, h3⟩
    · rw [hβ0]; exact k.tokrow τ m z o x hτ ho hl
    · cases hy
    · rw [hβ o' h1]; exact k.tokrow τ m z o' y hτ h3 hy

/-- An object that nobody writes any more. -/
theorem kill_inv (k : Inv c w H) (o : Nat) : Inv c w (H.set o .dead) := by
  have get : ∀ (o' : Nat) (y : Ob), (H.set o .dead)[o']? = some y → y = .dead ∨ H[o']? = some y := by
    intro o' y h
    by_cases e : o' = o
    · subst e
      rcases Nat.lt_or_ge o' H.length with h' | h'
      · simp [h'] at h; exact .inl h.symm
      · rw [List.getElem?_eq_none (by simpa using h')] at h; cases h
    · rw [List.getElem?_set_ne (Ne.symm e)] at h; exact .inr h
  refine ⟨k.keep, k.low, ?_, ?_, ?_, ?_, ?_, ?_, k.tok, ?_, k.toks⟩
  · intro o' x' cs' h hx'
    rcases get o' _ h with rfl | h
    · cases hx'
    · exact k.row o' x' cs' h hx'
  · intro o' h
    rcases h with h | h
    · exact k.free o' (.inl (by simpa using h))
    · rcases get o' _ h with e | h
      · cases e
      · exact k.free o' (.inr h)
  · intro o' y h hy
    rcases get o' _ h with rfl | h
    · cases hy
    · exact k.own o' y h hy
  · intro o1 o2 x1 x2 h1 h2 l1 l2 he
    rcases get o1 _ h1 with rfl | h1
    · cases l1
    · rcases get o2 _ h2 with rfl | h2
      · cases l2
      · exact k.apart o1 o2 x1 x2 h1 h2 l1 l2 he
  · intro o' es h
    rcases get o' _ h with e | h
    · cases e
    · exact k.map o' es h
  · intro o' m l h
    rcases get o' _ h with e | h
    · cases e
    · exact k.iter o' m l h
  · intro τ m z o' y hτ h hy
    rcases get o' _ h with rfl | h
    · cases hy
    · exact k.tokrow τ m z o' y hτ h hy

end GP
