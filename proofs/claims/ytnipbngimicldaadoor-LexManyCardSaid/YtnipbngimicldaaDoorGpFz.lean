import Derived.Test.YtnipbngimicldaaDoorGpKm
/- A mutable row that nobody changes any more is taken for what it holds. -/
namespace GP
open Go

variable {P : Program} {c : Cx} {w : World} {H : Hp}

def fzM (c : Cx) (o : Nat) (vs : List Value) : Addr → Option Value := fun a => if a.block = c.β o ∧ a.spot = none then vs[a.off]? else c.M a
def Cx.fz (c : Cx) (o : Nat) (vs : List Value) : Cx := { c with M := fzM c o vs }

theorem fzM_other {c : Cx} {o : Nat} {vs : List Value} {a : Addr} (h : a.block ≠ c.β o) : fzM c o vs a = c.M a := by
  unfold fzM; rw [if_neg (fun k => h k.1)]
theorem fzM_at (c : Cx) (o : Nat) (vs : List Value) (i : Nat) : fzM c o vs ⟨c.β o, i, none⟩ = vs[i]? := by
  unfold fzM; rw [if_pos ⟨rfl, rfl⟩]

theorem fz_le {o : Nat} {vs : List Value} (h : ∀ i, c.M ⟨c.β o, i, none⟩ = none) : c.le (c.fz o vs) := by
  refine ⟨fun a v ha => ?_, fun _ h => h, fun _ _ => rfl, Nat.le_refl _, fun _ h => h, fun _ n _ h => .inr ⟨n, h, Nat.le_refl _, fun _ => rfl⟩, rfl, fun _ _ => rfl⟩
  show fzM c o vs a = some v
  unfold fzM
  split
  · rename_i hc
    obtain ⟨b, i, s⟩ := a
    obtain ⟨h1, h2⟩ := hc
    simp only at h1 h2; subst h1; subst h2
    rw [h i] at ha; cases ha
  · exact ha

theorem set_get_ne {H : Hp} {o o' : Nat} {x y : Ob} (h : (H.set o x)[o']? = some y) (hx : y ≠ x) : o' ≠ o ∧ H[o']? = some y := by
  by_cases e : o = o'
  · subst e
    rw [List.getElem?_set] at h
    split at h
    · split at h
      · injection h with h; exact absurd h.symm hx
      · cases h
    · rename_i hne; exact absurd rfl hne
  · rw [List.getElem?_set_ne e] at h
    exact ⟨fun k => e k.symm, h⟩

/-- What a row's block holds. -/
theorem Inv.row_at (k : Inv c w H) {o : Nat} {cs : List D} (h : H[o]? = some (.row cs)) : ∃ vs, Cells c cs vs ∧ ∀ (i : Nat) u, vs[i]? = some u → w.cell? ⟨c.β o, i, none⟩ = some u := by
  obtain ⟨a, vs, h1, h2, h3, h4⟩ := read_at k (Rep.ptr o 0 (k.own o _ h rfl).1) (cs := cs) (by simp [rdAt, h])
  injection h1 with h1; injection h1 with h1; subst h1
  refine ⟨vs, h3, fun i u hu => ?_⟩
  have := h4 i u hu
  rw [Addr.add_eq _ rfl] at this
  simpa using this

theorem Inv.fz (k : Inv c w H) {o : Nat} {cs : List D} (h : H[o]? = some (.row cs)) {vs : List Value} (hv : ∀ (i : Nat) u, vs[i]? = some u → w.cell? ⟨c.β o, i, none⟩ = some u) : Inv (c.fz o vs) w (H.set o .dead) := by
  obtain ⟨hb, hB, hw, hM⟩ := k.own o _ h rfl
  have hle := fz_le (vs := vs) hM
  have get : ∀ {o' : Nat} {x : Ob}, (H.set o .dead)[o']? = some x → x.live = true → o' ≠ o ∧ H[o']? = some x := fun hg hx => set_get_ne hg (fun e => by subst e; simp [Ob.live] at hx)
  have hne : ∀ {o' : Nat} {x : Ob}, H[o']? = some x → x.live = true → o' ≠ o → c.β o' ≠ c.β o := fun hg hx hn e => hn (k.apart _ _ _ _ hg h hx rfl e)
  refine ⟨fun a v ha => ?_, k.low, fun o' x cs' hg hx => ?_, fun o' hf => ?_, fun o' x hg hx => ?_, fun o' o'' x x' hg hg' hx hx' => ?_, fun o' es hg => ?_, fun o' m l hg => ?_, fun τ n z ht => ?_, fun τ n z o' x ht hg hx => ?_, k.toks⟩
  · change fzM c o vs a = some v at ha
    unfold fzM at ha
    split at ha
    · rename_i hc
      obtain ⟨b, i, s⟩ := a
      obtain ⟨h1, h2⟩ := hc
      simp only at h1 h2 ha; subst h1; subst h2
      exact hv i v ha
    · exact k.keep a v ha
  · have hlv : x.live = true := by cases x <;> simp [Ob.cells?] at hx <;> rfl
    obtain ⟨h1, h2⟩ := get hg hlv
    obtain ⟨us, rest, e, fr, g1, g2, g3, g4⟩ := (k.row o' x cs' h2 hx).hold
    exact ⟨us, rest, e, fr, g1, g2.mono hle, g3, g4⟩
  · rcases hf with hf | hf
    · exact k.free o' (.inl (by simpa using hf))
    · obtain ⟨_, h2⟩ := set_get_ne hf (by simp)
      exact k.free o' (.inr h2)
  · obtain ⟨h1, h2⟩ := get hg hx
    obtain ⟨g1, g2, g3, g4⟩ := k.own o' x h2 hx
    refine ⟨g1, g2, g3, fun i => ?_⟩
    show fzM c o vs _ = none
    rw [fzM_other (hne h2 hx h1)]; exact g4 i
  · obtain ⟨_, h2⟩ := get hg hx
    obtain ⟨_, h3⟩ := get hg' hx'
    exact k.apart _ _ _ _ h2 h3 hx hx'
  · exact k.map o' es (set_get_ne hg (by simp)).2
  · exact k.iter o' m l (set_get_ne hg (by simp)).2
  · obtain ⟨g1, g2, g3, g4, g5⟩ := k.tok τ n z ht
    refine ⟨g1, g2, g3, g4, fun j h1 h2 => ?_⟩
    obtain ⟨q1, q2, q3⟩ := g5 j h1 h2
    refine ⟨q1, q2, ?_⟩
    show fzM c o vs ⟨(c.κ τ).1.block, (c.κ τ).1.off + j, none⟩ = none
    rw [fzM_other (a := ⟨(c.κ τ).1.block, (c.κ τ).1.off + j, none⟩) (fun e => k.tokrow τ n z o _ ht h rfl e.symm)]; exact q3
  · obtain ⟨_, h2⟩ := get hg hx
    exact k.tokrow τ n z o' x ht h2 hx

theorem rep_fz {ag : Bool} {z o off n cap : Nat} {v : Value} (hr : Rep c (.ms ag z o off n cap) v) {cs : List D} {vs : List Value} (hc : Cells c cs vs) (hM : ∀ i, c.M ⟨c.β o, i, none⟩ = none) (h1 : off + n * z ≤ cs.length) (h2 : ag = true ∨ z = 1) (h3 : n < 2 ^ 62) :
    Rep (c.fz o vs) (.sl none (chunk ag z n (cs.drop off))) v := by
  cases hr with
  | ms _ _ _ _ _ _ rc hb g1 g2 g3 =>
    have hle := fz_le (vs := vs) hM
    have hcd : Cells (c.fz o vs) (cs.drop off) (vs.drop off) := by
      have := hc.mono hle
      exact ⟨by simp [this.len], fun d hd => this.one d (List.mem_of_mem_drop hd), fun i h h' => by simpa using this.rep (off + i) (by simp at h; omega) (by simp at h'; omega)⟩
    have ke := chunk_elems h2 n _ _ hcd (by simp; omega)
    have hl := chunk_len ag z n (cs.drop off)
    have hvl : vs.length = cs.length := hc.len
    have := rep_sl_of ke (a := ⟨c.β o, off, none⟩) (cap := rc) rfl (by omega) (by omega) (fun j hj => ?_) none (fun τ h => by cases h) (fun τ h => by cases h)
    · rw [hl] at this; exact this
    · rw [hl] at hj
      show fzM c o vs ⟨c.β o, off + j, none⟩ = _
      rw [fzM_at, chunkV_flat, List.getElem?_take_of_lt (by omega), List.getElem?_drop]

mutual
/-- A value, with a row taken for what it holds. -/
def D.fz (o : Nat) (cs : List D) : D → D
  | .ms ag z o' off n cap => if o' = o ∧ off + n * z ≤ cs.length ∧ (ag = true ∨ z = 1) ∧ n < 2 ^ 62 then .sl none (chunk ag z n (cs.drop off)) else .ms ag z o' off n cap
  | .sl t xs => .sl t (D.fzL o cs xs)
  | .el ds => .el (D.fzL o cs ds)
  | .agg ds => .agg (D.fzL o cs ds)
  | .tup ds => .tup (D.fzL o cs ds)
  | .fn f a b => .fn f (D.fzL o cs a) (D.fzL o cs b)
  | .ifc t d => .ifc t (D.fz o cs d)
  | d => d
def D.fzL (o : Nat) (cs : List D) : List D → List D
  | [] => []
  | d :: ds => D.fz o cs d :: D.fzL o cs ds
end

section
variable {o : Nat} {cs : List D}
theorem fzL_len : ∀ (l : List D), (D.fzL o cs l).length = l.length
  | [] => by simp [D.fzL]
  | d :: l => by simp [D.fzL, fzL_len l]
theorem fzL_get : ∀ (l : List D) (i : Nat) (h : i < l.length) (h' : i < (D.fzL o cs l).length), (D.fzL o cs l)[i] = (l[i]).fz o cs
  | d :: l, 0, h, h' => by simp [D.fzL]
  | d :: l, i + 1, h, h' => by
    simp only [D.fzL, List.getElem_cons_succ]
    exact fzL_get l i _ _
theorem fzL_map (l : List D) : D.fzL o cs l = l.map (D.fz o cs) := by
  induction l with
  | nil => simp [D.fzL]
  | cons d l ih => simp [D.fzL, ih]
theorem fz_one (d : D) : (d.fz o cs).one = d.one := by
  cases d with
  | ms ag z o' off n cap =>
    simp only [D.fz]
    by_cases h : o' = o ∧ off + n * z ≤ cs.length ∧ (ag = true ∨ z = 1) ∧ n < 2 ^ 62
    · rw [if_pos h]; rfl
    · rw [if_neg h]
  | _ => simp only [D.fz, D.one]
theorem fz_cells (d : D) : (d.fz o cs).cells = D.fzL o cs d.cells := by
  cases d with
  | ms ag z o' off n cap =>
    simp only [D.fz]
    by_cases h : o' = o ∧ off + n * z ≤ cs.length ∧ (ag = true ∨ z = 1) ∧ n < 2 ^ 62
    · rw [if_pos h]; simp only [D.cells, D.fzL, D.fz]; rw [if_pos h]
    · rw [if_neg h]; simp only [D.cells, D.fzL, D.fz]; rw [if_neg h]
  | _ => simp only [D.fz, D.cells, D.fzL]

theorem Rep.fz {vs : List Value} (hc : Cells c cs vs) (hM : ∀ i, c.M ⟨c.β o, i, none⟩ = none) {d : D} {v : Value} (h : Rep c d v) : Rep (c.fz o vs) (d.fz o cs) v := by
  have hle := fz_le (vs := vs) hM
  induction h with
  | bool b => simpa [D.fz] using Rep.bool b
  | int k n => simpa [D.fz] using Rep.int k n
  | str l h => simpa [D.fz] using Rep.str l h
  | nilp => simpa [D.fz] using Rep.nilp
  | ptr o off h => simpa [D.fz] using (Rep.ptr o off h).mono hle
  | el ds a us ha h1 hM' _ ih =>
    simp only [D.fz]
    refine Rep.el _ a us ha ?_ (fun i hi => hle.M _ _ (hM' i (by simpa [fzL_len] using hi))) (fun i hi => ?_)
    · intro d hd
      rw [fzL_map] at hd
      obtain ⟨x, hx, rfl⟩ := List.mem_map.1 hd
      rw [fz_one]; exact h1 x hx
    · have hi' : i < ds.length := by simpa [fzL_len] using hi
      rw [fzL_get ds i hi']
      exact ih i hi'
  | nils => simpa [D.fz] using Rep.nils
  | ms ag z o' off len cap rc h h1 h2 h3 =>
    have hm := Rep.ms (c := c) ag z o' off len cap rc h h1 h2 h3
    simp only [D.fz]
    split
    · rename_i hq
      obtain ⟨rfl, q1, q2, q3⟩ := hq
      exact rep_fz hm hc hM q1 q2 q3
    · exact hm.mono hle
  | e0 a => simpa [D.fz] using Rep.e0 a
  | sl t xs a cap sz us hlen hb hsz h1 ha hs hM' _ htl ht ih =>
    simp only [D.fz]
    have hl := fzL_len (o := o) (cs := cs) xs
    rw [← hl]
    refine Rep.sl t (D.fzL o cs xs) a cap sz us (by omega) (by omega) ?_ ?_ ?_ ?_ ?_ ?_ htl (fun τ h n z h' => by rw [hl]; exact ht τ h n z h')
    · intro x hx
      rw [fzL_map] at hx
      obtain ⟨y, hy, rfl⟩ := List.mem_map.1 hx
      rw [fz_cells, fzL_len]; exact hsz y hy
    · intro x hx y hy
      rw [fzL_map] at hx
      obtain ⟨z, hz, rfl⟩ := List.mem_map.1 hx
      rw [fz_cells, fzL_map] at hy
      obtain ⟨u, hu, rfl⟩ := List.mem_map.1 hy
      rw [fz_one]; exact h1 z hz u hu
    · intro hne
      exact ha (by intro e; subst e; exact hne (by simp [D.fzL]))
    · intro hne
      exact hs (by intro e; subst e; exact hne (by simp [D.fzL]))
    · intro i hi j hj b hb
      exact hle.M _ _ (hM' i (by omega) j hj b hb)
    · intro i hi j hj
      have hi' : i < xs.length := by omega
      have e1 : (D.fzL o cs xs)[i].cells = D.fzL o cs (xs[i].cells) := by rw [fzL_get xs i hi', fz_cells]
      have hj' : j < (xs[i].cells).length := by rw [e1, fzL_len] at hj; exact hj
      have e2 : ((D.fzL o cs xs)[i].cells)[j] = ((xs[i].cells)[j]).fz o cs := by
        have := fzL_get (o := o) (cs := cs) (xs[i].cells) j hj' (by rw [fzL_len]; exact hj')
        rw [← this]; congr 1
      rw [e2]
      exact ih i hi' j hj'
  | fn f p q vp vq hp hq _ _ ih1 ih2 =>
    simp only [D.fz]
    refine Rep.fn f _ _ vp vq (by rw [fzL_len]; exact hp) (by rw [fzL_len]; exact hq) (fun i h h' => ?_) (fun i h h' => ?_)
    · have hi : i < p.length := by rw [fzL_len] at h; exact h
      rw [fzL_get p i hi]; exact ih1 i hi h'
    · have hi : i < q.length := by rw [fzL_len] at h; exact h
      rw [fzL_get q i hi]; exact ih2 i hi h'
  | nilf => simpa [D.fz] using Rep.nilf
  | mp o h => simpa [D.fz] using (Rep.mp o h).mono hle
  | nilm => simpa [D.fz] using Rep.nilm
  | nili => simpa [D.fz] using Rep.nili
  | ifc t d v _ ih => simp only [D.fz]; exact Rep.ifc t _ v ih
  | agg ds us hl h1 _ ih =>
    simp only [D.fz]
    refine Rep.agg _ us (by rw [fzL_len]; exact hl) ?_ (fun i h h' => ?_)
    · intro d hd
      rw [fzL_map] at hd
      obtain ⟨x, hx, rfl⟩ := List.mem_map.1 hd
      rw [fz_one]; exact h1 x hx
    · have hi : i < ds.length := by rw [fzL_len] at h; exact h
      rw [fzL_get ds i hi]; exact ih i hi h'
  | tup ds us hl _ ih =>
    simp only [D.fz]
    refine Rep.tup _ us (by rw [fzL_len]; exact hl) (fun i h h' => ?_)
    have hi : i < ds.length := by rw [fzL_len] at h; exact h
    rw [fzL_get ds i hi]; exact ih i hi h'
  | top v => simpa [D.fz] using Rep.top v
end

/-- The string of a mutable row's bytes. -/
theorem b2m_sound {src dst e : TypeId} (hs : P.underlying src = some (.slice e)) (he : P.underlying e = some (.int .u8)) (hd : P.underlying dst = some .string) (hi : Inv c w H) {x r : D} {v : Value} (hx : Rep c x v)
    (h : b2mD H x = some r) : ∃ u, (Go.convert src dst v).run P w = .ok u w ∧ Rep c r u := by
  unfold b2mD at h
  split at h
  · rename_i ag z o off n cap
    split at h
    · rename_i cs ho
      split at h
      · rename_i hc
        obtain ⟨h1, h2, h3, h4⟩ := hc
        injection h with h; subst h
        obtain ⟨vs, hv, hcell⟩ := hi.row_at ho
        have hM := (hi.own o _ ho rfl).2.2.2
        obtain ⟨u, e1, e2⟩ := b2s_sound (P := P) hs he hd (hi.fz ho hcell) (rep_fz hx hv hM (by rw [h1]; omega) (.inr h1) h4) (r := .str ((chunk ag z n (cs.drop off)).map unbyte)) (by simp only [b2sD]; rw [if_pos h3])
        refine ⟨u, e1, ?_⟩
        cases e2 with
        | str _ hl => exact Rep.str _ hl
      · cases h
    · cases h
  · exact b2s_sound hs he hd hi hx h

end GP
