import Derived.Test.YtnipbngimicldaaDoorGpG
/- New memory. -/
namespace GP
open Go

variable {P : Program} {c : Cx} {w : World} {H : Hp}

theorem cell?_heap {w w' : World} (h : w'.heap = w.heap) (a : Addr) : w'.cell? a = w.cell? a := by simp only [World.cell?, h]
theorem frozen?_heap {w w' : World} (h : w'.heap = w.heap) (a : Addr) : w'.frozen? a = w.frozen? a := by simp only [World.frozen?, h]

theorem RowAt.mono {c c' : Cx} (h : c.le c') {w w' : World} {b n : Nat} {cs : List D} (hw : w'.heap[b]? = w.heap[b]?) (k : RowAt c w b n cs) : RowAt c' w' b n cs := by
  obtain ⟨vs, rest, e, fr, h1, h2, h4, h3⟩ := k.hold
  exact ⟨vs, rest, e, fr, by rw [hw]; exact h1, h2.mono h, h4, h3⟩

theorem Ob.live_of_cells {x : Ob} {cs : List D} (h : x.cells? = some cs) : x.live = true := by cases x <;> simp_all [Ob.cells?, Ob.live]

theorem Inv.congr {w w' : World} (h : w'.heap = w.heap) (k : Inv c w H) : Inv c w' H where
  keep := fun a v ha => by rw [cell?_heap h]; exact k.keep a v ha
  low := by rw [h]; exact k.low
  row := fun o x cs ho hx => (k.row o x cs ho hx).mono (Cx.le.refl c) (by rw [h])
  free := k.free
  own := fun o x ho hx => by rw [h]; exact k.own o x ho hx
  apart := k.apart
  map := k.map
  iter := k.iter
  tok := fun τ n z hτ => by
    obtain ⟨h1, h2, h3, h4, h5⟩ := k.tok τ n z hτ
    refine ⟨h1, by rw [h]; exact h2, h3, h4, fun j a b => ?_⟩
    rw [cell?_heap h, frozen?_heap h]
    exact h5 j a b
  tokrow := k.tokrow
  toks := k.toks

def freshM (M : Addr → Option Value) (b : Nat) (vs : List Value) (k : Nat) : Addr → Option Value :=
  fun a => if a.block = b then (if a.spot = none ∧ a.off < k then vs[a.off]? else none) else M a

theorem freshM_other {M : Addr → Option Value} {b k : Nat} {vs : List Value} {a : Addr} (h : a.block ≠ b) : freshM M b vs k a = M a := if_neg h
theorem freshM_at {M : Addr → Option Value} {b k i : Nat} {vs : List Value} (hk : i < k) : freshM M b vs k ⟨b, i, none⟩ = vs[i]? := by simp [freshM, hk]
theorem freshM_out {M : Addr → Option Value} {b k i : Nat} {vs : List Value} (hk : k ≤ i) : freshM M b vs k ⟨b, i, none⟩ = none := by simp [freshM]; omega

theorem Inv.M_lt (k : Inv c w H) {a : Addr} {v : Value} (h : c.M a = some v) : a.block < w.heap.size := World.block_lt_of_cell? w a (k.keep a v h)

theorem fresh_le (k : Inv c w H) (vs : List Value) (n : Nat) : c.le { c with M := freshM c.M w.heap.size vs n } where
  M := fun a v h => by
    have := k.M_lt h
    show freshM _ _ _ _ a = some v
    rw [freshM_other (by omega)]; exact h
  bd := fun _ h => h
  β := fun _ _ => rfl
  T := Nat.le_refl _
  dead := fun _ h => h
  tok := fun τ m z h => .inr ⟨m, h, Nat.le_refl _, fun _ => rfl⟩
  B := rfl
  sz := fun _ _ => rfl

theorem alloc_heap {w : World} {o : Obj} {b : Nat} (h : b < w.heap.size) : (w.alloc o).heap[b]? = w.heap[b]? := by
  simp only [World.alloc, Array.getElem?_push]
  rw [if_neg (by omega)]

theorem alloc_new (w : World) (o : Obj) : (w.alloc o).heap[w.heap.size]? = some o := by
  show (w.heap.push o)[w.heap.size]? = _
  simp
theorem cell?_new (w : World) (c : Array Value) (t : TypeId) (fr : Nat × Nat) (i : Nat) : (w.alloc (.cells c t fr)).cell? ⟨w.heap.size, i, none⟩ = c[i]? := by simp only [World.cell?, alloc_new]; rfl
theorem frozen?_new (w : World) (c : Array Value) (t : TypeId) (fr : Nat × Nat) (i : Nat) : (w.alloc (.cells c t fr)).frozen? ⟨w.heap.size, i, none⟩ = (decide (fr.1 ≤ i) && decide (i < fr.2)) := by simp only [World.frozen?, alloc_new]

theorem Inv.fresh (k : Inv c w H) (vs : List Value) (e : TypeId) (fr : Nat × Nat) (n : Nat) : Inv { c with M := freshM c.M w.heap.size vs n } (w.alloc (.cells vs.toArray e fr)) H where
  keep := fun a v h => by
    change freshM c.M w.heap.size vs n a = some v at h
    by_cases hb : a.block = w.heap.size
    · obtain ⟨b, o, s⟩ := a
      change b = w.heap.size at hb
      subst hb
      simp only [freshM, if_true] at h
      split at h
      · rename_i hc
        obtain ⟨h1, h2⟩ := hc
        subst h1
        rw [cell?_new]
        simpa using h
      · cases h
    · rw [freshM_other hb] at h
      rw [World.cell?_alloc_lt _ _ _ (k.M_lt h)]
      exact k.keep a v h
  low := by rw [World.size_alloc]; exact Nat.le_succ_of_le k.low
  row := fun o x cs ho hx => (k.row o x cs ho hx).mono (fresh_le k vs n) (alloc_heap (k.own o _ ho (Ob.live_of_cells hx)).2.2.1)
  free := k.free
  own := fun o x ho hx => by
    obtain ⟨h0, h1, h2, h3⟩ := k.own o x ho hx
    refine ⟨h0, h1, by rw [World.size_alloc]; exact Nat.lt_succ_of_lt h2, fun i => ?_⟩
    show freshM _ _ _ _ _ = none
    rw [freshM_other (by simp; omega)]
    exact h3 i
  apart := k.apart
  map := k.map
  iter := k.iter
  tok := fun τ m z hτ => by
    obtain ⟨h1, h2, h3, h4, h5⟩ := k.tok τ m z hτ
    refine ⟨h1, by rw [World.size_alloc]; exact Nat.lt_succ_of_lt h2, h3, h4, fun j a b => ?_⟩
    obtain ⟨g1, g2, g3⟩ := h5 j a b
    refine ⟨?_, ?_, ?_⟩
    · have := World.cell?_alloc_lt w (.cells vs.toArray e fr) ⟨(c.κ τ).1.block, (c.κ τ).1.off + j, none⟩ h2
      exact (congrArg Option.isSome this).trans g1
    · have := World.frozen?_alloc_old w (.cells vs.toArray e fr) ⟨(c.κ τ).1.block, (c.κ τ).1.off + j, none⟩ (Nat.ne_of_lt h2)
      exact this.trans g2
    · have := freshM_other (M := c.M) (b := w.heap.size) (k := n) (vs := vs) (a := ⟨(c.κ τ).1.block, (c.κ τ).1.off + j, none⟩) (Nat.ne_of_lt h2)
      exact this.trans g3
  tokrow := k.tokrow
  toks := k.toks

/-- Other tokens. -/
theorem Inv.retok (k : Inv c w H) {T' : Tk} {κ' : Nat → Addr × Nat} (hle : c.le { c with T := T', κ := κ' }) (τ0 : Option Nat)
    (hT : ∀ (τ n z : Nat), T'[τ]? = some (some (n, z)) → (c.T[τ]? = some (some (n, z)) ∧ κ' τ = c.κ τ ∧ some τ ≠ τ0) ∨
      (some τ = τ0 ∧ c.B ≤ (κ' τ).1.block ∧ (κ' τ).1.block < w.heap.size ∧ (κ' τ).1.spot = none ∧ n ≤ (κ' τ).2 ∧
        (∀ j, n * z ≤ j → j < (κ' τ).2 * z → (w.cell? ⟨(κ' τ).1.block, (κ' τ).1.off + j, none⟩).isSome = true ∧ w.frozen? ⟨(κ' τ).1.block, (κ' τ).1.off + j, none⟩ = false ∧ c.M ⟨(κ' τ).1.block, (κ' τ).1.off + j, none⟩ = none) ∧
        (∀ (o : Nat) x, H[o]? = some x → x.live = true → c.β o ≠ (κ' τ).1.block) ∧
        (∀ (τ' n' z' : Nat), τ' ≠ τ → T'[τ']? = some (some (n', z')) → (c.κ τ').1.block ≠ (κ' τ).1.block))) :
    Inv { c with T := T', κ := κ' } w H where
  keep := k.keep
  low := k.low
  row := fun o x cs ho hx => (k.row o x cs ho hx).mono hle rfl
  free := k.free
  own := k.own
  apart := k.apart
  map := k.map
  iter := k.iter
  tok := fun τ n z hτ => by
    rcases hT τ n z hτ with ⟨h1, h2, _⟩ | ⟨_, h1, h2, h3, h4, h5, _, _⟩
    · simp only [h2]; exact k.tok τ n z h1
    · exact ⟨h1, h2, h3, h4, h5⟩
  tokrow := fun τ n z o x hτ ho hx => by
    rcases hT τ n z hτ with ⟨h1, h2, _⟩ | ⟨_, _, _, _, _, _, h6, _⟩
    · simp only [h2]; exact k.tokrow τ n z o x h1 ho hx
    · exact h6 o x ho hx
  toks := fun τ n z τ' n' z' hτ hτ' he => by
    rcases hT τ n z hτ with ⟨h1, h2, h3⟩ | ⟨h3, _, _, _, _, _, _, h7⟩ <;> rcases hT τ' n' z' hτ' with ⟨k1, k2, k3⟩ | ⟨k3, _, _, _, _, _, _, k7⟩
    · simp only [h2, k2] at he; exact k.toks τ n z τ' n' z' h1 k1 he
    · simp only [h2] at he
      exact absurd he (k7 τ n z (fun e => h3 (by rw [e]; exact k3)) hτ)
    · simp only [k2] at he
      exact absurd he.symm (h7 τ' n' z' (fun e => k3 (by rw [e]; exact h3)) hτ')
    · rw [← k3] at h3; injection h3

def Yld (c : Cx) (w : World) (H' : Hp) (T' : Tk) (d : D) (r : Result Value) : Prop :=
  ∃ v c' w', r = .ok v w' ∧ Rep c' d v ∧ Inv c' w' H' ∧ c.le c' ∧ c'.T = T' ∧ Below c.B w w'

theorem Below.of_alloc {B : Nat} (w : World) (o : Obj) (h : B ≤ w.heap.size) : Below B w (w.alloc o) := (Below.refl B w).alloc h o
theorem Below.of_drew_alloc {B : Nat} (w : World) (o : Obj) (h : B ≤ w.heap.size) : Below B w (w.drew.alloc o) := ((Below.refl B w).drew).alloc h o

/-- The cells of a row of elements, one behind the other. -/
theorem flat_at {sz : Nat} : ∀ (l : List (List Value)) (i : Nat) (h : i < l.length) (j : Nat), (∀ x ∈ l, x.length = sz) → j < sz → l.flatten[i * sz + j]? = (l[i])[j]?
  | x :: l, 0, _, j, hl, hj => by
    have hx := hl x (by simp)
    simp only [List.flatten_cons, Nat.zero_mul, Nat.zero_add, List.getElem_cons_zero]
    rw [List.getElem?_append_left (by omega)]
  | x :: l, i + 1, h, j, hl, hj => by
    have hx := hl x (by simp)
    simp only [List.flatten_cons, List.getElem_cons_succ]
    rw [List.getElem?_append_right (by rw [hx, Nat.add_mul]; omega), hx]
    rw [show (i + 1) * sz + j - sz = i * sz + j by rw [Nat.add_mul]; omega]
    exact flat_at l i (by simpa using h) j (fun y hy => hl y (by simp [hy])) hj

theorem flat_len {sz : Nat} : ∀ (l : List (List Value)), (∀ x ∈ l, x.length = sz) → l.flatten.length = l.length * sz
  | [], _ => by simp
  | x :: l, hl => by
    simp only [List.flatten_cons, List.length_append, hl x (by simp), List.length_cons, Nat.add_mul, Nat.one_mul, flat_len l (fun y hy => hl y (by simp [hy]))]
    omega

/-- Elements, each fitting, as rows of cells. -/
structure Elems (c : Cx) (sz : Nat) (xs : List D) (vss : List (List Value)) : Prop where
  len : vss.length = xs.length
  el : ∀ i (h : i < xs.length) (h' : i < vss.length), Cells c xs[i].cells vss[i]
  sz : ∀ x ∈ xs, x.cells.length = sz

theorem Elems.sz' {sz : Nat} {xs : List D} {vss : List (List Value)} (k : Elems c sz xs vss) : ∀ v ∈ vss, v.length = sz := by
  intro v hv
  obtain ⟨i, hi, rfl⟩ := List.getElem_of_mem hv
  have hi' : i < xs.length := by rw [← k.len]; exact hi
  rw [(k.el i hi' hi).len, k.sz _ (List.getElem_mem hi')]

theorem Elems.mono {c c' : Cx} (h : c.le c') {sz : Nat} {xs : List D} {vss : List (List Value)} (k : Elems c sz xs vss) : Elems c' sz xs vss := ⟨k.len, fun i a b => (k.el i a b).mono h, k.sz⟩

theorem Elems.append {sz : Nat} {xs ys : List D} {vs us : List (List Value)} (k : Elems c sz xs vs) (l : Elems c sz ys us) : Elems c sz (xs ++ ys) (vs ++ us) := by
  refine ⟨by simp [k.len, l.len], fun i h h' => ?_, fun x hx => ?_⟩
  · by_cases hi : i < xs.length
    · rw [List.getElem_append_left hi, List.getElem_append_left (by rw [k.len]; exact hi)]
      exact k.el i _ _
    · have := l.el (i - xs.length) (by simp at h; omega) (by simp [k.len, l.len] at h' ⊢; omega)
      rw [List.getElem_append_right (by omega), List.getElem_append_right (by rw [k.len]; omega)]
      simpa [k.len] using this
  · rcases List.mem_append.1 hx with h | h
    · exact k.sz x h
    · exact l.sz x h

theorem Reps.elems {ds : List D} {vs : List Value} (k : Reps c ds vs) {sz : Nat} (hf : ds.all (fit sz) = true) : Elems c sz ds (vs.map fun v => v.cells.toList) := by
  have hf' := List.all_eq_true.1 hf
  refine ⟨by simp [k.len], fun i h h' => ?_, fun x hx => ?_⟩
  · have := hf' _ (List.getElem_mem h)
    simp only [fit, Bool.and_eq_true] at this
    simpa using (k.rep i h (by rw [k.len]; exact h)).cells this.1
  · have := hf' x hx
    simp only [fit, Bool.and_eq_true, beq_iff_eq] at this
    exact this.2

/-- A slice whose elements lie in kept memory. -/
theorem rep_sl_of {sz : Nat} {xs : List D} {vss : List (List Value)} (k : Elems c sz xs vss) {a : Addr} {cap : Nat} (ha : a.spot = none) (hcap : xs.length ≤ cap) (hb : xs.length < 2 ^ 62)
    (hM : ∀ j, j < xs.length * sz → c.M ⟨a.block, a.off + j, none⟩ = vss.flatten[j]?) (t : Option Nat) (htl : ∀ τ, t = some τ → τ < c.T.length)
    (ht : ∀ τ, t = some τ → ∀ n z, c.T[τ]? = some (some (n, z)) → xs.length ≤ n ∧ (xs.length = n → some a = some (c.κ τ).1 ∧ cap = (c.κ τ).2)) :
    Rep c (.sl t xs) (.slice (some a) xs.length cap) := by
  refine Rep.sl t xs (some a) cap sz (fun i j => (vss.getD i []).getD j undef) hcap hb k.sz ?_ (fun _ => ⟨a, rfl⟩) (fun _ b hb => by injection hb with hb; subst hb; exact ha) ?_ ?_ htl ht
  · intro x hx y hy
    obtain ⟨i, hi, rfl⟩ := List.getElem_of_mem hx
    exact (k.el i hi (by rw [k.len]; exact hi)).one y hy
  · intro i hi j hj b hb
    injection hb with hb; subst hb
    have hi' : i < vss.length := by rw [k.len]; exact hi
    have hlt : i * sz + j < xs.length * sz := by
      have : (i + 1) * sz ≤ xs.length * sz := Nat.mul_le_mul_right _ hi
      rw [Nat.add_mul] at this; omega
    have := hM (i * sz + j) hlt
    rw [show a.off + i * sz + j = a.off + (i * sz + j) by omega, this, flat_at vss i hi' j k.sz' hj]
    have hj' : j < vss[i].length := by rw [k.sz' _ (List.getElem_mem hi')]; exact hj
    simp [List.getD, hi', hj']
  · intro i hi j hj
    have hi' : i < vss.length := by rw [k.len]; exact hi
    have kc := k.el i hi hi'
    have hj' : j < vss[i].length := by rw [kc.len]; exact hj
    have := kc.rep j hj hj'
    simpa [List.getD, hi', hj'] using this

/-- The elements that a slice reads as, in the world. -/
theorem sl_elems (hi : Inv c w H) {t : Option Nat} {xs : List D} {v : Value} (hr : Rep c (.sl t xs) v) {sz : Nat} (hsz : ∀ x ∈ xs, x.cells.length = sz) :
    ∃ a cap vss, v = .slice a xs.length cap ∧ xs.length ≤ cap ∧ Elems c sz xs vss ∧ (xs ≠ [] → ∀ b, a = some b → b.spot = none) ∧ (xs ≠ [] → ∃ b, a = some b) ∧
      (∀ b, a = some b → ∀ (j : Nat) u, vss.flatten[j]? = some u → w.cell? (b.add j) = some u ∧ c.M (b.add j) = some u) ∧ vss.flatten.length = xs.length * sz := by
  cases hr with
  | sl _ _ a cap sz' vs hlen hb hsz0 h1 ha hs hM hr htl ht' =>
    let vss : List (List Value) := (List.range xs.length).map fun i => (List.range sz).map fun j => vs i j
    have hvl : ∀ x ∈ vss, x.length = sz := by
      intro x hx
      obtain ⟨i, _, rfl⟩ := List.mem_map.1 hx
      simp
    have hk : Elems c sz xs vss := by
      refine ⟨by simp [vss], fun i h h' => ⟨by simp [vss, hsz _ (List.getElem_mem h)], fun d hd => h1 _ (List.getElem_mem h) d hd, fun j hj hj' => ?_⟩, hsz⟩
      simpa [vss] using hr i h j hj
    refine ⟨a, cap, vss, rfl, hlen, hk, hs, ha, ?_, by rw [flat_len vss hvl]; simp [vss]⟩
    intro b hb' j u hu
    have hjl : j < xs.length * sz := by
      rcases Nat.lt_or_ge j (xs.length * sz) with h' | h'
      · exact h'
      · rw [List.getElem?_eq_none (by rw [flat_len vss hvl]; simpa [vss] using h')] at hu; cases hu
    have hszp : 0 < sz := by
      rcases Nat.eq_zero_or_pos sz with h' | h'
      · subst h'; simp at hjl
      · exact h'
    have hi' : j / sz < xs.length := Nat.div_lt_of_lt_mul (by rw [Nat.mul_comm]; exact hjl)
    have hj' : j % sz < sz := Nat.mod_lt _ hszp
    have hsplit : j / sz * sz + j % sz = j := by rw [Nat.mul_comm]; exact Nat.div_add_mod j sz
    have hsz' : sz' = sz := by rw [← hsz0 _ (List.getElem_mem hi'), hsz _ (List.getElem_mem hi')]
    subst hsz'
    have hvi : j / sz' < vss.length := by simp [vss]; exact hi'
    rw [← hsplit, flat_at vss (j / sz') hvi (j % sz') hvl hj'] at hu
    simp only [vss, List.getElem_map, List.getElem_range, List.getElem?_map, List.getElem?_range hj', Option.map_some, Option.some.injEq] at hu
    have hm := hM (j / sz') hi' (j % sz') hj' b hb'
    rw [Addr.add_eq b (hs (by intro e; subst e; simp at hi') b hb')]
    rw [show b.off + j = b.off + j / sz' * sz' + j % sz' by omega, hm, hu]
    refine ⟨?_, rfl⟩
    rw [← hu]
    exact hi.keep _ _ hm

end GP
