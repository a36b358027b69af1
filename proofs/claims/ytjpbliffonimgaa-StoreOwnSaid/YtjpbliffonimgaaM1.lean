import Derived.Test.YtjpbliffonimgaaM0
set_option linter.unusedSimpArgs false
set_option linter.unnecessarySimpa false
set_option linter.unusedSectionVars false
namespace GP
open Go
variable {P : Program} {c : Cx} {w : World} {H : Hp}
theorem setAll (off : Nat) : ∀ (vs : List Value) (k : Nat) (cs : Array Value), off + k + vs.length ≤ cs.size →
    ((vs.zipIdx k).foldl (fun cs (p : Value × Nat) => cs.setIfInBounds (off + p.2) p.1) cs).toList = cs.toList.take (off + k) ++ vs ++ cs.toList.drop (off + k + vs.length)
  | [], k, cs, h => by simp
  | v :: vs, k, cs, h => by
    simp only [List.zipIdx_cons, List.foldl_cons]
    have h' : off + (k + 1) + vs.length ≤ (cs.setIfInBounds (off + k) v).size := by simp at h ⊢; omega
    rw [setAll off vs (k + 1) _ h']
    simp only [Array.toList_setIfInBounds, List.length_cons] at h ⊢
    have hl : off + k < cs.toList.length := by simp; omega
    rw [show off + (k + 1) = (off + k) + 1 by omega, List.take_succ_eq_append_getElem (by simp; omega), List.take_set_of_le (by omega)]
    rw [List.drop_set_of_lt (by omega)]
    simp only [List.getElem_set_self, List.append_assoc, List.cons_append, List.nil_append]
    congr 4
    omega
theorem fill_one (off : Nat) (vs : Array Value) (cs : Array Value) (h : off + vs.size ≤ cs.size) :
    (vs.zipIdx.foldl (fun cs (p : Value × Nat) => cs.setIfInBounds (off + p.2) p.1) cs).toList = cs.toList.take off ++ vs.toList ++ cs.toList.drop (off + vs.size) := by
  rw [← Array.foldl_toList, Array.toList_zipIdx]
  have := setAll off vs.toList 0 cs (by simpa using h)
  simpa using this
inductive PartsRep (c : Cx) (place : Nat → Option (Nat × Nat)) : List (Nat × Nat × D) → List (Nat × Value) → Prop where
  | nil : PartsRep c place [] []
  | cons {off sz i : Nat} {d : D} {v : Value} {l m} (hp : place i = some (off, sz)) (hr : Rep c d v) (hk : d.okc = true) (h : PartsRep c place l m) : PartsRep c place ((off, sz, d) :: l) ((i, v) :: m)
theorem fill_sound {place : Nat → Option (Nat × Nat)} {l : List (Nat × Nat × D)} {m : List (Nat × Value)} (h : PartsRep c place l m) :
    ∀ {z : List D} {cs : Array Value} {r : List D}, Cells c z cs.toList → (l.all fun p => p.2.2.cells.length == p.2.1) = true → fillD z (l.map fun p => (p.1, p.2.2.cells)) = some r →
    ∃ cs', Instr.fill place cs m = some cs' ∧ Cells c r cs'.toList := by
  induction h with
  | nil => intro z cs r hz _ h; simp [fillD] at h; subst h; exact ⟨cs, rfl, hz⟩
  | @cons off sz i d v l m hp hr hk _ ih =>
    intro z cs r hz ha h
    simp only [List.all_cons, Bool.and_eq_true, beq_iff_eq] at ha
    simp only [List.map_cons, fillD] at h
    split at h
    · rename_i hle
      have kc := hr.cells hk
      have hvs : v.cells.size = sz := by have := kc.len; simp at this; rw [this]; exact ha.1
      have hcs : cs.size = z.length := by have := hz.len; simpa using this
      have hsz : off + v.cells.size ≤ cs.size := by rw [hvs, hcs, ← ha.1]; exact hle
      have e := fill_one off v.cells cs hsz
      have hz' : Cells c (z.take off ++ d.cells ++ z.drop (off + d.cells.length)) (v.cells.zipIdx.foldl (fun cs (p : Value × Nat) => cs.setIfInBounds (off + p.2) p.1) cs).toList := by
        rw [e]
        have hl : v.cells.size = d.cells.length := by rw [hvs, ha.1]
        rw [hl]
        exact ((hz.take off).append kc).append (hz.drop _)
      obtain ⟨cs', e1, e2⟩ := ih hz' ha.2 h
      refine ⟨cs', ?_, e2⟩
      simp only [Instr.fill, hp]
      rw [if_neg (by simp [hvs]; rw [← hvs]; exact hsz)]
      exact e1
    · cases h
theorem unbyte_ok {d : D} {v : Value} (hr : Rep c d v) (h : isByte d = true) : ∃ n : Int, v = .int .u8 n ∧ unbyte d = UInt8.ofNat n.toNat := by
  cases hr <;> simp [isByte] at h
  rename_i k n
  cases k <;> simp at h
  exact ⟨n, rfl, rfl⟩
theorem foldl_push (ns : List Int) : ∀ b : ByteArray, (ns.foldl (fun r n => r.push (UInt8.ofNat n.toNat)) b).data.toList = b.data.toList ++ ns.map (fun n => UInt8.ofNat n.toNat) := by
  induction ns with
  | nil => intro b; simp
  | cons n ns ih => intro b; simp only [List.foldl_cons, ih]; simp [ByteArray.push]
theorem b2s_sound {src dst e : TypeId} (hs : P.underlying src = some (.slice e)) (he : P.underlying e = some (.int .u8)) (hd : P.underlying dst = some .string) (hi : Inv c w H) {x r : D} {v : Value} (hx : Rep c x v)
    (h : b2sD x = some r) : ∃ u, (Go.convert src dst v).run P w = .ok u w ∧ Rep c r u := by
  cases hx with
  | nils =>
    simp [b2sD] at h; subst h
    refine ⟨.string ⟨#[]⟩, ?_, Rep.str [] (by decide)⟩
    simp [Go.convert, run_underlying hs, run_underlying he, run_underlying hd, Conv.bytesToString]; rfl
  | e0 a =>
    simp [b2sD] at h; subst h
    refine ⟨.string ⟨#[]⟩, ?_, Rep.str [] (by decide)⟩
    cases a with
    | none => simp [Go.convert, run_underlying hs, run_underlying he, run_underlying hd, Conv.bytesToString]; rfl
    | some b =>
      have hb := run_bytesToString (P := P) w b 0 0 [] (by simp [loadCells, loadCellsFrom])
      simp only [List.foldl_nil] at hb
      simp [Go.convert, run_underlying hs, run_underlying he, run_underlying hd, hb]; rfl
  | sl t xs a cap sz vs hlen hb hsz h1 ha hsp hM hr htl ht' =>
    simp only [b2sD] at h
    split at h
    · rename_i hall
      injection h with h; subst h
      cases hxs : xs with
      | nil =>
        subst hxs
        refine ⟨.string ⟨#[]⟩, ?_, Rep.str [] (by decide)⟩
        cases a with
        | none => simp [Go.convert, run_underlying hs, run_underlying he, run_underlying hd, Conv.bytesToString]; rfl
        | some b =>
          have hb := run_bytesToString (P := P) w b 0 cap [] (by simp [loadCells, loadCellsFrom])
          simp only [List.foldl_nil] at hb
          simp [Go.convert, run_underlying hs, run_underlying he, run_underlying hd, hb]; rfl
      | cons x0 xs0 =>
        rw [← hxs]
        obtain ⟨b, rfl⟩ := ha (by rw [hxs]; simp)
        have hb' := hsp (by rw [hxs]; simp) b rfl
        have hcell : ∀ x ∈ xs, x.cells = [x] := by
          intro x hx
          have := List.all_eq_true.1 hall x hx
          cases x <;> simp [isByte] at this <;> rfl
        have hsz1 : sz = 1 := by
          have hm : x0 ∈ xs := by rw [hxs]; simp
          rw [← hsz x0 hm, hcell x0 hm]; rfl
        subst hsz1
        have hrx : ∀ i (hi : i < xs.length), Rep c xs[i] (vs i 0) := by
          intro i hi
          have hc := hcell _ (List.getElem_mem hi)
          have hlt : 0 < (xs[i].cells).length := by rw [hc]; simp
          have := hr i hi 0 hlt
          simpa [hc] using this
        let ns : List Int := (List.range xs.length).map fun i => match vs i 0 with | .int _ n => n | _ => 0
        have hns : ∀ i (hi : i < xs.length), vs i 0 = .int .u8 (ns.getD i 0) ∧ unbyte xs[i] = UInt8.ofNat (ns.getD i 0).toNat := by
          intro i hi
          obtain ⟨n, e1, e2⟩ := unbyte_ok (hrx i hi) (List.all_eq_true.1 hall _ (List.getElem_mem hi))
          have : ns.getD i 0 = n := by simp [ns, hi, e1]
          rw [this]; exact ⟨e1, e2⟩
        have hload : (loadCells b xs.length).run P w = .ok (ns.map (Value.int .u8)).toArray w := by
          have hl : (ns.map (Value.int .u8)).length = xs.length := by simp [ns]
          have := run_loadCells_list (P := P) w b (ns.map (Value.int .u8)) (fun j u hu => ?_)
          · rw [hl] at this; exact this
          · have hj : j < xs.length := by
              rcases Nat.lt_or_ge j xs.length with h' | h'
              · exact h'
              · rw [List.getElem?_eq_none (by rw [hl]; exact h')] at hu; cases hu
            rw [Addr.add_eq b hb']
            have := hi.keep _ _ (hM j hj 0 (by omega) b rfl)
            simp only [Nat.mul_one, Nat.add_zero] at this
            rw [this, (hns j hj).1]
            rw [List.getElem?_map] at hu
            have hjn : j < ns.length := by simp [ns, hj]
            rw [List.getElem?_eq_getElem hjn] at hu
            simp only [Option.map_some, Option.some.injEq] at hu
            rw [← hu]
            simp [List.getD, List.getElem?_eq_getElem hjn]
        have hrun := run_bytesToString (P := P) w b xs.length cap ns hload
        refine ⟨.string (ns.foldl (fun r n => r.push (UInt8.ofNat n.toNat)) ByteArray.empty), ?_, ?_⟩
        · simp [Go.convert, run_underlying hs, run_underlying he, run_underlying hd, hrun]
        · have e := foldl_push ns ByteArray.empty
          have e2 : (ns.foldl (fun r n => r.push (UInt8.ofNat n.toNat)) ByteArray.empty) = ⟨(xs.map unbyte).toArray⟩ := by
            apply ByteArray.ext
            apply Array.toList_inj.1
            rw [e]
            simp only [ByteArray.data_empty, Array.toList_empty, List.nil_append]
            apply List.ext_getElem
            · simp [ns]
            · intro i h1 h2
              simp only [List.getElem_map]
              have hi : i < xs.length := by simp [ns] at h1; exact h1
              have := (hns i hi).2
              have hin : i < ns.length := by simpa using h1
              simp only [List.getD, List.getElem?_eq_getElem hin, Option.getD_some] at this
              simp [this]
          rw [e2]
          exact Rep.str _ (by simpa using hb)
    · cases h
  | _ => simp [b2sD] at h
end GP
namespace GP
open Go
variable {P : Program} {c : Cx} {w : World} {H : Hp}
theorem cell?_heap {w w' : World} (h : w'.heap = w.heap) (a : Addr) : w'.cell? a = w.cell? a := by simp only [World.cell?, h]
theorem frozen?_heap {w w' : World} (h : w'.heap = w.heap) (a : Addr) : w'.frozen? a = w.frozen? a := by simp only [World.frozen?, h]
theorem RowAt.mono {c c' : Cx} (h : c.le c') {w w' : World} {b n : Nat} {cs : List D} (hw : w'.heap[b]? = w.heap[b]?) (k : RowAt c w b n cs) : RowAt c' w' b n cs := by
  obtain ⟨vs, rest, e, fr, h1, h2, h4, h3⟩ := k.hold
  exact ⟨vs, rest, e, fr, by rw [hw]; exact h1, h2.mono h, h4, h3⟩
theorem Ob.live_of_cells {x : Ob} {cs : List D} (h : x.cells? = some cs) : x.live = true := by cases x <;> simp_all [Ob.cells?, Ob.live]
theorem Inv.congr {w w' : World} (h : w'.heap = w.heap) (k : Inv c w H) : Inv c w' H where
  keep := fun a v ha => by rw [cell?_heap h]; exact k.keep a v ha
  low := by rw [h]; exact k.low
  row := fun o x cs ho hx => (k.row o x cs ho hx).mono (Cx.le.refl c) (by rw [h])
  free := k.free
  own := fun o x ho hx => by rw [h]; exact k.own o x ho hx
  apart := k.apart
  map := fun o es clk ho => by rw [h]; exact k.map o es clk ho
  iter := fun o m sn se la ho => (k.iter o m sn se la ho).mono (Cx.le.refl c) rfl (by rw [h])
  tok := fun τ n z hτ => by
    obtain ⟨h1, h2, h3, h4, h5⟩ := k.tok τ n z hτ
    refine ⟨h1, by rw [h]; exact h2, h3, h4, fun j a b => ?_⟩
    rw [cell?_heap h, frozen?_heap h]
    exact h5 j a b
  tokrow := k.tokrow
  toks := k.toks
def freshM (M : Addr → Option Value) (b : Nat) (vs : List Value) (k : Nat) : Addr → Option Value :=
  fun a => if a.block = b then (if a.spot = none ∧ a.off < k then vs[a.off]? else none) else M a
theorem freshM_other {M : Addr → Option Value} {b k : Nat} {vs : List Value} {a : Addr} (h : a.block ≠ b) : freshM M b vs k a = M a := if_neg h
theorem freshM_at {M : Addr → Option Value} {b k i : Nat} {vs : List Value} (hk : i < k) : freshM M b vs k ⟨b, i, none⟩ = vs[i]? := by simp [freshM, hk]
theorem freshM_out {M : Addr → Option Value} {b k i : Nat} {vs : List Value} (hk : k ≤ i) : freshM M b vs k ⟨b, i, none⟩ = none := by simp [freshM]; omega
theorem Inv.M_lt (k : Inv c w H) {a : Addr} {v : Value} (h : c.M a = some v) : a.block < w.heap.size := World.block_lt_of_cell? w a (k.keep a v h)
theorem fresh_le (k : Inv c w H) (vs : List Value) (n : Nat) : c.le { c with M := freshM c.M w.heap.size vs n } where
  M := fun a v h => by
    have := k.M_lt h
    show freshM _ _ _ _ a = some v
    rw [freshM_other (by omega)]; exact h
  bd := fun _ h => h
  β := fun _ _ => rfl
  T := Nat.le_refl _
  dead := fun _ h => h
  tok := fun τ m z h => .inr ⟨m, h, Nat.le_refl _, fun _ => rfl⟩
  B := rfl
  sz := fun _ _ => rfl
theorem alloc_heap {w : World} {o : Obj} {b : Nat} (h : b < w.heap.size) : (w.alloc o).heap[b]? = w.heap[b]? := by
  simp only [World.alloc, Array.getElem?_push]
  rw [if_neg (by omega)]
theorem alloc_new (w : World) (o : Obj) : (w.alloc o).heap[w.heap.size]? = some o := by
  show (w.heap.push o)[w.heap.size]? = _
  simp
theorem cell?_new (w : World) (c : Array Value) (t : TypeId) (fr : Nat × Nat) (i : Nat) : (w.alloc (.cells c t fr)).cell? ⟨w.heap.size, i, none⟩ = c[i]? := by simp only [World.cell?, alloc_new]; rfl
theorem frozen?_new (w : World) (c : Array Value) (t : TypeId) (fr : Nat × Nat) (i : Nat) : (w.alloc (.cells c t fr)).frozen? ⟨w.heap.size, i, none⟩ = (decide (fr.1 ≤ i) && decide (i < fr.2)) := by simp only [World.frozen?, alloc_new]
theorem Inv.fresh (k : Inv c w H) (vs : List Value) (e : TypeId) (fr : Nat × Nat) (n : Nat) : Inv { c with M := freshM c.M w.heap.size vs n } (w.alloc (.cells vs.toArray e fr)) H where
  keep := fun a v h => by
    change freshM c.M w.heap.size vs n a = some v at h
    by_cases hb : a.block = w.heap.size
    · obtain ⟨b, o, s⟩ := a
      change b = w.heap.size at hb
      subst hb
      simp only [freshM, if_true] at h
      split at h
      · rename_i hc
        obtain ⟨h1, h2⟩ := hc
        subst h1
        rw [cell?_new]
        simpa using h
      · cases h
    · rw [freshM_other hb] at h
      rw [World.cell?_alloc_lt _ _ _ (k.M_lt h)]
      exact k.keep a v h
  low := by rw [World.size_alloc]; exact Nat.le_succ_of_le k.low
  row := fun o x cs ho hx => (k.row o x cs ho hx).mono (fresh_le k vs n) (alloc_heap (k.own o _ ho (Ob.live_of_cells hx)).2.2.1)
  free := k.free
  own := fun o x ho hx => by
    obtain ⟨h0, h1, h2, h3⟩ := k.own o x ho hx
    refine ⟨h0, h1, by rw [World.size_alloc]; exact Nat.lt_succ_of_lt h2, fun i => ?_⟩
    show freshM _ _ _ _ _ = none
    rw [freshM_other (by simp; omega)]
    exact h3 i
  apart := k.apart
  map := fun o es clk ho => by
    have h2 := (k.own o _ ho rfl).2.2.1
    obtain ⟨g1, g2⟩ := k.map o es clk ho
    exact ⟨g1, (alloc_heap h2).trans g2⟩
  iter := fun o m sn se la ho => (k.iter o m sn se la ho).mono (fresh_le k vs n) rfl (alloc_heap (k.own o _ ho rfl).2.2.1)
  tok := fun τ m z hτ => by
    obtain ⟨h1, h2, h3, h4, h5⟩ := k.tok τ m z hτ
    refine ⟨h1, by rw [World.size_alloc]; exact Nat.lt_succ_of_lt h2, h3, h4, fun j a b => ?_⟩
    obtain ⟨g1, g2, g3⟩ := h5 j a b
    refine ⟨?_, ?_, ?_⟩
    · have := World.cell?_alloc_lt w (.cells vs.toArray e fr) ⟨(c.κ τ).1.block, (c.κ τ).1.off + j, none⟩ h2
      exact (congrArg Option.isSome this).trans g1
    · have := World.frozen?_alloc_old w (.cells vs.toArray e fr) ⟨(c.κ τ).1.block, (c.κ τ).1.off + j, none⟩ (Nat.ne_of_lt h2)
      exact this.trans g2
    · have := freshM_other (M := c.M) (b := w.heap.size) (k := n) (vs := vs) (a := ⟨(c.κ τ).1.block, (c.κ τ).1.off + j, none⟩) (Nat.ne_of_lt h2)
      exact this.trans g3
  tokrow := k.tokrow
  toks := k.toks
theorem Inv.retok (k : Inv c w H) {T' : Tk} {κ' : Nat → Addr × Nat} (hle : c.le { c with T := T', κ := κ' }) (τ0 : Option Nat)
    (hT : ∀ (τ n z : Nat), T'[τ]? = some (some (n, z)) → (c.T[τ]? = some (some (n, z)) ∧ κ' τ = c.κ τ ∧ some τ ≠ τ0) ∨
      (some τ = τ0 ∧ c.B ≤ (κ' τ).1.block ∧ (κ' τ).1.block < w.heap.size ∧ (κ' τ).1.spot = none ∧ n ≤ (κ' τ).2 ∧
        (∀ j, n * z ≤ j → j < (κ' τ).2 * z → (w.cell? ⟨(κ' τ).1.block, (κ' τ).1.off + j, none⟩).isSome = true ∧ w.frozen? ⟨(κ' τ).1.block, (κ' τ).1.off + j, none⟩ = false ∧ c.M ⟨(κ' τ).1.block, (κ' τ).1.off + j, none⟩ = none) ∧
        (∀ (o : Nat) x, H[o]? = some x → x.live = true → c.β o ≠ (κ' τ).1.block) ∧
        (∀ (τ' n' z' : Nat), τ' ≠ τ → T'[τ']? = some (some (n', z')) → (c.κ τ').1.block ≠ (κ' τ).1.block))) :
    Inv { c with T := T', κ := κ' } w H where
  keep := k.keep
  low := k.low
  row := fun o x cs ho hx => (k.row o x cs ho hx).mono hle rfl
  free := k.free
  own := k.own
  apart := k.apart
  map := k.map
  iter := fun o m sn se la ho => (k.iter o m sn se la ho).mono hle rfl rfl
  tok := fun τ n z hτ => by
    rcases hT τ n z hτ with ⟨h1, h2, _⟩ | ⟨_, h1, h2, h3, h4, h5, _, _⟩
    · simp only [h2]; exact k.tok τ n z h1
    · exact ⟨h1, h2, h3, h4, h5⟩
  tokrow := fun τ n z o x hτ ho hx => by
    rcases hT τ n z hτ with ⟨h1, h2, _⟩ | ⟨_, _, _, _, _, _, h6, _⟩
    · simp only [h2]; exact k.tokrow τ n z o x h1 ho hx
    · exact h6 o x ho hx
  toks := fun τ n z τ' n' z' hτ hτ' he => by
    rcases hT τ n z hτ with ⟨h1, h2, h3⟩ | ⟨h3, _, _, _, _, _, _, h7⟩ <;> rcases hT τ' n' z' hτ' with ⟨k1, k2, k3⟩ | ⟨k3, _, _, _, _, _, _, k7⟩
    · simp only [h2, k2] at he; exact k.toks τ n z τ' n' z' h1 k1 he
    · simp only [h2] at he
      exact absurd he (k7 τ n z (fun e => h3 (by rw [e]; exact k3)) hτ)
    · simp only [k2] at he
      exact absurd he.symm (h7 τ' n' z' (fun e => k3 (by rw [e]; exact h3)) hτ')
    · rw [← k3] at h3; injection h3
def Yld (c : Cx) (w : World) (H' : Hp) (T' : Tk) (d : D) (r : Result Value) : Prop :=
  ∃ v c' w', r = .ok v w' ∧ Rep c' d v ∧ Inv c' w' H' ∧ c.le c' ∧ c'.T = T' ∧ Below c.bb w w'
theorem Below.of_alloc {B : Bool × Nat} (w : World) (o : Obj) (h : B.2 ≤ w.heap.size) : Below B w (w.alloc o) := (Below.refl B w).alloc h o
theorem flat_at {sz : Nat} : ∀ (l : List (List Value)) (i : Nat) (h : i < l.length) (j : Nat), (∀ x ∈ l, x.length = sz) → j < sz → l.flatten[i * sz + j]? = (l[i])[j]?
  | x :: l, 0, _, j, hl, hj => by
    have hx := hl x (by simp)
    simp only [List.flatten_cons, Nat.zero_mul, Nat.zero_add, List.getElem_cons_zero]
    rw [List.getElem?_append_left (by omega)]
  | x :: l, i + 1, h, j, hl, hj => by
    have hx := hl x (by simp)
    simp only [List.flatten_cons, List.getElem_cons_succ]
    rw [List.getElem?_append_right (by rw [hx, Nat.add_mul]; omega), hx]
    rw [show (i + 1) * sz + j - sz = i * sz + j by rw [Nat.add_mul]; omega]
    exact flat_at l i (by simpa using h) j (fun y hy => hl y (by simp [hy])) hj
theorem flat_len {sz : Nat} : ∀ (l : List (List Value)), (∀ x ∈ l, x.length = sz) → l.flatten.length = l.length * sz
  | [], _ => by simp
  | x :: l, hl => by
    simp only [List.flatten_cons, List.length_append, hl x (by simp), List.length_cons, Nat.add_mul, Nat.one_mul, flat_len l (fun y hy => hl y (by simp [hy]))]
    omega
structure Elems (c : Cx) (sz : Nat) (xs : List D) (vss : List (List Value)) : Prop where
  len : vss.length = xs.length
  el : ∀ i (h : i < xs.length) (h' : i < vss.length), Cells c xs[i].cells vss[i]
  sz : ∀ x ∈ xs, x.cells.length = sz
theorem Elems.sz' {sz : Nat} {xs : List D} {vss : List (List Value)} (k : Elems c sz xs vss) : ∀ v ∈ vss, v.length = sz := by
  intro v hv
  obtain ⟨i, hi, rfl⟩ := List.getElem_of_mem hv
  have hi' : i < xs.length := by rw [← k.len]; exact hi
  rw [(k.el i hi' hi).len, k.sz _ (List.getElem_mem hi')]
theorem Elems.mono {c c' : Cx} (h : c.le c') {sz : Nat} {xs : List D} {vss : List (List Value)} (k : Elems c sz xs vss) : Elems c' sz xs vss := ⟨k.len, fun i a b => (k.el i a b).mono h, k.sz⟩
theorem Elems.append {sz : Nat} {xs ys : List D} {vs us : List (List Value)} (k : Elems c sz xs vs) (l : Elems c sz ys us) : Elems c sz (xs ++ ys) (vs ++ us) := by
  refine ⟨by simp [k.len, l.len], fun i h h' => ?_, fun x hx => ?_⟩
  · by_cases hi : i < xs.length
    · rw [List.getElem_append_left hi, List.getElem_append_left (by rw [k.len]; exact hi)]
      exact k.el i _ _
    · have := l.el (i - xs.length) (by simp at h; omega) (by simp [k.len, l.len] at h' ⊢; omega)
      rw [List.getElem_append_right (by omega), List.getElem_append_right (by rw [k.len]; omega)]
      simpa [k.len] using this
  · rcases List.mem_append.1 hx with h | h
    · exact k.sz x h
    · exact l.sz x h
theorem Reps.elems {ds : List D} {vs : List Value} (k : Reps c ds vs) {sz : Nat} (hf : ds.all (fit sz) = true) : Elems c sz ds (vs.map fun v => v.cells.toList) := by
  have hf' := List.all_eq_true.1 hf
  refine ⟨by simp [k.len], fun i h h' => ?_, fun x hx => ?_⟩
  · have := hf' _ (List.getElem_mem h)
    simp only [fit, Bool.and_eq_true] at this
    simpa using (k.rep i h (by rw [k.len]; exact h)).cells this.1
  · have := hf' x hx
    simp only [fit, Bool.and_eq_true, beq_iff_eq] at this
    exact this.2
theorem rep_sl_of {sz : Nat} {xs : List D} {vss : List (List Value)} (k : Elems c sz xs vss) {a : Addr} {cap : Nat} (ha : a.spot = none) (hcap : xs.length ≤ cap) (hb : xs.length < 2 ^ 62)
    (hM : ∀ j, j < xs.length * sz → c.M ⟨a.block, a.off + j, none⟩ = vss.flatten[j]?) (t : Option Nat) (htl : ∀ τ, t = some τ → τ < c.T.length)
    (ht : ∀ τ, t = some τ → ∀ n z, c.T[τ]? = some (some (n, z)) → xs.length ≤ n ∧ (xs.length = n → some a = some (c.κ τ).1 ∧ cap = (c.κ τ).2)) :
    Rep c (.sl t xs) (.slice (some a) xs.length cap) := by
  refine Rep.sl t xs (some a) cap sz (fun i j => (vss.getD i []).getD j undef) hcap hb k.sz ?_ (fun _ => ⟨a, rfl⟩) (fun _ b hb => by injection hb with hb; subst hb; exact ha) ?_ ?_ htl ht
  · intro x hx y hy
    obtain ⟨i, hi, rfl⟩ := List.getElem_of_mem hx
    exact (k.el i hi (by rw [k.len]; exact hi)).one y hy
  · intro i hi j hj b hb
    injection hb with hb; subst hb
    have hi' : i < vss.length := by rw [k.len]; exact hi
    have hlt : i * sz + j < xs.length * sz := by
      have : (i + 1) * sz ≤ xs.length * sz := Nat.mul_le_mul_right _ hi
      rw [Nat.add_mul] at this; omega
    have := hM (i * sz + j) hlt
    rw [show a.off + i * sz + j = a.off + (i * sz + j) by omega, this, flat_at vss i hi' j k.sz' hj]
    have hj' : j < vss[i].length := by rw [k.sz' _ (List.getElem_mem hi')]; exact hj
    simp [List.getD, hi', hj']
  · intro i hi j hj
    have hi' : i < vss.length := by rw [k.len]; exact hi
    have kc := k.el i hi hi'
    have hj' : j < vss[i].length := by rw [kc.len]; exact hj
    have := kc.rep j hj hj'
    simpa [List.getD, hi', hj'] using this
theorem sl_elems (hi : Inv c w H) {t : Option Nat} {xs : List D} {v : Value} (hr : Rep c (.sl t xs) v) {sz : Nat} (hsz : ∀ x ∈ xs, x.cells.length = sz) :
    ∃ a cap vss, v = .slice a xs.length cap ∧ xs.length ≤ cap ∧ Elems c sz xs vss ∧ (xs ≠ [] → ∀ b, a = some b → b.spot = none) ∧ (xs ≠ [] → ∃ b, a = some b) ∧
      (∀ b, a = some b → ∀ (j : Nat) u, vss.flatten[j]? = some u → w.cell? (b.add j) = some u ∧ c.M (b.add j) = some u) ∧ vss.flatten.length = xs.length * sz := by
  cases hr with
  | sl _ _ a cap sz' vs hlen hb hsz0 h1 ha hs hM hr htl ht' =>
    let vss : List (List Value) := (List.range xs.length).map fun i => (List.range sz).map fun j => vs i j
    have hvl : ∀ x ∈ vss, x.length = sz := by
      intro x hx
      obtain ⟨i, _, rfl⟩ := List.mem_map.1 hx
      simp
    have hk : Elems c sz xs vss := by
      refine ⟨by simp [vss], fun i h h' => ⟨by simp [vss, hsz _ (List.getElem_mem h)], fun d hd => h1 _ (List.getElem_mem h) d hd, fun j hj hj' => ?_⟩, hsz⟩
      simpa [vss] using hr i h j hj
    refine ⟨a, cap, vss, rfl, hlen, hk, hs, ha, ?_, by rw [flat_len vss hvl]; simp [vss]⟩
    intro b hb' j u hu
    have hjl : j < xs.length * sz := by
      rcases Nat.lt_or_ge j (xs.length * sz) with h' | h'
      · exact h'
      · rw [List.getElem?_eq_none (by rw [flat_len vss hvl]; simpa [vss] using h')] at hu; cases hu
    have hszp : 0 < sz := by
      rcases Nat.eq_zero_or_pos sz with h' | h'
      · subst h'; simp at hjl
      · exact h'
    have hi' : j / sz < xs.length := Nat.div_lt_of_lt_mul (by rw [Nat.mul_comm]; exact hjl)
    have hj' : j % sz < sz := Nat.mod_lt _ hszp
    have hsplit : j / sz * sz + j % sz = j := by rw [Nat.mul_comm]; exact Nat.div_add_mod j sz
    have hsz' : sz' = sz := by rw [← hsz0 _ (List.getElem_mem hi'), hsz _ (List.getElem_mem hi')]
    subst hsz'
    have hvi : j / sz' < vss.length := by simp [vss]; exact hi'
    rw [← hsplit, flat_at vss (j / sz') hvi (j % sz') hvl hj'] at hu
    simp only [vss, List.getElem_map, List.getElem_range, List.getElem?_map, List.getElem?_range hj', Option.map_some, Option.some.injEq] at hu
    have hm := hM (j / sz') hi' (j % sz') hj' b hb'
    rw [Addr.add_eq b (hs (by intro e; subst e; simp at hi') b hb')]
    rw [show b.off + j = b.off + j / sz' * sz' + j % sz' by omega, hm, hu]
    refine ⟨?_, rfl⟩
    rw [← hu]
    exact hi.keep _ _ hm
end GP
namespace GP
open Go
variable {P : Program} {c : Cx} {w : World} {H : Hp}
def updN (f : Nat → Nat) (i v : Nat) : Nat → Nat := fun j => if j = i then v else f j
def updB (f : Nat → Bool) (i : Nat) : Nat → Bool := fun j => if j = i then true else f j
def bindC (c : Cx) (o b n : Nat) : Cx := { c with β := updN c.β o b, bd := updB c.bd o, sz := updN c.sz o n }
theorem bind_le {o b n : Nat} (h : c.bd o = false) : c.le (bindC c o b n) where
  M := fun _ _ h => h
  bd := fun o' h' => by show updB c.bd o o' = true; unfold updB; split <;> simp_all
  β := fun o' h' => by
    show updN c.β o b o' = c.β o'
    unfold updN
    rw [if_neg]
    intro e; subst e; rw [h] at h'; cases h'
  T := Nat.le_refl _
  dead := fun _ h => h
  tok := fun τ m z h => .inr ⟨m, h, Nat.le_refl _, fun _ => rfl⟩
  B := rfl
  sz := fun o' h' => by
    show updN c.sz o n o' = c.sz o'
    unfold updN
    rw [if_neg]
    intro e; subst e; rw [h] at h'; cases h'
theorem Inv.bind (k : Inv c w H) {cs : List D} {vs : List Value} (rest : List Value) (e : TypeId) (hc : Cells c cs vs) {o : Nat} (hf : c.bd o = false) {H' : Hp} {x0 : Ob} (h0 : H'[o]? = some x0) (hx0 : x0.cells? = some cs) (hH : ∀ o', o' ≠ o → H'[o']? = H[o']?) :
    Inv (bindC c o w.heap.size (vs.length + rest.length)) (w.alloc (.cells (vs ++ rest).toArray e)) H' := by
  have hl0 := Ob.live_of_cells hx0
  have hle := bind_le (c := c) (o := o) (b := w.heap.size) (n := vs.length + rest.length) hf
  generalize hnn : vs.length + rest.length = nn at hle ⊢
  have hβ : ∀ o', o' ≠ o → (bindC c o w.heap.size nn).β o' = c.β o' := fun o' h => by show updN _ _ _ _ = _; unfold updN; rw [if_neg h]
  have hβ0 : (bindC c o w.heap.size nn).β o = w.heap.size := by show updN _ _ _ _ = _; unfold updN; rw [if_pos rfl]
  have hz : ∀ o', o' ≠ o → (bindC c o w.heap.size nn).sz o' = c.sz o' := fun o' h => by show updN _ _ _ _ = _; unfold updN; rw [if_neg h]
  have hz0 : (bindC c o w.heap.size nn).sz o = nn := by show updN _ _ _ _ = _; unfold updN; rw [if_pos rfl]
  have hb : ∀ o', o' ≠ o → (bindC c o w.heap.size nn).bd o' = c.bd o' := fun o' h => by show updB _ _ _ = _; unfold updB; rw [if_neg h]
  have hb0 : (bindC c o w.heap.size nn).bd o = true := by show updB _ _ _ = _; unfold updB; rw [if_pos rfl]
  have hMnew : ∀ i, c.M ⟨w.heap.size, i, none⟩ = none := fun i => by
    cases hm : c.M ⟨w.heap.size, i, none⟩ with
    | none => rfl
    | some v => have := k.M_lt hm; simp at this
  have hlow := k.low
  refine ⟨?_, ?_, ?_, ?_, ?_, ?_, ?_, ?_, ?_, ?_, ?_⟩
  · intro a v h
    have h' : c.M a = some v := h
    rw [World.cell?_alloc_lt _ _ _ (k.M_lt h')]
    exact k.keep a v h'
  · rw [World.size_alloc]; exact Nat.le_succ_of_le k.low
  · intro o' x' cs' ho' hx'
    by_cases e' : o' = o
    · subst e'
      rw [h0] at ho'; injection ho' with ho'; subst ho'
      rw [hx0] at hx'; injection hx' with hx'; subst hx'
      rw [hβ0, hz0]
      exact ⟨vs, rest, e, (0, 0), alloc_new w _, hc.mono hle, hnn, fun i _ => by simp⟩
    · rw [hH o' e'] at ho'
      rw [hβ o' e', hz o' e']
      exact (k.row o' x' cs' ho' hx').mono hle (alloc_heap (k.own o' _ ho' (Ob.live_of_cells hx')).2.2.1)
  · intro o' ho'
    by_cases e' : o' = o
    · subst e'
      rcases ho' with h | h
      · rw [List.getElem?_eq_none h] at h0; cases h0
      · rw [h0] at h; injection h with h; subst h; cases hx0
    · rw [hb o' e']
      refine k.free o' ?_
      rcases ho' with h | h
      · refine .inl ?_
        have := hH o' e'
        rw [List.getElem?_eq_none h] at this
        exact List.getElem?_eq_none_iff.1 this.symm
      · exact .inr (by rw [← hH o' e']; exact h)
  · intro o' x ho' hx
    by_cases e' : o' = o
    · subst e'
      rw [hβ0, World.size_alloc]
      exact ⟨hb0, k.low, Nat.lt_succ_self _, hMnew⟩
    · rw [hH o' e'] at ho'
      obtain ⟨h1, h2, h3, h4⟩ := k.own o' x ho' hx
      rw [hβ o' e', hb o' e', World.size_alloc]
      exact ⟨h1, h2, Nat.lt_succ_of_lt h3, h4⟩
  · intro o1 o2 x1 x2 g1 g2 l1 l2 he
    by_cases e1 : o1 = o <;> by_cases e2 : o2 = o
    · rw [e1, e2]
    · subst e1
      rw [hβ0, hβ o2 e2] at he
      rw [hH o2 e2] at g2
      have := (k.own o2 x2 g2 l2).2.2.1
      omega
    · subst e2
      rw [hβ0, hβ o1 e1] at he
      rw [hH o1 e1] at g1
      have := (k.own o1 x1 g1 l1).2.2.1
      omega
    · rw [hβ o1 e1, hβ o2 e2] at he
      rw [hH o1 e1] at g1
      rw [hH o2 e2] at g2
      exact k.apart o1 o2 x1 x2 g1 g2 l1 l2 he
  · intro o' es clk h
    by_cases e' : o' = o
    · subst e'; rw [h0] at h; injection h with h; subst h; cases hx0
    · rw [hH o' e'] at h
      obtain ⟨g1, g2⟩ := k.map o' es clk h
      rw [hβ o' e']
      exact ⟨g1, (alloc_heap (k.own o' _ h rfl).2.2.1).trans g2⟩
  · intro o' m sn se la h
    by_cases e' : o' = o
    · subst e'; rw [h0] at h; injection h with h; subst h; cases hx0
    · rw [hH o' e'] at h; exact (k.iter o' m sn se la h).mono hle (hβ o' e') (alloc_heap (k.own o' _ h rfl).2.2.1)
  · intro τ m z hτ
    obtain ⟨h1, h2, h3, h4, h5⟩ := k.tok τ m z hτ
    refine ⟨h1, by rw [World.size_alloc]; exact Nat.lt_succ_of_lt h2, h3, h4, fun j a b => ?_⟩
    obtain ⟨g1, g2, g3⟩ := h5 j a b
    refine ⟨?_, ?_, g3⟩
    · have := World.cell?_alloc_lt w (.cells (vs ++ rest).toArray e) ⟨(c.κ τ).1.block, (c.κ τ).1.off + j, none⟩ h2
      exact (congrArg Option.isSome this).trans g1
    · have := World.frozen?_alloc_old w (.cells (vs ++ rest).toArray e) ⟨(c.κ τ).1.block, (c.κ τ).1.off + j, none⟩ (Nat.ne_of_lt h2)
      exact this.trans g2
  · intro τ m z o' x hτ ho' hx
    by_cases e' : o' = o
    · subst e'
      rw [hβ0]
      exact Nat.ne_of_gt (k.tok τ m z hτ).2.1
    · rw [hH o' e'] at ho'
      rw [hβ o' e']
      exact k.tokrow τ m z o' x hτ ho' hx
  · exact k.toks
theorem new_row (k : Inv c w H) {cs : List D} {vs : List Value} (e : TypeId) (hc : Cells c cs vs) {o : Nat} (hf : c.bd o = false) {H' : Hp} {x0 : Ob} (h0 : H'[o]? = some x0) (hx0 : x0.cells? = some cs) (hH : ∀ o', o' ≠ o → H'[o']? = H[o']?) {T : Tk} (hT : c.T = T) :
    Yld c w H' T (.ptr o 0) (.ok (.pointer (some ⟨w.heap.size, 0, none⟩)) (w.alloc (.cells vs.toArray e))) := by
  have hb := k.bind [] e hc hf h0 hx0 hH
  rw [List.append_nil] at hb
  refine ⟨_, bindC c o w.heap.size (vs.length + ([] : List Value).length), _, rfl, ?_, hb, bind_le hf, hT, Below.of_alloc w _ k.low⟩
  have : Rep (bindC c o w.heap.size (vs.length + ([] : List Value).length)) (.ptr o 0) (.pointer (some ⟨(bindC c o w.heap.size (vs.length + ([] : List Value).length)).β o, 0, none⟩)) := Rep.ptr o 0 (by show updB _ _ _ = _; unfold updB; rw [if_pos rfl])
  have hβ0 : (bindC c o w.heap.size (vs.length + ([] : List Value).length)).β o = w.heap.size := by show updN _ _ _ _ = _; unfold updN; rw [if_pos rfl]
  rwa [hβ0] at this
theorem new_ms (k : Inv c w H) {cs : List D} {vs : List Value} (rest : List Value) (e : TypeId) (hc : Cells c cs vs) {o : Nat} (hf : c.bd o = false) {H' : Hp} (h0 : H'[o]? = some (.row cs)) (hH : ∀ o', o' ≠ o → H'[o']? = H[o']?) {T : Tk} (hT : c.T = T)
    {ag : Bool} {sz n cap rc : Nat} (h1 : n ≤ cap) (h2 : cap = rc) (h3 : rc * sz ≤ vs.length + rest.length) :
    Yld c w H' T (.ms ag sz o 0 n cap) (.ok (.slice (some ⟨w.heap.size, 0, none⟩) n rc) (w.alloc (.cells (vs ++ rest).toArray e))) := by
  refine ⟨_, bindC c o w.heap.size (vs.length + rest.length), _, rfl, ?_, k.bind rest e hc hf h0 rfl hH, bind_le hf, hT, Below.of_alloc w _ k.low⟩
  have hz0 : (bindC c o w.heap.size (vs.length + rest.length)).sz o = vs.length + rest.length := by show updN _ _ _ _ = _; unfold updN; rw [if_pos rfl]
  have : Rep (bindC c o w.heap.size (vs.length + rest.length)) (.ms ag sz o 0 n cap) (.slice (some ⟨(bindC c o w.heap.size (vs.length + rest.length)).β o, 0, none⟩) n rc) :=
    Rep.ms ag sz o 0 n cap rc (by show updB _ _ _ = _; unfold updB; rw [if_pos rfl]) h1 h2 (by rw [hz0]; omega)
  have hβ0 : (bindC c o w.heap.size (vs.length + rest.length)).β o = w.heap.size := by show updN _ _ _ _ = _; unfold updN; rw [if_pos rfl]
  rwa [hβ0] at this
theorem push_at (H : Hp) (x : Ob) : (H ++ [x])[H.length]? = some x := by simp
theorem push_other (H : Hp) (x : Ob) (o : Nat) (h : o ≠ H.length) : (H ++ [x])[o]? = H[o]? := by
  rcases Nat.lt_or_ge o H.length with h' | h'
  · rw [List.getElem?_append_left h']
  · rw [List.getElem?_eq_none (by simp; omega), List.getElem?_eq_none h']
def putCells (w : World) (b off : Nat) : List Value → World
  | [] => w
  | v :: vs => putCells (w.setCell ⟨b, off, none⟩ v) b (off + 1) vs
theorem putCells_drawn : ∀ (vs : List Value) (w : World) (b off : Nat), (putCells w b off vs).drawn = w.drawn
  | [], _, _, _ => rfl
  | v :: vs, w, b, off => by rw [putCells, putCells_drawn vs]; rfl
theorem setCell_heap {w : World} {b off : Nat} {v : Value} {cs : Array Value} {e : TypeId} {fr : Nat × Nat} (h : w.heap[b]? = some (.cells cs e fr)) :
    (w.setCell ⟨b, off, none⟩ v).heap[b]? = some (.cells (cs.setIfInBounds off v) e fr) := by
  simp [World.setCell, Array.getElem?_modify, h]
theorem setCell_heap_ne {w : World} {b b' off : Nat} {v : Value} (h : b' ≠ b) : (w.setCell ⟨b, off, none⟩ v).heap[b']? = w.heap[b']? := by
  simp [World.setCell, Array.getElem?_modify, Ne.symm h]
theorem putCells_ne {b b' : Nat} (h : b' ≠ b) : ∀ (vs : List Value) (off : Nat) (w : World), (putCells w b off vs).heap[b']? = w.heap[b']?
  | [], _, _ => rfl
  | v :: vs, off, w => by rw [putCells, putCells_ne h vs, setCell_heap_ne h]
theorem putCells_at {b : Nat} {e : TypeId} {fr : Nat × Nat} : ∀ (vs : List Value) (off : Nat) (w : World) (cs : Array Value), w.heap[b]? = some (.cells cs e fr) → off + vs.length ≤ cs.size →
    ∃ cs', (putCells w b off vs).heap[b]? = some (.cells cs' e fr) ∧ cs'.toList = cs.toList.take off ++ vs ++ cs.toList.drop (off + vs.length)
  | [], off, w, cs, h, _ => ⟨cs, h, by simp⟩
  | v :: vs, off, w, cs, h, hl => by
    simp only [List.length_cons] at hl
    obtain ⟨cs', h1, h2⟩ := putCells_at vs (off + 1) (w.setCell ⟨b, off, none⟩ v) (cs.setIfInBounds off v) (setCell_heap h) (by simp; omega)
    refine ⟨cs', h1, ?_⟩
    rw [h2]
    simp only [Array.toList_setIfInBounds, List.length_cons]
    rw [List.take_succ_eq_append_getElem (by simp; omega), List.take_set_of_le (by omega), List.drop_set_of_lt (by omega)]
    simp only [List.getElem_set_self, List.append_assoc, List.cons_append, List.nil_append]
    congr 4
    omega
theorem putCells_same {b : Nat} : ∀ (vs : List Value) (off : Nat) (w : World), (putCells w b off vs).heap.size = w.heap.size ∧ (putCells w b off vs).os = w.os ∧ (putCells w b off vs).tape = w.tape ∧ (putCells w b off vs).output = w.output ∧ (putCells w b off vs).drawn = w.drawn
  | [], _, _ => ⟨rfl, rfl, rfl, rfl, rfl⟩
  | v :: vs, off, w => by
    obtain ⟨h1, h2, h3, h4, h5⟩ := putCells_same vs (off + 1) (w.setCell ⟨b, off, none⟩ v)
    exact ⟨by rw [putCells, h1, World.size_setCell], h2, h3, h4, h5⟩
theorem run_storeCells {b o : Nat} : ∀ (vs : List Value) (i : Nat) (w : World), (∀ j, j < vs.length → (w.cell? ⟨b, o + i + j, none⟩).isSome = true ∧ w.frozen? ⟨b, o + i + j, none⟩ = false) → (∀ v ∈ vs, v.oneCell' = true) →
    (storeCells ⟨b, o, none⟩ vs i).run P w = .ok () (putCells w b (o + i) vs)
  | [], i, w, _, _ => by simp [storeCells, putCells]
  | v :: vs, i, w, h, h1 => by
    have h0 := h 0 (by simp)
    simp only [Nat.add_zero] at h0
    obtain ⟨u, hu⟩ := Option.isSome_iff_exists.1 h0.1
    have hs : (store (Addr.add ⟨b, o, none⟩ i) v).run P w = .ok () (w.setCell ⟨b, o + i, none⟩ v) := by
      rw [Addr.add_eq _ rfl, run_store P w _ v _ (h1 v (by simp))]
      simp only [hu, h0.2]
      rfl
    simp only [storeCells, Sem.run_bind, hs, Result.andThen_ok]
    rw [run_storeCells vs (i + 1) _ ?_ (fun v hv => h1 v (by simp [hv]))]
    · rfl
    · intro j hj
      have hj' := h (j + 1) (by simp; omega)
      rw [show o + i + (j + 1) = o + (i + 1) + j by omega] at hj'
      refine ⟨?_, by rw [World.frozen?_setCell]; exact hj'.2⟩
      rw [World.cell?_setCell_other]
      · exact hj'.1
      · intro e; injection e with _ e; omega
theorem put_inv (k : Inv c w H) {o : Nat} {x : Ob} {cs ds : List D} {us : List Value} (ho : H[o]? = some x) (hx : x.cells? = some cs) (kc : Cells c ds us) {off : Nat} (h1 : off ≤ cs.length) (h3 : off + ds.length ≤ c.sz o) :
    (storeCells ⟨c.β o, off, none⟩ us).run P w = .ok () (putCells w (c.β o) off us) ∧
    Inv c (putCells w (c.β o) off us) (H.set o (.row (cs.take off ++ ds ++ cs.drop (off + ds.length)))) ∧ Below c.bb w (putCells w (c.β o) off us) := by
  have hl := Ob.live_of_cells hx
  obtain ⟨vs, rest, e, fr, g1, g2, g4, g3⟩ := (k.row o x cs ho hx).hold
  obtain ⟨k0, k1, k2, k3⟩ := k.own o _ ho hl
  have hvl : vs.length = cs.length := g2.len
  have hul : us.length = ds.length := kc.len
  generalize hN : (Ob.row (cs.take off ++ ds ++ cs.drop (off + ds.length))) = N
  have hrun : (storeCells ⟨c.β o, off, none⟩ us).run P w = .ok () (putCells w (c.β o) off us) := by
    have hst := run_storeCells (P := P) (b := c.β o) (o := off) us 0 w (fun j hj => ?_) kc.cell
    · simpa only [Nat.add_zero] using hst
    · simp only [Nat.add_zero, World.cell?, World.frozen?, g1]
      have hlt : off + j < c.sz o := by omega
      have := g3 (off + j) (Nat.le_of_lt hlt)
      have hlt' : off + j < (vs ++ rest).length := by rw [List.length_append]; omega
      refine ⟨?_, ?_⟩
      · simp only [List.getElem?_toArray, List.getElem?_eq_getElem hlt']; rfl
      · simp; omega
  obtain ⟨p1, p2, p3, p4, p5⟩ := putCells_same (b := c.β o) us off w
  obtain ⟨cs', q1, q2⟩ := putCells_at (b := c.β o) us off w (vs ++ rest).toArray g1 (by simp; omega)
  have hne : ∀ b', b' ≠ c.β o → (putCells w (c.β o) off us).heap[b']? = w.heap[b']? := fun b' h => putCells_ne h _ _ _
  have hcell : ∀ x : Addr, x.block ≠ c.β o → (putCells w (c.β o) off us).cell? x = w.cell? x := fun x h => by simp only [World.cell?, hne _ h]
  have hfroz : ∀ x : Addr, x.block ≠ c.β o → (putCells w (c.β o) off us).frozen? x = w.frozen? x := fun x h => by simp only [World.frozen?, hne _ h]
  have hHne : ∀ o', o' ≠ o → (H.set o N)[o']? = H[o']? := fun o' h => by rw [List.getElem?_set_ne (Ne.symm h)]
  have hlt : o < H.length := by
    rcases Nat.lt_or_ge o H.length with h' | h'
    · exact h'
    · rw [List.getElem?_eq_none h'] at ho; cases ho
  have hHo : (H.set o N)[o]? = some N := by simp [hlt]
  refine ⟨hrun, ?_, ?_⟩
  · refine ⟨?_, ?_, ?_, ?_, ?_, ?_, ?_, ?_, ?_, ?_, ?_⟩
    · intro x v hx
      by_cases hb : x.block = c.β o
      · exfalso
        obtain ⟨b, f, s⟩ := x
        simp only at hb; subst hb
        have hc := k.keep _ _ hx
        cases s with
        | none => rw [k3 f] at hx; cases hx
        | some s => simp [World.cell?, g1] at hc
      · rw [hcell x hb]; exact k.keep x v hx
    · rw [p1]; exact k.low
    · intro o' x'' cs'' ho' hx''
      by_cases e' : o' = o
      · subst e'
        rw [hHo] at ho'; injection ho' with ho'; subst ho'; subst hN
        injection hx'' with hx''; subst hx''
        have hc : Cells c (cs.take off ++ ds ++ cs.drop (off + ds.length)) (vs.take off ++ us ++ vs.drop (off + us.length)) := by
          rw [hul]
          exact ((g2.take off).append kc).append (g2.drop _)
        have hlen := hc.len
        refine ⟨vs.take off ++ us ++ vs.drop (off + us.length), rest.drop (off + us.length - vs.length), e, fr, ?_, hc, ?_, g3⟩
        · rw [q1]
          congr 2
          apply Array.toList_inj.1
          rw [q2]
          simp only [List.append_assoc, List.drop_append]
          rw [List.take_append_of_le_length (by omega)]
        · simp only [List.length_append, List.length_take, List.length_drop]
          omega
      · rw [hHne o' e'] at ho'
        have hb := fun e => e' (k.apart o' o _ _ ho' ho (Ob.live_of_cells hx'') hl e)
        exact (k.row o' x'' cs'' ho' hx'').mono (Cx.le.refl c) (hne _ hb)
    · intro o' ho'
      by_cases e' : o' = o
      · subst e'
        rcases ho' with h | h
        · rw [List.length_set] at h; omega
        · rw [hHo] at h; subst hN; cases h
      · refine k.free o' ?_
        rcases ho' with h | h
        · exact .inl (by rw [List.length_set] at h; exact h)
        · exact .inr (by rw [← hHne o' e']; exact h)
    · intro o' x ho' hx
      rw [p1]
      by_cases e' : o' = o
      · subst e'; exact ⟨k0, k1, k2, k3⟩
      · rw [hHne o' e'] at ho'; exact k.own o' x ho' hx
    · intro o1 o2 x1 x2 h1' h2' l1 l2 he
      have key : ∀ (o' : Nat) (y : Ob), (H.set o N)[o']? = some y → y.live = true → ∃ x' : Ob, H[o']? = some x' ∧ x'.live = true := fun o' y h l => by
        by_cases e' : o' = o
        · subst e'; exact ⟨_, ho, hl⟩
        · rw [hHne o' e'] at h; exact ⟨y, h, l⟩
      obtain ⟨y1, a1, b1⟩ := key o1 x1 h1' l1
      obtain ⟨y2, a2, b2⟩ := key o2 x2 h2' l2
      exact k.apart o1 o2 y1 y2 a1 a2 b1 b2 he
    · intro o' es clk h
      by_cases e' : o' = o
      · subst e'; rw [hHo] at h; subst hN; cases h
      · rw [hHne o' e'] at h
        obtain ⟨g1, g2⟩ := k.map o' es clk h
        have hb := fun e => e' (k.apart o' o _ _ h ho rfl hl e)
        exact ⟨g1, (hne _ hb).trans g2⟩
    · intro o' m sn se la h
      by_cases e' : o' = o
      · subst e'; rw [hHo] at h; subst hN; cases h
      · rw [hHne o' e'] at h
        exact (k.iter o' m sn se la h).mono (Cx.le.refl c) rfl (hne _ fun e => e' (k.apart o' o _ _ h ho rfl hl e))
    · intro τ m z hτ
      obtain ⟨h1, h2, h3, h4, h5⟩ := k.tok τ m z hτ
      have hb : (c.κ τ).1.block ≠ c.β o := fun e => k.tokrow τ m z o _ hτ ho hl e.symm
      refine ⟨h1, by rw [p1]; exact h2, h3, h4, fun j a b => ?_⟩
      obtain ⟨z1, z2, z3⟩ := h5 j a b
      exact ⟨(congrArg Option.isSome (hcell ⟨(c.κ τ).1.block, (c.κ τ).1.off + j, none⟩ hb)).trans z1, (hfroz ⟨(c.κ τ).1.block, (c.κ τ).1.off + j, none⟩ hb).trans z2, z3⟩
    · intro τ m z o' x hτ ho' hx
      by_cases e' : o' = o
      · subst e'; exact k.tokrow τ m z o' _ hτ ho hl
      · rw [hHne o' e'] at ho'; exact k.tokrow τ m z o' x hτ ho' hx
    · exact k.toks
  · exact ⟨p2, p3, p4, by rw [p1]; exact Nat.le_refl _, fun i hi => hne i (by have hi' : i < c.B := hi; omega), fun _ => by rw [putCells_drawn]; exact Nat.le_refl _⟩
theorem row_fits (k : Inv c w H) {o : Nat} {x : Ob} {cs : List D} (ho : H[o]? = some x) (hx : x.cells? = some cs) : cs.length ≤ c.sz o := by
  obtain ⟨vs, rest, e, fr, g1, g2, g4, g3⟩ := (k.row o x cs ho hx).hold
  have := g2.len
  omega
theorem store_any (k : Inv c w H) {t : TypeId} {n : Nat} (ht : tsz P t = some n) {a d : D} {va vd : Value} (ha : Rep c a va) (hd : Rep c d vd) {o off : Nat} {x : Ob} {cs : List D} (ea : a = .ptr o off) (ho : H[o]? = some x) (hx : x.cells? = some cs)
    (h1 : d.okc = true) (h2 : d.cells.length = n) (h3 : off + n ≤ cs.length) :
    ∃ w', (Instr.storeAt t va vd).run P w = .ok () w' ∧ Inv c w' (H.set o (.row (cs.take off ++ d.cells ++ cs.drop (off + n)))) ∧ Below c.bb w w' := by
  subst ea
  cases ha with
  | ptr _ _ hbd =>
    have kc := hd.cells h1
    have hvn : vd.cells.size = n := by have := kc.len; simp at this; omega
    have hfit := row_fits k ho hx
    obtain ⟨hst, hi, hb⟩ := put_inv (P := P) k ho hx kc (off := off) (by omega) (by omega)
    refine ⟨_, ?_, by rw [h2] at hi; exact hi, hb⟩
    simp [Instr.storeAt, Instr.sureAddr, storeVar, run_size ht, hvn, hst]
theorem store_sound (k : Inv c w H) {t : TypeId} {n : Nat} (ht : tsz P t = some n) {a d : D} {va vd : Value} (ha : Rep c a va) (hd : Rep c d vd) {o off : Nat} {cs : List D} (ea : a = .ptr o off) (ho : H[o]? = some (.row cs))
    (h1 : d.okc = true) (h2 : d.cells.length = n) (h3 : off + n ≤ cs.length) :
    ∃ w', (Instr.storeAt t va vd).run P w = .ok () w' ∧ Inv c w' (H.set o (.row (cs.take off ++ d.cells ++ cs.drop (off + n)))) ∧ Below c.bb w w' :=
  store_any k ht ha hd ea ho rfl h1 h2 h3
theorem kill_inv (k : Inv c w H) (o : Nat) : Inv c w (H.set o .dead) := by
  have get : ∀ (o' : Nat) (y : Ob), (H.set o .dead)[o']? = some y → y = .dead ∨ H[o']? = some y := by
    intro o' y h
    by_cases e : o' = o
    · subst e
      rcases Nat.lt_or_ge o' H.length with h' | h'
      · simp [h'] at h; exact .inl h.symm
      · rw [List.getElem?_eq_none (by simpa using h')] at h; cases h
    · rw [List.getElem?_set_ne (Ne.symm e)] at h; exact .inr h
  refine ⟨k.keep, k.low, ?_, ?_, ?_, ?_, ?_, ?_, k.tok, ?_, k.toks⟩
  · intro o' x' cs' h hx'
    rcases get o' _ h with rfl | h
    · cases hx'
    · exact k.row o' x' cs' h hx'
  · intro o' h
    rcases h with h | h
    · exact k.free o' (.inl (by simpa using h))
    · rcases get o' _ h with e | h
      · cases e
      · exact k.free o' (.inr h)
  · intro o' y h hy
    rcases get o' _ h with rfl | h
    · cases hy
    · exact k.own o' y h hy
  · intro o1 o2 x1 x2 h1 h2 l1 l2 he
    rcases get o1 _ h1 with rfl | h1
    · cases l1
    · rcases get o2 _ h2 with rfl | h2
      · cases l2
      · exact k.apart o1 o2 x1 x2 h1 h2 l1 l2 he
  · intro o' es clk h
    rcases get o' _ h with e | h
    · cases e
    · exact k.map o' es clk h
  · intro o' m sn se la h
    rcases get o' _ h with e | h
    · cases e
    · exact k.iter o' m sn se la h
  · intro τ m z o' y hτ h hy
    rcases get o' _ h with rfl | h
    · cases hy
    · exact k.tokrow τ m z o' y hτ h hy
end GP
namespace GP
open Go
variable {P : Program} {c : Cx} {w : World} {H : Hp}
theorem fill_dense (sz : Nat) : ∀ (vs : List Value) (k : Nat) (done : List Value) (cs : Array Value), cs.toList.take (k * sz) = done → cs.size = (k + vs.length) * sz → (∀ v ∈ vs, v.cells.size = sz) →
    ∃ cs', Instr.fill (fun i => some (i * sz, sz)) cs ((vs.zipIdx k).map fun p => (p.2, p.1)) = some cs' ∧ cs'.toList = done ++ (vs.map fun v => v.cells.toList).flatten
  | [], k, done, cs, h, hs, _ => ⟨cs, rfl, by
      simp only [List.map_nil, List.flatten_nil, List.append_nil]
      rw [← h, List.take_of_length_le]
      simp only [Array.length_toList, hs]
      simp⟩
  | v :: vs, k, done, cs, h, hs, hv => by
    have hv0 := hv v (by simp)
    have hle : k * sz + v.cells.size ≤ cs.size := by
      rw [hs, hv0]
      simp only [List.length_cons]
      have : k * sz + sz = (k + 1) * sz := by rw [Nat.add_mul]; omega
      rw [this]
      exact Nat.mul_le_mul_right _ (by omega)
    have e := fill_one (k * sz) v.cells cs hle
    have hsz' : (v.cells.zipIdx.foldl (fun cs (p : Value × Nat) => cs.setIfInBounds (k * sz + p.2) p.1) cs).size = cs.size := by
      rw [← Array.length_toList, e]
      simp only [List.length_append, List.length_take, List.length_drop, Array.length_toList]
      omega
    have hd : done.length = k * sz := by rw [← h, List.length_take, Array.length_toList]; omega
    obtain ⟨cs', h1, h2⟩ := fill_dense sz vs (k + 1) (done ++ v.cells.toList) (v.cells.zipIdx.foldl (fun cs (p : Value × Nat) => cs.setIfInBounds (k * sz + p.2) p.1) cs)
      (by
        rw [e, h]
        rw [List.take_append_of_le_length (by simp [hd, hv0, Nat.add_mul])]
        rw [List.take_of_length_le (by simp [hd, hv0, Nat.add_mul])])
      (by rw [hsz', hs]; simp only [List.length_cons]; congr 1; omega) (fun u hu => hv u (by simp [hu]))
    refine ⟨cs', ?_, ?_⟩
    · simp only [List.zipIdx_cons, List.map_cons, Instr.fill]
      rw [hv0] at hle
      rw [if_neg (by simp only [hv0, ne_eq, not_true_eq_false, decide_false, Bool.false_or, decide_eq_true_eq]; omega)]
      exact h1
    · rw [h2]; simp
theorem run_bsl {t e : TypeId} {sz : Nat} (ht : sliceOf P t = some e) (hsz : tsz P e = some sz) (hz : (tz P e).isSome = true) (vs : List Value) (hv : ∀ v ∈ vs, v.cells.size = sz) (hs : vs.length * sz ≤ 2 ^ 24) (c : Cx) :
    (Instr.buildSlice t vs.length ((vs.zipIdx 0).map fun p => (p.2, p.1)).toArray).run P w = .ok (.slice (some ⟨w.heap.size, 0, none⟩) vs.length vs.length) (w.alloc (.cells (vs.map fun v => v.cells.toList).flatten.toArray e)) := by
  obtain ⟨z, hz⟩ := Option.isSome_iff_exists.1 hz
  obtain ⟨zv, z1, z2⟩ := run_zero hz c
  have hsmall : ¬ (vs.length * sz > 2 ^ 24) := by omega
  by_cases h0 : vs.length * sz = 0
  · obtain ⟨cs', h1, h2⟩ := fill_dense sz vs 0 [] #[] (by simp) (by simp [h0]) hv
    have e0 : cs' = (vs.map fun v => v.cells.toList).flatten.toArray := by
      apply Array.toList_inj.1; rw [h2]; simp
    have e1 : ∀ d : Value, (Array.map (fun _ : Nat => d) (Array.range 0)) = #[] := fun d => by simp [Array.range]
    simp [Instr.buildSlice, run_underlying (sliceOf_eq ht), run_size hsz, h0, newRow]
    rw [e1, h1]
    simp [e0]
  · obtain ⟨cs', h1, h2⟩ := fill_dense sz vs 0 [] ((Array.range (vs.length * sz)).map (zv.cells[· % zv.cells.size]!)) (by simp) (by simp) hv
    have e0 : cs' = (vs.map fun v => v.cells.toList).flatten.toArray := by
      apply Array.toList_inj.1; rw [h2]; simp
    simp [Instr.buildSlice, run_underlying (sliceOf_eq ht), run_size hsz, h0, hsmall, z1, newRow, h1, e0]
theorem fresh_sl (k : Inv c w H) {sz : Nat} {xs : List D} {vss : List (List Value)} (hk : Elems c sz xs vss) (e : TypeId) (hb : xs.length < 2 ^ 62) {T : Tk} (hT : c.T = T) :
    Yld c w H T (.sl none xs) (.ok (.slice (some ⟨w.heap.size, 0, none⟩) xs.length xs.length) (w.alloc (.cells vss.flatten.toArray e))) := by
  have hle := fresh_le k vss.flatten vss.flatten.length
  refine ⟨_, { c with M := freshM c.M w.heap.size vss.flatten vss.flatten.length }, _, rfl, ?_, k.fresh _ e (0, 0) _, hle, hT, Below.of_alloc w _ k.low⟩
  refine rep_sl_of (hk.mono hle) rfl (Nat.le_refl _) hb (fun j hj => ?_) none (fun τ h => by cases h) (fun τ h => by cases h)
  have : j < vss.flatten.length := by rw [flat_len vss hk.sz', hk.len]; exact hj
  show freshM _ _ _ _ _ = _
  simp only [Nat.zero_add]
  rw [freshM_at this]
theorem fresh_slq (k : Inv c w H) {sz : Nat} {xs : List D} {vss : List (List Value)} (hk : Elems c sz xs vss) (e : TypeId) (hb : xs.length < 2 ^ 62) {T : Tk} (hT : c.T = T) :
    Yld c w H T (slq xs) (.ok (.slice (some ⟨w.heap.size, 0, none⟩) xs.length xs.length) (w.alloc (.cells vss.flatten.toArray e))) := by
  cases xs with
  | cons x xs => exact fresh_sl k hk e hb hT
  | nil =>
    obtain ⟨v, c', w', e1, e2, e3, e4⟩ := fresh_sl k hk e hb hT
    injection e1 with e1 e1'
    exact ⟨v, c', w', by rw [e1, e1'], e1 ▸ Rep.e0 _, e3, e4⟩
theorem fresh_tok (k : Inv c w H) {sz : Nat} {xs : List D} {vss : List (List Value)} (hk : Elems c sz xs vss) (e : TypeId) (hb : xs.length < 2 ^ 62) (rest : List Value) (fr : Nat × Nat) (hfr : ∀ i, i < vss.flatten.length + rest.length → ¬ (fr.1 ≤ i ∧ i < fr.2))
    {cap : Nat} (hcap : xs.length ≤ cap) (hrest : cap * sz ≤ vss.flatten.length + rest.length) {τ : Nat} {T' : Tk}
    (hτ : T'[τ]? = some (some (xs.length, sz))) (hold : τ < c.T.length → ∃ n, c.T[τ]? = some (some (n, sz)) ∧ n < xs.length) (hne : ∀ τ', τ' ≠ τ → T'[τ']? = c.T[τ']?) (hlen : c.T.length ≤ T'.length) :
    Yld c w H T' (.sl (some τ) xs) (.ok (.slice (some ⟨w.heap.size, 0, none⟩) xs.length cap) (w.alloc (.cells (vss.flatten ++ rest).toArray e fr))) := by
  let c1 : Cx := { c with M := freshM c.M w.heap.size (vss.flatten ++ rest) vss.flatten.length }
  let κ' : Nat → Addr × Nat := fun j => if j = τ then (⟨w.heap.size, 0, none⟩, cap) else c.κ j
  have hκ0 : κ' τ = (⟨w.heap.size, 0, none⟩, cap) := if_pos rfl
  have hκ : ∀ j, j ≠ τ → κ' j = c.κ j := fun j h => if_neg h
  have hfl : vss.flatten.length = xs.length * sz := by rw [flat_len vss hk.sz', hk.len]
  have k1 : Inv c1 (w.alloc (.cells (vss.flatten ++ rest).toArray e fr)) H := k.fresh _ e fr _
  have hle1 : c.le c1 := fresh_le k _ _
  have hle2 : c1.le { c1 with T := T', κ := κ' } := by
    refine ⟨fun _ _ h => h, fun _ h => h, fun _ _ => rfl, hlen, ?_, ?_, rfl, fun _ _ => rfl⟩
    · intro j hj
      by_cases e' : j = τ
      · subst e'
        have hlt : j < c.T.length := by
          rcases Nat.lt_or_ge j c.T.length with h' | h'
          · exact h'
          · have : c.T[j]? = none := List.getElem?_eq_none h'
            have hj' : c.T[j]? = some none := hj
            rw [this] at hj'; cases hj'
        obtain ⟨n, hn, _⟩ := hold hlt
        have hj' : c.T[j]? = some none := hj
        rw [hn] at hj'; cases hj'
      · show T'[j]? = _
        rw [hne j e']; exact hj
    · intro j n z hj
      by_cases e' : j = τ
      · subst e'
        have hj' : c.T[j]? = some (some (n, z)) := hj
        have hlt : j < c.T.length := by
          rcases Nat.lt_or_ge j c.T.length with h' | h'
          · exact h'
          · rw [List.getElem?_eq_none h'] at hj'; cases hj'
        obtain ⟨n0, hn, hl⟩ := hold hlt
        rw [hn] at hj'; injection hj' with hj'; injection hj' with hj'; injection hj' with e1 e2
        subst e1; subst e2
        exact .inr ⟨xs.length, hτ, Nat.le_of_lt hl, fun e => by omega⟩
      · refine .inr ⟨n, ?_, Nat.le_refl _, fun _ => hκ j e'⟩
        show T'[j]? = _
        rw [hne j e']; exact hj
  have k2 : Inv { c1 with T := T', κ := κ' } (w.alloc (.cells (vss.flatten ++ rest).toArray e fr)) H := by
    refine k1.retok hle2 (some τ) ?_
    intro j n z hj
    by_cases e' : j = τ
    · subst e'
      rw [hτ] at hj; injection hj with hj; injection hj with hj; injection hj with e1 e2
      subst e1; subst e2
      rw [hκ0]
      refine .inr ⟨rfl, k.low, by rw [World.size_alloc]; exact Nat.lt_succ_self _, rfl, hcap, ?_, ?_, ?_⟩
      · intro i h1 h2
        simp only at h2
        simp only [Nat.zero_add]
        refine ⟨?_, ?_, ?_⟩
        · rw [cell?_new]
          have : i < (vss.flatten ++ rest).toArray.size := by simp only [List.size_toArray, List.length_append]; omega
          simp [Array.getElem?_eq_getElem this]
        · rw [frozen?_new]
          have := hfr i (by omega)
          simp; omega
        · show freshM _ _ _ _ _ = none
          exact freshM_out (by omega)
      · intro o x ho hx
        exact Nat.ne_of_lt (k.own o x ho hx).2.2.1
      · intro τ' n' z' hne' hτ'
        have h1 := hne τ' hne'
        rw [hτ'] at h1
        exact Nat.ne_of_lt (k.tok τ' n' z' h1.symm).2.1
    · exact .inl ⟨by show c.T[j]? = _; rw [← hne j e']; exact hj, hκ j e', fun e => by injection e with e; exact e' e⟩
  refine ⟨_, { c1 with T := T', κ := κ' }, _, rfl, ?_, k2, hle1.trans hle2, rfl, Below.of_alloc w _ k.low⟩
  refine rep_sl_of ((hk.mono hle1).mono hle2) rfl hcap hb (fun j hj => ?_) (some τ) (fun τ' h => ?_) (fun τ' h n z hn => ?_)
  · have : j < vss.flatten.length := by omega
    show freshM _ _ _ _ _ = _
    simp only [Nat.zero_add]
    rw [freshM_at this, List.getElem?_append_left this]
  · injection h with h; subst h
    rcases Nat.lt_or_ge τ T'.length with h' | h'
    · exact h'
    · rw [List.getElem?_eq_none h'] at hτ; cases hτ
  · injection h with h; subst h
    have hn' : T'[τ]? = some (some (n, z)) := hn
    rw [hτ] at hn'; injection hn' with hn'; injection hn' with hn'; injection hn' with e1 e2
    subst e1
    exact ⟨Nat.le_refl _, fun _ => ⟨by show some _ = some (κ' τ).1; rw [hκ0], by show cap = (κ' τ).2; rw [hκ0]⟩⟩
theorem Yld.drew {c : Cx} {w : World} {H : Hp} {T : Tk} {d : D} {r : Result Value} (h : Yld c w.drew H T d r) : Yld c w H T d r := by
  obtain ⟨v, c', w', h1, h2, h3, h4, h5, h6⟩ := h
  exact ⟨v, c', w', h1, h2, h3, h4, h5, ((Below.refl c.bb w).drew).trans h6⟩
theorem Inv.drew (k : Inv c w H) : Inv c w.drew H := Inv.congr (w := w) (w' := w.drew) rfl k
theorem fit_sz {sz : Nat} {xs : List D} (h : xs.all (fit sz) = true) : ∀ x ∈ xs, x.cells.length = sz := fun x hx => by
  have := List.all_eq_true.1 h x hx
  simp only [fit, Bool.and_eq_true, beq_iff_eq] at this
  exact this.2
theorem src_sound (k : Inv c w H) {sz : Nat} {y : D} {vy : Value} (hy : Rep c y vy) {ys : List D} {st : Bool} (h : appSrc st y = some ys) (hf : ys.all (fit sz) = true) (hbyte : ∀ l, y = .str l → sz = 1) :
    ∃ vss, Elems c sz ys vss ∧ (∀ w', (Builtin.lenOf vy).run P w' = .ok ys.length w') ∧ (∀ w', w'.heap = w.heap → (Builtin.firstCells sz ys.length vy).run P w' = .ok vss.flatten.toArray w') := by
  cases y with
  | nils =>
    simp only [appSrc] at h
    cases st <;> simp at h
    subst h
    cases hy
    exact ⟨[], ⟨rfl, fun i h _ => absurd h (by simp), fun x hx => by cases hx⟩, fun w' => by simp [Builtin.lenOf], fun w' _ => by simp [Builtin.firstCells]⟩
  | e0 =>
    simp only [appSrc] at h
    cases st <;> simp at h
    subst h
    cases hy with
    | e0 a =>
    refine ⟨[], ⟨rfl, fun i h _ => absurd h (by simp), fun x hx => by cases hx⟩, fun w' => by simp [Builtin.lenOf], fun w' _ => ?_⟩
    cases a <;> simp [Builtin.firstCells, loadCells, loadCellsFrom]
  | sl t xs =>
    simp only [appSrc] at h
    cases st <;> simp at h
    subst h
    obtain ⟨a, cap, vss, rfl, hc, hk, hs, ha, hcell, hlen⟩ := sl_elems k hy (fit_sz hf)
    refine ⟨vss, hk, fun w' => by simp [Builtin.lenOf], fun w' hw' => ?_⟩
    cases a with
    | none =>
      cases xs with
      | nil => 
        have : vss = [] := by have := hk.len; simpa using this
        subst this
        simp [Builtin.firstCells]
      | cons x xs => obtain ⟨b, hb⟩ := ha (by simp); cases hb
    | some b =>
      exact run_firstCells_some w' sz xs.length b xs.length cap vss.flatten hlen (fun j v hj => by rw [cell?_heap hw']; exact (hcell b rfl j v hj).1)
  | str l =>
    simp only [appSrc] at h
    cases st <;> simp at h
    subst h
    cases hy with
    | str _ hl =>
      have hs1 := hbyte l rfl
      subst hs1
      refine ⟨l.map fun b => [Value.int .u8 b.toNat], ⟨by simp [byteD], fun i h h' => ⟨by simp [byteD, D.cells], by simp [byteD, D.cells, D.one], fun j hj hj' => ?_⟩, fun x hx => ?_⟩, fun w' => ?_, fun w' _ => ?_⟩
      · simp [byteD, D.cells] at hj ⊢
        subst hj
        exact Rep.int _ _
      · simp only [byteD, List.mem_map] at hx
        obtain ⟨b, _, rfl⟩ := hx
        rfl
      · simp [Builtin.lenOf, byteD, ByteArray.size]
      · simp only [Builtin.firstCells, byteD, List.length_map]
        have : ((⟨l.toArray⟩ : ByteArray).extract 0 l.length).data = l.toArray := by
          rw [extract_mk]; simp [subList]
        rw [this]
        simp only [Sem.run_pure]
        congr 1
        apply Array.toList_inj.1
        simp only [Array.toList_map]
        clear hl hbyte hf this
        induction l with
        | nil => rfl
        | cons b l ih => simpa using ih
  | _ => simp [appSrc] at h
end GP
namespace GP
open Go
variable {P : Program} {c : Cx} {w : World} {H : Hp}
def putM (M : Addr → Option Value) (b off : Nat) (vs : List Value) : Addr → Option Value :=
  fun a => if a.block = b ∧ a.spot = none ∧ off ≤ a.off ∧ a.off < off + vs.length then vs[a.off - off]? else M a
theorem putCells_cell {b : Nat} : ∀ (vs : List Value) (off : Nat) (w : World) (x : Addr), (∀ j, j < vs.length → (w.cell? ⟨b, off + j, none⟩).isSome = true) →
    (putCells w b off vs).cell? x = if x.block = b ∧ x.spot = none ∧ off ≤ x.off ∧ x.off < off + vs.length then vs[x.off - off]? else w.cell? x
  | [], off, w, x, _ => by
    rw [putCells, if_neg]
    simp only [List.length_nil]
    omega
  | v :: vs, off, w, x, h => by
    have h0 := h 0 (by simp)
    simp only [Nat.add_zero] at h0
    obtain ⟨u, hu⟩ := Option.isSome_iff_exists.1 h0
    have ih := putCells_cell vs (off + 1) (w.setCell ⟨b, off, none⟩ v) x (fun j hj => by
      rw [World.cell?_setCell_other]
      · have := h (j + 1) (by simp; omega)
        rwa [show off + (j + 1) = off + 1 + j by omega] at this
      · intro e; injection e with _ e; omega)
    rw [putCells, ih]
    obtain ⟨xb, xo, xs⟩ := x
    simp only [List.length_cons]
    by_cases h1 : xb = b ∧ xs = none ∧ off + 1 ≤ xo ∧ xo < off + 1 + vs.length
    · obtain ⟨q1, q2, q3, q4⟩ := h1
      rw [if_pos ⟨q1, q2, q3, q4⟩, if_pos ⟨q1, q2, by omega, by omega⟩]
      rw [show xo - off = (xo - (off + 1)) + 1 by omega, List.getElem?_cons_succ]
    · rw [if_neg h1]
      by_cases h2 : xb = b ∧ xs = none ∧ off ≤ xo ∧ xo < off + (vs.length + 1)
      · rw [if_pos h2]
        obtain ⟨rfl, rfl, h3, h4⟩ := h2
        have : xo = off := by
          rcases Nat.lt_or_ge off xo with h' | h'
          · exact absurd ⟨rfl, rfl, by omega, by omega⟩ h1
          · omega
        subst this
        simp [World.cell?_setCell_same _ _ _ hu]
      · rw [if_neg h2, World.cell?_setCell_other]
        intro e
        injection e with e1 e2 e3
        exact h2 ⟨e1.symm, e3.symm, by omega, by omega⟩
theorem putCells_frozen {b : Nat} : ∀ (vs : List Value) (off : Nat) (w : World) (x : Addr), (putCells w b off vs).frozen? x = w.frozen? x
  | [], _, _, _ => rfl
  | v :: vs, off, w, x => by rw [putCells, putCells_frozen vs, World.frozen?_setCell]
theorem adv_tok (k : Inv c w H) {sz : Nat} {xs ys : List D} {τ : Nat} (hT : c.T[τ]? = some (some (xs.length, sz))) {vx : Value} (hx : Rep c (.sl (some τ) xs) vx) (hfx : ∀ x ∈ xs, x.cells.length = sz)
    {vss : List (List Value)} (hy : Elems c sz ys vss) (hb : xs.length + ys.length < 2 ^ 62) (hfit : xs.length + ys.length ≤ (c.κ τ).2) :
    vx = .slice (some (c.κ τ).1) xs.length (c.κ τ).2 ∧
    (storeCells ((c.κ τ).1.add (xs.length * sz)) vss.flatten).run P w = .ok () (putCells w (c.κ τ).1.block ((c.κ τ).1.off + xs.length * sz) vss.flatten) ∧
    Yld c w H (c.T.set τ (some (xs.length + ys.length, sz))) (.sl (some τ) (xs ++ ys))
      (.ok (.slice (some (c.κ τ).1) (xs.length + ys.length) (c.κ τ).2) (putCells w (c.κ τ).1.block ((c.κ τ).1.off + xs.length * sz) vss.flatten)) := by
  obtain ⟨t1, t2, t3, t4, t5⟩ := k.tok τ _ _ hT
  obtain ⟨a, cap, uss, rfl, hcap, hkx, hs, ha, hcell, hul⟩ := sl_elems k hx hfx
  have hlink : a = some (c.κ τ).1 ∧ cap = (c.κ τ).2 := by
    cases hx with
    | sl _ _ _ _ sz' vs hlen hb' hsz0 h1 ha' hs' hM hr htl ht' => exact (ht' τ rfl _ _ hT).2 rfl
  obtain ⟨rfl, rfl⟩ := hlink
  have hfl : vss.flatten.length = ys.length * sz := by rw [flat_len vss hy.sz', hy.len]
  generalize hb0 : (c.κ τ).1.block = b0 at *
  generalize ho0 : (c.κ τ).1.off = o0 at *
  have hrange : ∀ j, j < vss.flatten.length → xs.length * sz ≤ xs.length * sz + j ∧ xs.length * sz + j < (c.κ τ).2 * sz := fun j hj => by
    have : (xs.length + ys.length) * sz ≤ (c.κ τ).2 * sz := Nat.mul_le_mul_right _ hfit
    rw [Nat.add_mul] at this
    omega
  have hcells : ∀ j, j < vss.flatten.length → (w.cell? ⟨b0, o0 + xs.length * sz + j, none⟩).isSome = true ∧ w.frozen? ⟨b0, o0 + xs.length * sz + j, none⟩ = false ∧ c.M ⟨b0, o0 + xs.length * sz + j, none⟩ = none := fun j hj => by
    obtain ⟨r1, r2⟩ := hrange j hj
    have := t5 _ r1 r2
    rwa [← Nat.add_assoc] at this
  have hone : ∀ v ∈ vss.flatten, v.oneCell' = true := by
    intro v hv
    obtain ⟨l, hl, hv⟩ := List.mem_flatten.1 hv
    obtain ⟨i, hi, rfl⟩ := List.getElem_of_mem hl
    exact (hy.el i (by rw [← hy.len]; exact hi) hi).cell v hv
  have hstore := run_storeCells (P := P) (b := b0) (o := o0 + xs.length * sz) vss.flatten 0 w (fun j hj => ⟨by simpa using (hcells j hj).1, by simpa using (hcells j hj).2.1⟩) hone
  simp only [Nat.add_zero] at hstore
  have hadd : (c.κ τ).1.add (xs.length * sz) = ⟨b0, o0 + xs.length * sz, none⟩ := by rw [Addr.add_eq _ t3, hb0, ho0]
  refine ⟨rfl, by rw [hadd]; exact hstore, ?_⟩
  -- the new context
  obtain ⟨p1, p2, p3, p4, p5⟩ := putCells_same (b := b0) vss.flatten (o0 + xs.length * sz) w
  have hcl := putCells_cell (b := b0) vss.flatten (o0 + xs.length * sz) w
  have hcl' := fun x => hcl x (fun j hj => (hcells j hj).1)
  have hne : ∀ b', b' ≠ b0 → (putCells w b0 (o0 + xs.length * sz) vss.flatten).heap[b']? = w.heap[b']? := fun b' h => putCells_ne h _ _ _
  let c' : Cx := { c with M := putM c.M b0 (o0 + xs.length * sz) vss.flatten, T := c.T.set τ (some (xs.length + ys.length, sz)) }
  have hτl : τ < c.T.length := by
    rcases Nat.lt_or_ge τ c.T.length with h' | h'
    · exact h'
    · rw [List.getElem?_eq_none h'] at hT; cases hT
  have hTτ : c'.T[τ]? = some (some (xs.length + ys.length, sz)) := by show (c.T.set _ _)[τ]? = _; simp [hτl]
  have hTne : ∀ j, j ≠ τ → c'.T[j]? = c.T[j]? := fun j h => by show (c.T.set _ _)[j]? = _; rw [List.getElem?_set_ne (Ne.symm h)]
  have hM1 : ∀ x v, c.M x = some v → c'.M x = some v := fun x v hx => by
    show putM _ _ _ _ x = _
    unfold putM
    rw [if_neg]; exact hx
    rintro ⟨h1, h2, h3, h4⟩
    have := (hcells (x.off - (o0 + xs.length * sz)) (by omega)).2.2
    rw [show o0 + xs.length * sz + (x.off - (o0 + xs.length * sz)) = x.off by omega] at this
    obtain ⟨xb, xo, xsp⟩ := x
    simp only at h1 h2
    subst h1; subst h2
    rw [this] at hx; cases hx
  have hMne : ∀ x : Addr, x.block ≠ b0 → c'.M x = c.M x := fun x h => by
    show putM _ _ _ _ x = _
    unfold putM
    rw [if_neg]; exact fun h' => h h'.1
  have hle : c.le c' := by
    refine ⟨hM1, fun _ h => h, fun _ _ => rfl, by show _ ≤ (c.T.set _ _).length; simp, fun j hj => ?_, fun j n z hj => ?_, rfl, fun _ _ => rfl⟩
    · by_cases e' : j = τ
      · subst e'; rw [hT] at hj; cases hj
      · rw [hTne j e']; exact hj
    · by_cases e' : j = τ
      · subst e'
        rw [hT] at hj; injection hj with hj; injection hj with hj; injection hj with e1 e2
        subst e1; subst e2
        exact .inr ⟨_, hTτ, Nat.le_add_right _ _, fun _ => rfl⟩
      · exact .inr ⟨n, by rw [hTne j e']; exact hj, Nat.le_refl _, fun _ => rfl⟩
  have hrowb : ∀ (o : Nat) x, H[o]? = some x → x.live = true → c.β o ≠ b0 := fun o x ho hx => by
    have := k.tokrow τ _ _ o x hT ho hx
    rwa [hb0] at this
  have kinv : Inv c' (putCells w b0 (o0 + xs.length * sz) vss.flatten) H := by
    refine ⟨?_, by rw [p1]; exact k.low, ?_, k.free, ?_, k.apart, fun o es clk ho => ⟨(k.map o es clk ho).1, (hne _ (hrowb o _ ho rfl)).trans (k.map o es clk ho).2⟩, fun o m sn se la ho => (k.iter o m sn se la ho).mono hle rfl (hne _ (hrowb o _ ho rfl)), ?_, ?_, ?_⟩
    · intro x v hx
      rw [hcl' x]
      change putM c.M b0 (o0 + xs.length * sz) vss.flatten x = some v at hx
      unfold putM at hx
      split at hx
      · rename_i hc; rw [if_pos hc]; exact hx
      · rename_i hc; rw [if_neg hc]; exact k.keep x v hx
    · intro o x cs ho hx
      exact (k.row o x cs ho hx).mono hle (hne _ (hrowb o _ ho (Ob.live_of_cells hx)))
    · intro o x ho hx
      obtain ⟨h0, h1, h2, h3⟩ := k.own o x ho hx
      refine ⟨h0, h1, by rw [p1]; exact h2, fun i => ?_⟩
      have := hMne ⟨c.β o, i, none⟩ (hrowb o x ho hx)
      exact this.trans (h3 i)
    · intro j n z hj
      by_cases e' : j = τ
      · subst e'
        rw [hTτ] at hj; injection hj with hj; injection hj with hj; injection hj with e1 e2
        subst e1; subst e2
        show c.B ≤ (c.κ j).1.block ∧ _
        rw [hb0, ho0]
        refine ⟨t1, by rw [p1]; exact t2, t3, hfit, fun i h1 h2 => ?_⟩
        have hge : xs.length * sz ≤ i := by rw [Nat.add_mul] at h1; omega
        obtain ⟨g1, g2, g3⟩ := t5 i hge h2
        have hout : ¬ (b0 = b0 ∧ (none : Option Nat) = none ∧ o0 + xs.length * sz ≤ o0 + i ∧ o0 + i < o0 + xs.length * sz + vss.flatten.length) := by
          rw [Nat.add_mul] at h1
          omega
        refine ⟨?_, ?_, ?_⟩
        · have := hcl' ⟨b0, o0 + i, none⟩
          rw [if_neg hout] at this
          rw [this]; exact g1
        · rw [putCells_frozen]; exact g2
        · show putM _ _ _ _ _ = none
          unfold putM
          rw [if_neg hout]; exact g3
      · rw [hTne j e'] at hj
        obtain ⟨h1, h2, h3, h4, h5⟩ := k.tok j n z hj
        have hbj : (c.κ j).1.block ≠ b0 := fun e => e' (k.toks j n z τ _ _ hj hT (by rw [e, hb0]))
        refine ⟨h1, by rw [p1]; exact h2, h3, h4, fun i a b => ?_⟩
        obtain ⟨g1, g2, g3⟩ := h5 i a b
        refine ⟨?_, by rw [putCells_frozen]; exact g2, ?_⟩
        · have := hcl' ⟨(c.κ j).1.block, (c.κ j).1.off + i, none⟩
          rw [if_neg (fun h => hbj h.1)] at this
          exact (congrArg Option.isSome this).trans g1
        · exact (hMne ⟨(c.κ j).1.block, (c.κ j).1.off + i, none⟩ hbj).trans g3
    · intro j n z o x hj ho hxl
      by_cases e' : j = τ
      · subst e'; exact k.tokrow j _ _ o x hT ho hxl
      · rw [hTne j e'] at hj; exact k.tokrow j n z o x hj ho hxl
    · intro j n z j' n' z' hj hj' he
      have key : ∀ i m q, c'.T[i]? = some (some (m, q)) → ∃ m' q', c.T[i]? = some (some (m', q')) := fun i m q hi => by
        by_cases e' : i = τ
        · subst e'; exact ⟨_, _, hT⟩
        · rw [hTne i e'] at hi; exact ⟨_, _, hi⟩
      obtain ⟨_, _, g1⟩ := key j n z hj
      obtain ⟨_, _, g2⟩ := key j' n' z' hj'
      exact k.toks j _ _ j' _ _ g1 g2 he
  refine ⟨_, c', _, rfl, ?_, kinv, hle, rfl, ⟨p2, p3, p4, by rw [p1]; exact Nat.le_refl _, fun i hi => hne i (by have hi' : i < c.B := hi; omega), fun _ => by rw [putCells_drawn]; exact Nat.le_refl _⟩⟩
  have hlen : (xs ++ ys).length = xs.length + ys.length := by simp
  have hflat : (uss ++ vss).flatten = uss.flatten ++ vss.flatten := by simp
  rw [← hlen]
  refine rep_sl_of ((hkx.mono hle).append (hy.mono hle)) t3 (by rw [hlen]; exact hfit) (by rw [hlen]; exact hb) (fun j hj => ?_) (some τ) (fun τ' h => by injection h with h; subst h; show τ < (c.T.set _ _).length; simpa using hτl) (fun τ' h n z hn => ?_)
  · rw [hflat, hb0, ho0]
    by_cases hjx : j < xs.length * sz
    · rw [List.getElem?_append_left (by omega)]
      have hju : j < uss.flatten.length := by omega
      have := (hcell _ rfl j _ (List.getElem?_eq_getElem hju)).2
      rw [Addr.add_eq _ t3, hb0, ho0] at this
      rw [List.getElem?_eq_getElem hju]
      exact hM1 _ _ this
    · rw [List.getElem?_append_right (by omega), hul]
      rw [hlen, Nat.add_mul] at hj
      show putM _ _ _ _ _ = _
      unfold putM
      rw [if_pos ⟨rfl, rfl, by simp only; omega, by simp only; omega⟩]
      simp only
      rw [show o0 + j - (o0 + xs.length * sz) = j - xs.length * sz by omega]
  · injection h with h; subst h
    rw [hTτ] at hn; injection hn with hn; injection hn with hn; injection hn with e1 e2
    subst e1
    rw [hlen]
    exact ⟨Nat.le_refl _, fun _ => ⟨rfl, rfl⟩⟩
def tbytes (P : Program) (t : TypeId) : Option Nat := (P.info? t).map (·.bytes)
theorem run_bytes {t : TypeId} {n : Nat} (h : tbytes P t = some n) : ∃ i, (∀ w, (typeInfo t).run P w = .ok i w) ∧ i.bytes = n := by
  unfold tbytes at h
  cases hi : P.info? t with
  | none => rw [hi] at h; cases h
  | some i => rw [hi] at h; injection h with h; exact ⟨i, fun w => by simp [typeInfo, hi], h⟩
def appT (P : Program) (t : TypeId) : Bool := match P.underlying t with | some .string | some (.slice _) => true | _ => false
theorem appT_ok {t : TypeId} (h : appT P t = true) : P.underlying t = some .string ∨ ∃ e, P.underlying t = some (.slice e) := by
  unfold appT at h
  split at h
  · rename_i hu; exact .inl hu
  · rename_i e hu; exact .inr ⟨e, hu⟩
  · cases h
theorem app_fit {st xt e : TypeId} {sz : Nat} (ht : sliceOf P st = some e) (hxt : appT P xt = true) (hsz : tsz P e = some sz) (ty : TypeId) (base : Option Addr) (sLen sCap : Nat) (vy : Value) {n : Nat}
    (hl : ∀ w', (Builtin.lenOf vy).run P w' = .ok n w') (hfit : sLen + n ≤ sCap) {new : Array Value} (hnew : (Builtin.firstCells sz n vy).run P w = .ok new w) {w' : World}
    (hst : ∀ a, base = some a → (storeCells (a.add (sLen * sz)) new.toList).run P w = .ok () w') (hnone : base = none → w' = w) :
    (Builtin.append_ #[st, xt] ty #[.slice base sLen sCap, vy]).run P w = .ok (.slice base (sLen + n) sCap) w' := by
  cases base with
  | none =>
    have := hnone rfl
    subst this
    rcases appT_ok hxt with hd | ⟨e', hd⟩ <;>
      simp [Builtin.append_, run_underlying (sliceOf_eq ht), run_size hsz, run_underlying hd, hl, hfit, hnew]
  | some a =>
    rcases appT_ok hxt with hd | ⟨e', hd⟩ <;>
      simp [Builtin.append_, run_underlying (sliceOf_eq ht), run_size hsz, run_underlying hd, hl, hfit, hnew, hst a rfl]
theorem app_grow {st xt e : TypeId} {sz bytes : Nat} (ht : sliceOf P st = some e) (hxt : appT P xt = true) (hsz : tsz P e = some sz) (hby : tbytes P e = some bytes) (ty : TypeId) (base : Option Addr) (sLen sCap : Nat) (vy : Value) {n : Nat}
    (hl : ∀ w', (Builtin.lenOf vy).run P w' = .ok n w') (hg : sCap < sLen + n) (hneed : sLen + n < 2 ^ 63) (hbig : (sLen + n) * bytes ≤ 2 ^ 47) {z : List D} (hz : tz P e = some z) (hzl : z.length = sz) {old new : Array Value}
    (hold : (Builtin.firstCells sz sLen (.slice base sLen sCap)).run P w.drew = .ok old w.drew) (hnew : (Builtin.firstCells sz n vy).run P w.drew = .ok new w.drew) :
    ∃ (cap : Nat) (rest : List Value), sLen + n ≤ cap ∧ rest.length = (cap - (sLen + n)) * sz ∧
      (Builtin.append_ #[st, xt] ty #[.slice base sLen sCap, vy]).run P w = .ok (.slice (some ⟨w.heap.size, 0, none⟩) (sLen + n) cap) (w.drew.alloc (.cells (old ++ new ++ rest.toArray) e)) := by
  obtain ⟨zv, z1, z2⟩ := run_zero (P := P) hz (c := ⟨fun _ => none, id, fun _ => default, fun _ => false, [], (false, 0), fun _ => 0⟩)
  obtain ⟨i, hi, hib⟩ := run_bytes hby
  refine ⟨grownCap w (sLen + n) sCap e, (Builtin.zeroCells zv.cells (grownCap w (sLen + n) sCap e - (sLen + n))).toList, ?_, ?_, ?_⟩
  · simp [grownCap, Question.cut]
  · have : zv.cells.size = sz := by have := z2.len; simp at this; omega
    simp [Builtin.zeroCells, this]
  · have hn : ¬ (sLen + n ≤ sCap) := by omega
    have h63 : ¬ (9223372036854775807 < ((sLen : Int) + (n : Int))) := by omega
    have h48 : ¬ (281474976710656 < Builtin.nextslicecap (sLen + n) sCap * i.bytes) := by
      have := growslice_fits (need := sLen + n) (old := sCap) (bytes := bytes) hg (by simpa using hbig)
      rw [hib]; omega
    rcases appT_ok hxt with hd | ⟨e', hd⟩ <;>
      simp [Builtin.append_, run_underlying (sliceOf_eq ht), run_size hsz, run_underlying hd, hl, hn, h63, h48, hi, Question.forced, hold, hnew, z1, newRow, grownCap]
theorem app_nils0 {st xt e : TypeId} {sz : Nat} (ht : sliceOf P st = some e) (hxt : appT P xt = true) (hsz : tsz P e = some sz) (ty : TypeId) (vy : Value)
    (hl : ∀ w', (Builtin.lenOf vy).run P w' = .ok 0 w') (hnew : (Builtin.firstCells sz 0 vy).run P w = .ok #[] w) :
    (Builtin.append_ #[st, xt] ty #[.slice none 0 0, vy]).run P w = .ok (.slice none 0 0) w :=
  app_fit ht hxt hsz ty none 0 0 vy hl (Nat.le_refl _) hnew (fun a h => by cases h) (fun _ => rfl)
theorem grow_yld (k : Inv c w H) {st xt e : TypeId} {sz bytes : Nat} (ht : sliceOf P st = some e) (hxt : appT P xt = true) (hsz : tsz P e = some sz) (hby : tbytes P e = some bytes) (ty : TypeId) {base : Option Addr} {sCap : Nat} {vy : Value}
    {xs ys : List D} {uss vss : List (List Value)} (hx : Elems c sz xs uss) (hy : Elems c sz ys vss) (hl : ∀ w', (Builtin.lenOf vy).run P w' = .ok ys.length w') (hg : sCap < xs.length + ys.length) (hneed : xs.length + ys.length < 2 ^ 62)
    (hbig : (xs.length + ys.length) * bytes ≤ 2 ^ 47) {z : List D} (hz : tz P e = some z) (hzl : z.length = sz)
    (hold : (Builtin.firstCells sz xs.length (.slice base xs.length sCap)).run P w.drew = .ok uss.flatten.toArray w.drew) (hnew : (Builtin.firstCells sz ys.length vy).run P w.drew = .ok vss.flatten.toArray w.drew)
    {τ : Nat} {T' : Tk} (hτ : T'[τ]? = some (some (xs.length + ys.length, sz))) (hol : τ < c.T.length → ∃ n, c.T[τ]? = some (some (n, sz)) ∧ n < xs.length + ys.length) (hne : ∀ τ', τ' ≠ τ → T'[τ']? = c.T[τ']?) (hlen : c.T.length ≤ T'.length) :
    Yld c w H T' (.sl (some τ) (xs ++ ys)) ((Builtin.append_ #[st, xt] ty #[.slice base xs.length sCap, vy]).run P w) := by
  obtain ⟨cap, rest, h1, h2, h3⟩ := app_grow (w := w) ht hxt hsz hby ty base xs.length sCap vy hl hg (by omega) hbig hz hzl hold hnew
  rw [h3]
  have hk := hx.append hy
  have hfl : (uss ++ vss).flatten.length = (xs.length + ys.length) * sz := by
    rw [flat_len _ hk.sz', List.length_append, hx.len, hy.len]
  have hl' : (xs ++ ys).length = xs.length + ys.length := by simp
  have := fresh_tok k.drew hk e (by rw [hl']; exact hneed) rest (0, 0) (fun i _ => by simp) (cap := cap) (by rw [hl']; exact h1) (by
      rw [hfl, h2, ← Nat.add_mul]
      exact Nat.mul_le_mul_right _ (by omega)) (τ := τ) (T' := T') (by rw [hl']; exact hτ) (by rw [hl']; exact hol) hne hlen
  have e1 : ((uss ++ vss).flatten ++ rest).toArray = uss.flatten.toArray ++ vss.flatten.toArray ++ rest.toArray := by simp
  rw [e1, hl'] at this
  exact this.drew
theorem app_sound (k : Inv c w H) {st xt e : TypeId} {sz bytes : Nat} (ht : sliceOf P st = some e) (hxt : appT P xt = true) (hsz : tsz P e = some sz) (hby : tbytes P e = some bytes) {z : List D} (hz : tz P e = some z) (hzl : z.length = sz)
    (ty : TypeId) {x y : D} {vx vy : Value} (hx : Rep c x vx) (hy : Rep c y vy) {str : Bool} (hstr : ∀ l, y = .str l → str = true → sz = 1) {s : S} (hsH : s.H = H) (hsT : c.T = s.T) {K : D → S → Prop}
    (h : appK sz bytes K s x (appSrc str y)) :
    ∃ d s', K d s' ∧ s'.t = s.t ∧ Yld c w s'.H s'.T d ((Builtin.append_ #[st, xt] ty #[vx, vy]).run P w) := by
  subst hsH
  unfold appK at h
  split at h
  · exact h.elim
  · rename_i ys hys
    obtain ⟨hfy, h⟩ := h
    obtain ⟨vss, ky, hl, hfirst⟩ := src_sound (P := P) k hy hys hfy (fun l hl => by
      subst hl
      cases str
      · simp [appSrc] at hys
      · exact hstr l rfl rfl)
    split at h
    · cases hx
      split at h
      · rename_i h0
        subst h0
        have e0 : vss = [] := by have := ky.len; simpa using this
        subst e0
        refine ⟨.nils, s, h, rfl, ?_⟩
        rw [app_nils0 ht hxt hsz ty vy hl (by simpa using hfirst w rfl)]
        exact ⟨_, c, w, rfl, Rep.nils, k, Cx.le.refl c, hsT, Below.refl _ _⟩
      · rename_i h0
        obtain ⟨h1, h2, h3⟩ := h
        have hpos : 0 < ys.length := by cases ys with | nil => exact absurd rfl h0 | cons => simp
        refine ⟨_, _, h3, rfl, ?_⟩
        have hx0 : Elems c sz [] [] := ⟨rfl, fun i h _ => absurd h (by simp), fun x hx => by cases hx⟩
        have := grow_yld (P := P) k ht hxt hsz hby ty (base := none) (sCap := 0) hx0 ky hl (by simpa using hpos) (by simpa using h2) (by simpa using h1) hz hzl (by simp [Builtin.firstCells]) (hfirst _ rfl)
          (τ := s.T.length) (T' := s.T ++ [some (ys.length, sz)]) (by simp) (fun h => by rw [hsT] at h; omega) (fun j hj => by
            rw [hsT]
            rcases Nat.lt_or_ge j s.T.length with h' | h'
            · rw [List.getElem?_append_left h']
            · rw [List.getElem?_eq_none (by simp; omega), List.getElem?_eq_none h']) (by rw [hsT]; simp)
        simpa using this
    · cases hx with
      | e0 a =>
      split at h
      · rename_i h0
        subst h0
        have e0 : vss = [] := by have := ky.len; simpa using this
        subst e0
        refine ⟨.e0, s, h, rfl, ?_⟩
        rw [app_fit ht hxt hsz ty a 0 0 vy hl (Nat.le_refl _) (by simpa using hfirst w rfl) (w' := w) (fun b h => by simp [storeCells]) (fun _ => rfl)]
        exact ⟨_, c, w, rfl, Rep.e0 a, k, Cx.le.refl c, hsT, Below.refl _ _⟩
      · rename_i h0
        obtain ⟨h1, h2, h3⟩ := h
        have hpos : 0 < ys.length := by cases ys with | nil => exact absurd rfl h0 | cons => simp
        refine ⟨_, _, h3, rfl, ?_⟩
        have hx0 : Elems c sz [] [] := ⟨rfl, fun i h _ => absurd h (by simp), fun x hx => by cases hx⟩
        have := grow_yld (P := P) k ht hxt hsz hby ty (base := a) (sCap := 0) hx0 ky hl (by simpa using hpos) (by simpa using h2) (by simpa using h1) hz hzl (by cases a <;> simp [Builtin.firstCells, loadCells, loadCellsFrom]) (hfirst _ rfl)
          (τ := s.T.length) (T' := s.T ++ [some (ys.length, sz)]) (by simp) (fun h => by rw [hsT] at h; omega) (fun j hj => by
            rw [hsT]
            rcases Nat.lt_or_ge j s.T.length with h' | h'
            · rw [List.getElem?_append_left h']
            · rw [List.getElem?_eq_none (by simp; omega), List.getElem?_eq_none h']) (by rw [hsT]; simp)
        simpa using this
    · rename_i τ xs
      obtain ⟨h1, h2, h3, h4, h5⟩ := h
      refine ⟨_, _, h5, rfl, ?_⟩
      have hT : c.T[τ]? = some (some (xs.length, sz)) := by rw [hsT]; exact h1
      obtain ⟨a, cap, uss, rfl, hcap, hkx, hsp, ha, hcell, hul⟩ := sl_elems k hx (fit_sz h4)
      by_cases hfit : xs.length + ys.length ≤ (c.κ τ).2
      · obtain ⟨e1, e2, e3⟩ := adv_tok (P := P) k hT hx (fit_sz h4) ky h3 hfit
        injection e1 with e1 e1' e1''
        subst e1; subst e1''
        rw [app_fit ht hxt hsz ty _ _ _ vy hl hfit (hfirst w rfl) (fun a ha => by injection ha with ha; subst ha; simpa using e2) (fun h => by cases h)]
        rw [← hsT]
        exact e3
      · have hlink : a = some (c.κ τ).1 ∧ cap = (c.κ τ).2 := by
          cases hx with
          | sl _ _ _ _ sz' vs hlen hb' hsz0 h1 ha' hs' hM hr htl ht' => exact (ht' τ rfl _ _ hT).2 rfl
        obtain ⟨rfl, rfl⟩ := hlink
        refine grow_yld (P := P) k ht hxt hsz hby ty hkx ky hl (by omega) h3 h2 hz hzl ?_ (hfirst _ rfl) ?_ (fun _ => ⟨_, hT, ?_⟩) ?_ ?_
        · exact run_firstCells_some w.drew sz xs.length _ xs.length _ uss.flatten hul (fun j v hj => (hcell _ rfl j v hj).1)
        · have : τ < s.T.length := by
            rcases Nat.lt_or_ge τ s.T.length with h' | h'
            · exact h'
            · rw [List.getElem?_eq_none h'] at h1; cases h1
          simp [this]
        · have := (k.tok τ _ _ hT).2.2.2.1
          omega
        · intro j hj; rw [hsT, List.getElem?_set_ne (Ne.symm hj)]
        · rw [hsT]; simp
    · exact h.elim
end GP
