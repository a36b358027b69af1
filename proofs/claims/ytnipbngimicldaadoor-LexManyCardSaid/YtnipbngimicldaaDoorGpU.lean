import Derived.Test.YtnipbngimicldaaDoorGpT
import Derived.OpenShut
import Derived.SizedLaws
import Derived.ChangeReads
import Derived.ChangeArms
import Derived.WideShapes
import Derived.RowKit
/- From a row's reading to the machine's values. -/
namespace GP
open Go


/-- What stands for nothing yet. -/
def Cx0 (w : World) : Cx := { M := w.cell?, β := fun _ => 0, κ := fun _ => (⟨0, 0, none⟩, 0), bd := fun _ => false, T := [], B := w.heap.size, sz := fun _ => 0 }

theorem inv0 (w : World) : Inv (Cx0 w) w [] :=
  ⟨fun _ _ h => h, Nat.le_refl _, fun o x cs h => by simp at h, fun _ _ => rfl, fun o x h => by simp at h, fun o o' x x' h => by simp at h, fun o es h => by simp at h, fun o m l h => by simp at h, fun τ n z h => by simp [Cx0] at h, fun τ n z o x h => by simp [Cx0] at h, fun τ n z τ' n' z' h => by simp [Cx0] at h⟩

section
variable {P : Program} {w : World}

def Rds (P : Program) (w : World) (t : TypeId) (φ : List D → Prop) (fuel : Nat) : Prop :=
  ∀ (H : Type) (enc : TypeId × Value → H) (cs : List Value) (d : DataW H) (ps : List MemPlace), DataW.trod enc P w 0 (fun _ => true) true fuel t cs = some (d, ps) → (∀ n ∈ d.weights P t, n ≤ reachBytes) → ∃ ds, Cells (Cx0 w) ds cs ∧ φ ds

theorem Rds.imp {t : TypeId} {φ ψ : List D → Prop} {fuel : Nat} (h : Rds P w t φ fuel) (k : ∀ ds, φ ds → ψ ds) : Rds P w t ψ fuel := fun H enc cs d ps h1 h2 => by
  obtain ⟨ds, h3, h4⟩ := h H enc cs d ps h1 h2
  exact ⟨ds, h3, k ds h4⟩

theorem Cells.one' {c : Cx} {d : D} {v : Value} (h : Rep c d v) (h1 : d.one = true) : Cells c [d] [v] :=
  ⟨rfl, by simpa using h1, fun i hi hi' => by
    have : i = 0 := by simp at hi; omega
    subst this; simpa using h⟩

theorem rds_int {t : TypeId} {k : IntKind} (ht : P.underlying t = some (.int k)) (fuel : Nat) : Rds P w t (fun ds => ∃ n, ds = [.int k n] ∧ k.min ≤ n ∧ n ≤ k.max) fuel := by
  intro H enc cs d ps h hz
  obtain ⟨n, rfl, hx, hw⟩ := DataW.trod_int ht h
  simp only [Lit.wf, Bool.and_eq_true, decide_eq_true_eq] at hw
  exact ⟨_, Cells.one' (.int k n) rfl, n, rfl, hw⟩

theorem rds_bool {t : TypeId} (ht : P.underlying t = some .bool) (fuel : Nat) : Rds P w t (fun ds => ∃ b, ds = [.bool b]) fuel := by
  intro H enc cs d ps h hz
  obtain ⟨n, rfl, hx⟩ := DataW.trod_bool ht h
  exact ⟨_, Cells.one' (.bool n) rfl, n, rfl⟩

theorem rds_string {t : TypeId} (ht : P.underlying t = some .string) (fuel : Nat) : Rds P w t (fun ds => ∃ l, ds = [.str l] ∧ l.length ≤ 2 ^ 47) fuel := by
  intro H enc cs d ps h hz
  obtain ⟨s, rfl, hx, hs⟩ := DataW.trod_string ht h
  injection hx with h1 h2
  subst h1
  have hl : s.data.toList.length ≤ reachBytes := hz _ (by simp [DataW.weights])
  have h47 := reachBytes_lt
  refine ⟨[.str s.data.toList], Cells.one' ?_ rfl, _, rfl, by omega⟩
  have := Rep.str (c := Cx0 w) s.data.toList (by omega)
  simpa using this

theorem weightsAll_mem {H : Type} {e : TypeId} : ∀ {l : List (DataW H)} {d : DataW H}, d ∈ l → ∀ n ∈ d.weights P e, n ∈ DataW.weightsAll P e l
  | [], d, h, _, _ => by simp at h
  | x :: l, d, h, n, hn => by
    simp only [DataW.weightsAll, List.mem_append]
    rcases List.mem_cons.1 h with rfl | h
    · exact .inl hn
    · exact .inr (weightsAll_mem h n hn)

theorem cells?_get {base : Nat} {a : Addr} {n : Nat} {cs : List Value} (h : w.cells? base a n = some cs) : cs.length = n ∧ ∀ i, i < n → ∃ v, cs[i]? = some v ∧ w.cell? (a.add i) = some v := by
  unfold World.cells? at h
  split at h
  · have hl := mapM_some_length h
    refine ⟨by simpa using hl, fun i hi => ?_⟩
    have := mapM_some_get h i i (by simp [hi])
    have hlt : i < cs.length := by rw [show cs.length = n by simpa using hl]; exact hi
    rw [List.getElem?_eq_getElem hlt] at this ⊢
    exact ⟨_, rfl, this⟩
  · cases h

theorem cell_spot {a : Addr} {v : Value} (h : w.cell? a = some v) : a.spot = none := by
  simp only [World.cell?] at h
  split at h
  · split at h
    · cases h
    · rename_i hs; simpa using hs
  · cases h

theorem rds_slice {t e : TypeId} {mk : List D → D} (hmk : ∀ ds, (mk ds).cells = ds) {sz : Nat} (hpos : 0 < sz) (ht : P.underlying t = some (.slice e)) (hc : P.cellsOf e = sz) (hb : 1 ≤ P.bytesOf e) {φ : List D → Prop} {fuel : Nat} (he : Rds P w e φ fuel) :
    Rds P w t (fun ds => ds = [.nils] ∨ ∃ xs : List (List D), ds = [.sl none (xs.map mk)] ∧ xs.length ≤ 2 ^ 47 ∧ ∀ x ∈ xs, φ x ∧ x.length = sz) (fuel + 1) := by
  intro H enc cs d ps h hz
  rcases DataW.trod_slice ht h with ⟨rfl, hx⟩ | ⟨a, len, cap, elems, rest, n, hf, rfl, hx, _, hlc, hcm, hel, hget, hrest, _⟩
  · exact ⟨[.nils], Cells.one' .nils rfl, .inl rfl⟩
  · injection hf with hf; subst hf
    injection hx with h1 h2
    subst h1
    have hw : (elems.map (·.1)).length + (rest.map (·.1)).length ≤ reachBytes := by
      have := hz (((elems.map (·.1)).length + (rest.map (·.1)).length) * P.bytesOf e) (by simp [DataW.weights, ht])
      exact Nat.le_trans (Nat.le_mul_of_pos_right _ hb) this
    have h47 := reachBytes_lt
    simp only [List.length_map] at hw
    -- the elements
    have key : ∀ i, i < len → ∃ vs ds, w.cells? 0 (a.add (i * sz)) sz = some vs ∧ Cells (Cx0 w) ds vs ∧ φ ds := by
      intro i hi
      have h1 := hget i hi
      have hlt : i < elems.length := by omega
      rw [List.getElem?_eq_getElem hlt, Option.bind_eq_some_iff, hc] at h1
      obtain ⟨vs, g1, g2⟩ := h1
      have hwt : ∀ m ∈ (elems[i].1).weights P e, m ≤ reachBytes := by
        intro m hm
        refine hz m ?_
        simp only [DataW.weights, ht, List.mem_cons, List.mem_append]
        exact .inr (.inl (weightsAll_mem (List.mem_map.2 ⟨elems[i], List.getElem_mem hlt, rfl⟩) m hm))
      obtain ⟨ds, g3, g4⟩ := he H enc vs elems[i].1 elems[i].2 g2 hwt
      exact ⟨vs, ds, g1, g3, g4⟩
    have hvf : ∃ vf : Nat → List Value, ∃ df : Nat → List D, ∀ i, i < len → w.cells? 0 (a.add (i * sz)) sz = some (vf i) ∧ Cells (Cx0 w) (df i) (vf i) ∧ φ (df i) := by
      refine ⟨fun i => if h : i < len then (key i h).choose else [], fun i => if h : i < len then (key i h).choose_spec.choose else [], fun i hi => ?_⟩
      simp only [hi, dif_pos]
      exact (key i hi).choose_spec.choose_spec
    obtain ⟨vf, df, hvf⟩ := hvf
    have hlen : ∀ i, i < len → (df i).length = sz := fun i hi => by
      rw [← (hvf i hi).2.1.len]; exact (cells?_get (hvf i hi).1).1
    let xs := (List.range len).map df
    refine ⟨[.sl none (xs.map mk)], ?_, .inr ⟨xs, rfl, by simp [xs]; omega, ?_⟩⟩
    · refine Cells.one' ?_ rfl
      have hxl : (xs.map mk).length = len := by simp [xs]
      have hcell : ∀ i, i < len → ∀ j, j < sz → ∃ v, (vf i)[j]? = some v ∧ w.cell? ⟨a.block, a.off + i * sz + j, none⟩ = some v ∧ a.spot = none := by
        intro i hi j hj
        obtain ⟨v, g1, g2⟩ := (cells?_get (hvf i hi).1).2 j hj
        have hsp : a.spot = none := by
          have h0 := (cells?_get (hvf i hi).1).2 0 hpos
          obtain ⟨v0, _, k2⟩ := h0
          have k3 := cell_spot k2
          obtain ⟨v00, _, k4⟩ := (cells?_get (hvf 0 (by omega)).1).2 0 hpos
          have k5 := cell_spot k4
          simpa [Addr.add] using k5
        refine ⟨v, g1, ?_, hsp⟩
        rw [← g2]
        congr 1
        unfold Addr.add
        obtain ⟨b, o, sp⟩ := a
        simp only at hsp; subst hsp
        by_cases z1 : i * sz = 0 <;> by_cases z2 : j = 0 <;> simp [z1, z2]
      have := Rep.sl (c := Cx0 w) none (xs.map mk) (some a) cap sz (fun i j => ((vf i)[j]?).getD undef) (by rw [hxl]; omega) (by rw [hxl]; omega) ?_ ?_ (fun _ => ⟨a, rfl⟩) ?_ ?_ ?_ (fun τ h => by cases h) (fun τ h => by cases h)
      · rw [hxl] at this; exact this
      · intro x hx
        simp only [xs, List.mem_map, List.mem_range] at hx
        obtain ⟨_, ⟨i, hi, rfl⟩, rfl⟩ := hx
        rw [hmk]; exact hlen i hi
      · intro x hx y hy
        simp only [xs, List.mem_map, List.mem_range] at hx
        obtain ⟨_, ⟨i, hi, rfl⟩, rfl⟩ := hx
        rw [hmk] at hy
        exact (hvf i hi).2.1.one y hy
      · intro hne b hb'
        injection hb' with hb'; subst hb'
        have h0 : 0 < len := by
          rw [← hxl]; exact List.length_pos_iff.2 hne
        obtain ⟨_, _, _, h⟩ := hcell 0 h0 0 hpos
        exact h
      · intro i hi j hj b hb'
        injection hb' with hb'; subst hb'
        rw [hxl] at hi
        obtain ⟨v, g1, g2, _⟩ := hcell i hi j hj
        simp only [g1, Option.getD_some]
        exact g2
      · intro i hi j hj
        have hi' : i < len := by rw [hxl] at hi; exact hi
        have hce : (xs.map mk)[i].cells = df i := by simp [xs, hmk]
        have hj' : j < (df i).length := by rw [← hce]; exact hj
        have hv : j < (vf i).length := by rw [(hvf i hi').2.1.len]; exact hj'
        have hr := (hvf i hi').2.1.rep j hj' hv
        have e1 : ((xs.map mk)[i].cells)[j] = (df i)[j] := by congr 1
        rw [e1]
        simpa [hv] using hr
    · intro x hx
      simp only [xs, List.mem_map, List.mem_range] at hx
      obtain ⟨i, hi, rfl⟩ := hx
      exact ⟨(hvf i hi).2.2, hlen i hi⟩

theorem rds_ptr {t e : TypeId} {sz : Nat} (hpos : 0 < sz) (ht : P.underlying t = some (.pointer e)) (hc : P.cellsOf e = sz) {φ : List D → Prop} {fuel : Nat} (he : Rds P w e φ fuel) :
    Rds P w t (fun ds => ds = [.nilp] ∨ ∃ x, ds = [.el x] ∧ φ x ∧ x.length = sz) (fuel + 1) := by
  intro H enc cs d ps h hz
  rcases DataW.trod_pointer ht h with ⟨rfl, hx⟩ | ⟨a, cs', y, n, hf, rfl, hx, hg, hy⟩
  · exact ⟨[.nilp], Cells.one' .nilp rfl, .inl rfl⟩
  · injection hf with hf; subst hf
    injection hx with h1 h2
    subst h1
    rw [hc] at hg
    obtain ⟨ds, g3, g4⟩ := he H enc cs' y.1 y.2 hy (fun m hm => hz m (by simp [DataW.weights, ht, hm]))
    obtain ⟨hl, hcell⟩ := cells?_get hg
    have hsp : a.spot = none := by
      obtain ⟨v, _, k2⟩ := hcell 0 hpos
      simpa [Addr.add] using cell_spot k2
    refine ⟨[.el ds], Cells.one' ?_ rfl, .inr ⟨ds, rfl, g4, by rw [← g3.len]; exact hl⟩⟩
    refine Rep.el (c := Cx0 w) ds a (fun i => (cs'[i]?).getD undef) hsp g3.one (fun i hi => ?_) (fun i hi => ?_)
    · have hi' : i < sz := by rw [← hl, g3.len]; exact hi
      obtain ⟨v, k1, k2⟩ := hcell i hi'
      rw [k1]
      simp only [Option.getD_some]
      rw [← k2]
      show w.cell? _ = _
      congr 1
      unfold Addr.add
      obtain ⟨b, o, sp⟩ := a
      simp only at hsp; subst hsp
      by_cases z2 : i = 0 <;> simp [z2]
    · have hi' : i < cs'.length := by rw [g3.len]; exact hi
      have := g3.rep i hi hi'
      simpa [hi'] using this

/-- A struct's fields, one behind the other. -/
def FldsOf (P : Program) : Nat → List Field → Prop
  | _, [] => True
  | off, f :: fs => f.offset = off ∧ FldsOf P (off + P.cellsOf f.type) fs

def Parts : List (List D → Prop) → List D → Prop
  | [], ds => ds = []
  | φ :: φs, ds => ∃ x y, ds = x ++ y ∧ φ x ∧ Parts φs y

theorem fields_aux {fuel : Nat} : ∀ (fs : List Field) (φs : List (List D → Prop)) (off : Nat) (H : Type) (enc : TypeId × Value → H) (cs : List Value) (xs : List (DataW H × List MemPlace)),
    FldsOf P off fs → φs.length = fs.length → (∀ (i : Nat) (f : Field) (φ : List D → Prop), fs[i]? = some f → φs[i]? = some φ → Rds P w f.type φ fuel) → xs.length = fs.length → cs.length = (fs.map fun f => P.cellsOf f.type).sum + off →
    (∀ (i : Nat) (f : Field), fs[i]? = some f → DataW.trod enc P w 0 (fun _ => true) true fuel f.type ((cs.drop f.offset).take (P.cellsOf f.type)) = xs[i]?) →
    (∀ n ∈ DataW.weightsEach P (fs.map (·.type)) (xs.map (·.1)), n ≤ reachBytes) → ∃ ds, Cells (Cx0 w) ds (cs.drop off) ∧ Parts φs ds
  | [], φs, off, H, enc, cs, xs, h1, h2, h3, h4, h5, h6, h7 => by
    have : φs = [] := by cases φs <;> simp at h2; rfl
    subst this
    refine ⟨[], ?_, rfl⟩
    have : cs.drop off = [] := by simp at h5 ⊢; omega
    rw [this]; exact ⟨rfl, by simp, fun i h => by simp at h⟩
  | f :: fs, [], _, _, _, _, _, _, h2, _, _, _, _, _ => by simp at h2
  | f :: fs, φ :: φs, off, H, enc, cs, [], _, _, _, h4, _, _, _ => by simp at h4
  | f :: fs, φ :: φs, off, H, enc, cs, x :: xs, h1, h2, h3, h4, h5, h6, h7 => by
    obtain ⟨h1a, h1b⟩ := h1
    have h60 := h6 0 f rfl
    simp only [List.getElem?_cons_zero] at h60
    obtain ⟨d1, k1, k2⟩ := h3 0 f φ rfl rfl H enc _ x.1 x.2 h60 (fun n hn => h7 n (by simp [DataW.weightsEach, hn]))
    obtain ⟨d2, k3, k4⟩ := fields_aux fs φs (off + P.cellsOf f.type) H enc cs xs h1b (by simpa using h2) (fun i f' φ' e1 e2 => h3 (i + 1) f' φ' (by simpa using e1) (by simpa using e2)) (by simpa using h4)
      (by simp at h5; omega) (fun i f' e => by simpa using h6 (i + 1) f' (by simpa using e)) (fun n hn => h7 n (by simp [DataW.weightsEach]; exact .inr (by simpa using hn)))
    refine ⟨d1 ++ d2, ?_, d1, d2, rfl, k2, k4⟩
    have := k1.append k3
    rw [h1a, ← List.drop_drop, List.take_append_drop] at this
    exact this

theorem rds_struct {t : TypeId} {fs : List Field} {φs : List (List D → Prop)} {fuel : Nat} (ht : P.underlying t = some (.struct fs.toArray)) (hl : φs.length = fs.length) (hoff : FldsOf P 0 fs) (hsum : P.cellsOf t = (fs.map fun f => P.cellsOf f.type).sum)
    (h : ∀ (i : Nat) (f : Field) (φ : List D → Prop), fs[i]? = some f → φs[i]? = some φ → Rds P w f.type φ fuel) : Rds P w t (Parts φs) (fuel + 1) := by
  intro H enc cs d ps hd hz
  obtain ⟨xs, n, hf, hx, hlen, hxl, hget⟩ := DataW.trod_struct ht hd
  injection hf with hf; subst hf
  injection hx with h1 h2
  subst h1
  obtain ⟨ds, k1, k2⟩ := fields_aux (P := P) (w := w) (fuel := fuel) fs φs 0 H enc cs xs hoff hl h (by simpa using hxl) (by rw [hlen, hsum]; rfl) (fun i f e => hget i f (by simpa using e)) (fun n hn => hz n (by simp [DataW.weights, ht]; exact hn))
  exact ⟨ds, by simpa using k1, k2⟩
end
end GP
