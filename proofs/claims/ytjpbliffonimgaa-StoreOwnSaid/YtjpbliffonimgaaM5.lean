import Derived.ChangeArms
import Derived.ChangeReads
import Derived.ChangeSame
import Derived.OpenShut
import Derived.ProofKit
import Derived.ReadAgain
import Derived.RowKit
import Derived.SizedLaws
import Derived.WideShapes
import Derived.Test.YtjpbliffonimgaaM4
set_option linter.unusedSimpArgs false
set_option linter.unnecessarySimpa false
set_option linter.unusedSectionVars false
namespace GP
open Go
def Cx0 (w : World) : Cx := { M := w.cell?, β := fun _ => 0, κ := fun _ => (⟨0, 0, none⟩, 0), bd := fun _ => false, T := [], bb := (false, w.heap.size), sz := fun _ => 0 }
theorem inv0 (w : World) : Inv (Cx0 w) w [] :=
  ⟨fun _ _ h => h, Nat.le_refl _, fun o x cs h => by simp at h, fun _ _ => rfl, fun o x h => by simp at h, fun o o' x x' h => by simp at h, fun o es clk h => by simp at h, fun o m sn se la h => by simp at h, fun τ n z h => by simp [Cx0] at h, fun τ n z o x h => by simp [Cx0] at h, fun τ n z τ' n' z' h => by simp [Cx0] at h⟩
section
variable {P : Program} {w : World}
def Rds (P : Program) (w : World) (t : TypeId) (φ : List D → Prop) (fuel : Nat) : Prop :=
  ∀ (H : Type) (enc : TypeId × Value → H) (cs : List Value) (d : DataW H) (ps : List MemPlace), DataW.trod enc P w 0 (fun _ => true) true fuel t cs = some (d, ps) → (∀ n ∈ d.weights P t, n ≤ reachBytes) → ∃ ds, Cells (Cx0 w) ds cs ∧ φ ds
theorem Rds.imp {t : TypeId} {φ ψ : List D → Prop} {fuel : Nat} (h : Rds P w t φ fuel) (k : ∀ ds, φ ds → ψ ds) : Rds P w t ψ fuel := fun H enc cs d ps h1 h2 => by
  obtain ⟨ds, h3, h4⟩ := h H enc cs d ps h1 h2
  exact ⟨ds, h3, k ds h4⟩
theorem Cells.one' {c : Cx} {d : D} {v : Value} (h : Rep c d v) (h1 : d.one = true) : Cells c [d] [v] :=
  ⟨rfl, by simpa using h1, fun i hi hi' => by
    have : i = 0 := by simp at hi; omega
    subst this; simpa using h⟩
theorem rds_int {t : TypeId} {k : IntKind} (ht : P.underlying t = some (.int k)) (fuel : Nat) : Rds P w t (fun ds => ∃ n, ds = [.int k n] ∧ k.min ≤ n ∧ n ≤ k.max) fuel := by
  intro H enc cs d ps h hz
  obtain ⟨n, rfl, hx, hw⟩ := DataW.trod_int ht h
  simp only [Lit.wf, Bool.and_eq_true, decide_eq_true_eq] at hw
  exact ⟨_, Cells.one' (.int k n) rfl, n, rfl, hw⟩
theorem rds_bool {t : TypeId} (ht : P.underlying t = some .bool) (fuel : Nat) : Rds P w t (fun ds => ∃ b, ds = [.bool b]) fuel := by
  intro H enc cs d ps h hz
  obtain ⟨n, rfl, hx⟩ := DataW.trod_bool ht h
  exact ⟨_, Cells.one' (.bool n) rfl, n, rfl⟩
theorem rds_string {t : TypeId} (ht : P.underlying t = some .string) (fuel : Nat) : Rds P w t (fun ds => ∃ l, ds = [.str l] ∧ l.length ≤ 2 ^ 47) fuel := by
  intro H enc cs d ps h hz
  obtain ⟨s, rfl, hx, hs⟩ := DataW.trod_string ht h
  injection hx with h1 h2
  subst h1
  have hl : s.data.toList.length ≤ reachBytes := hz _ (by simp [DataW.weights])
  have h47 := reachBytes_lt
  refine ⟨[.str s.data.toList], Cells.one' ?_ rfl, _, rfl, by omega⟩
  have := Rep.str (c := Cx0 w) s.data.toList (by omega)
  simpa using this
theorem weightsAll_mem {H : Type} {e : TypeId} : ∀ {l : List (DataW H)} {d : DataW H}, d ∈ l → ∀ n ∈ d.weights P e, n ∈ DataW.weightsAll P e l
  | [], d, h, _, _ => by simp at h
  | x :: l, d, h, n, hn => by
    simp only [DataW.weightsAll, List.mem_append]
    rcases List.mem_cons.1 h with rfl | h
    · exact .inl hn
    · exact .inr (weightsAll_mem h n hn)
theorem cells?_get {base : Nat} {a : Addr} {n : Nat} {cs : List Value} (h : w.cells? base a n = some cs) : cs.length = n ∧ ∀ i, i < n → ∃ v, cs[i]? = some v ∧ w.cell? (a.add i) = some v := by
  unfold World.cells? at h
  split at h
  · have hl := mapM_some_length h
    refine ⟨by simpa using hl, fun i hi => ?_⟩
    have := mapM_some_get h i i (by simp [hi])
    have hlt : i < cs.length := by rw [show cs.length = n by simpa using hl]; exact hi
    rw [List.getElem?_eq_getElem hlt] at this ⊢
    exact ⟨_, rfl, this⟩
  · cases h
theorem cell_spot {a : Addr} {v : Value} (h : w.cell? a = some v) : a.spot = none := by
  simp only [World.cell?] at h
  split at h
  · split at h
    · cases h
    · rename_i hs; simpa using hs
  · cases h
theorem rds_slice {t e : TypeId} {mk : List D → D} (hmk : ∀ ds, (mk ds).cells = ds) {sz : Nat} (hpos : 0 < sz) (ht : P.underlying t = some (.slice e)) (hc : P.cellsOf e = sz) (hb : 1 ≤ P.bytesOf e) {φ : List D → Prop} {fuel : Nat} (he : Rds P w e φ fuel) :
    Rds P w t (fun ds => ds = [.nils] ∨ ∃ xs : List (List D), ds = [.sl none (xs.map mk)] ∧ xs.length ≤ 2 ^ 47 ∧ ∀ x ∈ xs, φ x ∧ x.length = sz) (fuel + 1) := by
  intro H enc cs d ps h hz
  rcases DataW.trod_slice ht h with ⟨rfl, hx⟩ | ⟨a, len, cap, elems, rest, n, hf, rfl, hx, _, hlc, hcm, hel, hget, hrest, _⟩
  · exact ⟨[.nils], Cells.one' .nils rfl, .inl rfl⟩
  · injection hf with hf; subst hf
    injection hx with h1 h2
    subst h1
    have hw : (elems.map (·.1)).length + (rest.map (·.1)).length ≤ reachBytes := by
      have := hz (((elems.map (·.1)).length + (rest.map (·.1)).length) * P.bytesOf e) (by simp [DataW.weights, ht])
      exact Nat.le_trans (Nat.le_mul_of_pos_right _ hb) this
    have h47 := reachBytes_lt
    simp only [List.length_map] at hw
    -- the elements
    have key : ∀ i, i < len → ∃ vs ds, w.cells? 0 (a.add (i * sz)) sz = some vs ∧ Cells (Cx0 w) ds vs ∧ φ ds := by
      intro i hi
      have h1 := hget i hi
      have hlt : i < elems.length := by omega
      rw [List.getElem?_eq_getElem hlt, Option.bind_eq_some_iff, hc] at h1
      obtain ⟨vs, g1, g2⟩ := h1
      have hwt : ∀ m ∈ (elems[i].1).weights P e, m ≤ reachBytes := by
        intro m hm
        refine hz m ?_
        simp only [DataW.weights, ht, List.mem_cons, List.mem_append]
        exact .inr (.inl (weightsAll_mem (List.mem_map.2 ⟨elems[i], List.getElem_mem hlt, rfl⟩) m hm))
      obtain ⟨ds, g3, g4⟩ := he H enc vs elems[i].1 elems[i].2 g2 hwt
      exact ⟨vs, ds, g1, g3, g4⟩
    have hvf : ∃ vf : Nat → List Value, ∃ df : Nat → List D, ∀ i, i < len → w.cells? 0 (a.add (i * sz)) sz = some (vf i) ∧ Cells (Cx0 w) (df i) (vf i) ∧ φ (df i) := by
      refine ⟨fun i => if h : i < len then (key i h).choose else [], fun i => if h : i < len then (key i h).choose_spec.choose else [], fun i hi => ?_⟩
      simp only [hi, dif_pos]
      exact (key i hi).choose_spec.choose_spec
    obtain ⟨vf, df, hvf⟩ := hvf
    have hlen : ∀ i, i < len → (df i).length = sz := fun i hi => by
      rw [← (hvf i hi).2.1.len]; exact (cells?_get (hvf i hi).1).1
    let xs := (List.range len).map df
    refine ⟨[.sl none (xs.map mk)], ?_, .inr ⟨xs, rfl, by simp [xs]; omega, ?_⟩⟩
    · refine Cells.one' ?_ rfl
      have hxl : (xs.map mk).length = len := by simp [xs]
      have hcell : ∀ i, i < len → ∀ j, j < sz → ∃ v, (vf i)[j]? = some v ∧ w.cell? ⟨a.block, a.off + i * sz + j, none⟩ = some v ∧ a.spot = none := by
        intro i hi j hj
        obtain ⟨v, g1, g2⟩ := (cells?_get (hvf i hi).1).2 j hj
        have hsp : a.spot = none := by
          have h0 := (cells?_get (hvf i hi).1).2 0 hpos
          obtain ⟨v0, _, k2⟩ := h0
          have k3 := cell_spot k2
          obtain ⟨v00, _, k4⟩ := (cells?_get (hvf 0 (by omega)).1).2 0 hpos
          have k5 := cell_spot k4
          simpa [Addr.add] using k5
        refine ⟨v, g1, ?_, hsp⟩
        rw [← g2]
        congr 1
        unfold Addr.add
        obtain ⟨b, o, sp⟩ := a
        simp only at hsp; subst hsp
        by_cases z1 : i * sz = 0 <;> by_cases z2 : j = 0 <;> simp [z1, z2]
      have := Rep.sl (c := Cx0 w) none (xs.map mk) (some a) cap sz (fun i j => ((vf i)[j]?).getD undef) (by rw [hxl]; omega) (by rw [hxl]; omega) ?_ ?_ (fun _ => ⟨a, rfl⟩) ?_ ?_ ?_ (fun τ h => by cases h) (fun τ h => by cases h)
      · rw [hxl] at this; exact this
      · intro x hx
        simp only [xs, List.mem_map, List.mem_range] at hx
        obtain ⟨_, ⟨i, hi, rfl⟩, rfl⟩ := hx
        rw [hmk]; exact hlen i hi
      · intro x hx y hy
        simp only [xs, List.mem_map, List.mem_range] at hx
        obtain ⟨_, ⟨i, hi, rfl⟩, rfl⟩ := hx
        rw [hmk] at hy
        exact (hvf i hi).2.1.one y hy
      · intro hne b hb'
        injection hb' with hb'; subst hb'
        have h0 : 0 < len := by
          rw [← hxl]; exact List.length_pos_iff.2 hne
        obtain ⟨_, _, _, h⟩ := hcell 0 h0 0 hpos
        exact h
      · intro i hi j hj b hb'
        injection hb' with hb'; subst hb'
        rw [hxl] at hi
        obtain ⟨v, g1, g2, _⟩ := hcell i hi j hj
        simp only [g1, Option.getD_some]
        exact g2
      · intro i hi j hj
        have hi' : i < len := by rw [hxl] at hi; exact hi
        have hce : (xs.map mk)[i].cells = df i := by simp [xs, hmk]
        have hj' : j < (df i).length := by rw [← hce]; exact hj
        have hv : j < (vf i).length := by rw [(hvf i hi').2.1.len]; exact hj'
        have hr := (hvf i hi').2.1.rep j hj' hv
        have e1 : ((xs.map mk)[i].cells)[j] = (df i)[j] := by congr 1
        rw [e1]
        simpa [hv] using hr
    · intro x hx
      simp only [xs, List.mem_map, List.mem_range] at hx
      obtain ⟨i, hi, rfl⟩ := hx
      exact ⟨(hvf i hi).2.2, hlen i hi⟩
def FldsOf (P : Program) : Nat → List Field → Prop
  | _, [] => True
  | off, f :: fs => f.offset = off ∧ FldsOf P (off + P.cellsOf f.type) fs
def Parts : List (List D → Prop) → List D → Prop
  | [], ds => ds = []
  | φ :: φs, ds => ∃ x y, ds = x ++ y ∧ φ x ∧ Parts φs y
theorem fields_aux {fuel : Nat} : ∀ (fs : List Field) (φs : List (List D → Prop)) (off : Nat) (H : Type) (enc : TypeId × Value → H) (cs : List Value) (xs : List (DataW H × List MemPlace)),
    FldsOf P off fs → φs.length = fs.length → (∀ (i : Nat) (f : Field) (φ : List D → Prop), fs[i]? = some f → φs[i]? = some φ → Rds P w f.type φ fuel) → xs.length = fs.length → cs.length = (fs.map fun f => P.cellsOf f.type).sum + off →
    (∀ (i : Nat) (f : Field), fs[i]? = some f → DataW.trod enc P w 0 (fun _ => true) true fuel f.type ((cs.drop f.offset).take (P.cellsOf f.type)) = xs[i]?) →
    (∀ n ∈ DataW.weightsEach P (fs.map (·.type)) (xs.map (·.1)), n ≤ reachBytes) → ∃ ds, Cells (Cx0 w) ds (cs.drop off) ∧ Parts φs ds
  | [], φs, off, H, enc, cs, xs, h1, h2, h3, h4, h5, h6, h7 => by
    have : φs = [] := by cases φs <;> simp at h2; rfl
    subst this
    refine ⟨[], ?_, rfl⟩
    have : cs.drop off = [] := by simp at h5 ⊢; omega
    rw [this]; exact ⟨rfl, by simp, fun i h => by simp at h⟩
  | f :: fs, [], _, _, _, _, _, _, h2, _, _, _, _, _ => by simp at h2
  | f :: fs, φ :: φs, off, H, enc, cs, [], _, _, _, h4, _, _, _ => by simp at h4
  | f :: fs, φ :: φs, off, H, enc, cs, x :: xs, h1, h2, h3, h4, h5, h6, h7 => by
    obtain ⟨h1a, h1b⟩ := h1
    have h60 := h6 0 f rfl
    simp only [List.getElem?_cons_zero] at h60
    obtain ⟨d1, k1, k2⟩ := h3 0 f φ rfl rfl H enc _ x.1 x.2 h60 (fun n hn => h7 n (by simp [DataW.weightsEach, hn]))
    obtain ⟨d2, k3, k4⟩ := fields_aux fs φs (off + P.cellsOf f.type) H enc cs xs h1b (by simpa using h2) (fun i f' φ' e1 e2 => h3 (i + 1) f' φ' (by simpa using e1) (by simpa using e2)) (by simpa using h4)
      (by simp at h5; omega) (fun i f' e => by simpa using h6 (i + 1) f' (by simpa using e)) (fun n hn => h7 n (by simp [DataW.weightsEach]; exact .inr (by simpa using hn)))
    refine ⟨d1 ++ d2, ?_, d1, d2, rfl, k2, k4⟩
    have := k1.append k3
    rw [h1a, ← List.drop_drop, List.take_append_drop] at this
    exact this
theorem rds_struct {t : TypeId} {fs : List Field} {φs : List (List D → Prop)} {fuel : Nat} (ht : P.underlying t = some (.struct fs.toArray)) (hl : φs.length = fs.length) (hoff : FldsOf P 0 fs) (hsum : P.cellsOf t = (fs.map fun f => P.cellsOf f.type).sum)
    (h : ∀ (i : Nat) (f : Field) (φ : List D → Prop), fs[i]? = some f → φs[i]? = some φ → Rds P w f.type φ fuel) : Rds P w t (Parts φs) (fuel + 1) := by
  intro H enc cs d ps hd hz
  obtain ⟨xs, n, hf, hx, hlen, hxl, hget⟩ := DataW.trod_struct ht hd
  injection hf with hf; subst hf
  injection hx with h1 h2
  subst h1
  obtain ⟨ds, k1, k2⟩ := fields_aux (P := P) (w := w) (fuel := fuel) fs φs 0 H enc cs xs hoff hl h (by simpa using hxl) (by rw [hlen, hsum]; rfl) (fun i f e => hget i f (by simpa using e)) (fun n hn => hz n (by simp [DataW.weights, ht]; exact hn))
  exact ⟨ds, by simpa using k1, k2⟩
end
end GP
namespace GP
open Go
open Go.ChangeShapes Go.WideShapes Go.ChangeAt Go.RowKit
section
variable {P : Program} {w : World}
def Arg (P : Program) (w : World) (t : TypeId) (Φ : D → Prop) : Prop :=
  ∀ (H : Type) (enc : TypeId × Value → H) (v : Value) (d : DataW H) (ps : List MemPlace) (base : Nat), DataW.Trod enc P w 0 (fun _ => true) true t v d ps → (∀ n ∈ d.weights P t, n ≤ reachBytes) → Value.okWide P w .any base t v → ∃ x, Rep (Cx0 w) x v ∧ Φ x
theorem arg_struct {t : TypeId} {fs : Array Field} {φ : List D → Prop} (ht : P.underlying t = some (.struct fs)) (h : ∀ fuel, Rds P w t φ fuel) : Arg P w t (fun x => ∃ ds, x = .agg ds ∧ φ ds) := by
  intro H enc v d ps base hd hz hok
  simp only [Value.okWide, ht] at hok
  obtain ⟨cs, rfl, _, _⟩ := hok
  obtain ⟨fuel, hf⟩ := hd
  obtain ⟨ds, k1, k2⟩ := h fuel H enc _ d ps hf hz
  refine ⟨.agg ds, ?_, ds, rfl, k2⟩
  have := Rep.agg (c := Cx0 w) ds cs.toList k1.len k1.one k1.rep
  simpa using this
def oneDesc : TypeDesc → Bool
  | .int _ | .bool | .string | .slice _ | .pointer _ => true
  | _ => false
theorem arg_one {t : TypeId} {u : TypeDesc} {φ : List D → Prop} (ht : P.underlying t = some u) (hu : oneDesc u = true) (h : ∀ fuel, Rds P w t φ fuel) : Arg P w t (fun x => φ [x]) := by
  intro H enc v d ps base hd hz hok
  obtain ⟨fuel, hf⟩ := hd
  obtain ⟨ds, k1, k2⟩ := h fuel H enc _ d ps hf hz
  have hc : v.cells = #[v] := by
    cases v with
    | agg cs => cases u <;> simp [oneDesc] at hu <;> simp [Value.okWide, ht, Cell.okWide, Cell.ok] at hok
    | _ => rfl
  rw [hc] at k1
  match ds, k1.len with
  | [x], _ => exact ⟨x, by simpa using k1.rep 0 (by simp) (by simp), k2⟩
inductive Args (P : Program) (w : World) : List TypeId → (List D → Prop) → Prop where
  | nil : Args P w [] (fun l => l = [])
  | cons {t : TypeId} {ts : List TypeId} {Φ : D → Prop} {Ψ : List D → Prop} : Arg P w t Φ → Args P w ts Ψ → Args P w (t :: ts) (fun l => ∃ x xs, l = x :: xs ∧ Φ x ∧ Ψ xs)
theorem args_read {H : Type} {enc : TypeId × Value → H} : ∀ {ts : List TypeId} {Ψ : List D → Prop} {vs : List Value} {ds : List (DataW H)} {ps : List MemPlace}, Args P w ts Ψ → DataW.TrodAll enc P w 0 (fun _ => true) true ts vs ds ps →
    (∀ n ∈ DataW.weightsEach P ts ds, n ≤ reachBytes) → (∀ (j : Nat) t v, ts[j]? = some t → vs[j]? = some v → ∃ base, Value.okWide P w .any base t v) → ∃ xs, Reps (Cx0 w) xs vs ∧ Ψ xs
  | [], Ψ, vs, ds, ps, h, hd, _, _ => by
    obtain ⟨rfl, rfl, rfl⟩ := trodAll_nil hd
    cases h
    exact ⟨[], Reps.nil, rfl⟩
  | t :: ts, Ψ, vs, ds, ps, h, hd, hz, hok => by
    obtain ⟨v, vs', d, ds', p, q, rfl, rfl, rfl, h1, h2⟩ := trodAll_cons hd
    cases h with
    | cons ha hr =>
      obtain ⟨base, hb⟩ := hok 0 t v rfl rfl
      obtain ⟨x, k1, k2⟩ := ha H enc v d p base h1 (fun n hn => hz n (by simp [DataW.weightsEach, hn])) hb
      obtain ⟨xs, k3, k4⟩ := args_read hr h2 (fun n hn => hz n (by simp [DataW.weightsEach, hn])) (fun j t v e1 e2 => hok (j + 1) t v (by simpa using e1) (by simpa using e2))
      have := Reps.append (d1 := [x]) (v1 := [v]) ⟨rfl, fun i h h' => by
        have : i = 0 := by simp at h; omega
        subst this; simpa using k1⟩ k3
      exact ⟨x :: xs, by simpa using this, x, xs, rfl, k2, k4⟩
theorem trodAll_carry {H : Type} {enc : TypeId × Value → H} {w' : World} {sp : Nat → Bool} : ∀ {ts : List TypeId} {vs : List Value} {ds : List (DataW H)} {ps : List MemPlace}, DataW.TrodAll enc P w 0 sp true ts vs ds ps → (∀ p ∈ ps, w.sameAt w' p) → DataW.TrodAll enc P w' 0 sp true ts vs ds ps
  | [], [], [], ps, h, _ => h
  | t :: ts, v :: vs, d :: ds, ps, ⟨p, q, ⟨n, h1⟩, h2, e⟩, hs => ⟨p, q, ⟨n, DataW.trod_carry n _ _ _ h1 (fun x hx => hs x (by rw [e]; exact List.mem_append_left _ hx))⟩, trodAll_carry h2 (fun x hx => hs x (by rw [e]; exact List.mem_append_right _ hx)), e⟩
end
theorem trodAll_len {H : Type} {enc : TypeId × Value → H} {P : Program} {w : World} {sp : Nat → Bool} : ∀ {ts : List TypeId} {vs : List Value} {ds : List (DataW H)} {ps : List MemPlace}, DataW.TrodAll enc P w 0 sp true ts vs ds ps → vs.length = ts.length
  | [], [], [], _, _ => rfl
  | _ :: _, _ :: _, _ :: _, _, ⟨_, _, _, h, _⟩ => by simp [trodAll_len h]
theorem trodAll_len2 {H : Type} {enc : TypeId × Value → H} {P : Program} {w : World} {sp : Nat → Bool} : ∀ {ts : List TypeId} {vs : List Value} {ds : List (DataW H)} {ps : List MemPlace}, DataW.TrodAll enc P w 0 sp true ts vs ds ps → ds.length = ts.length
  | [], [], [], _, _ => rfl
  | _ :: _, _ :: _, _ :: _, _, ⟨_, _, _, h, _⟩ => by simp [trodAll_len2 h]
theorem post_same {H : Type} {enc : TypeId × Value → H} {P : Program} {f : Func} {s : ChangeSpec} {apart fresh handsOn again : Bool} {W W' : World} {args : Array Value} {v : Value} {ds gs : List (DataW H)} {before pa pv : List MemPlace}
    (hW : DataW.Whole enc P f.params.toList s.vars apart W args.toList ds gs before)
    (hres : ∀ (b : Nat) (sp : Nat → Bool) (hd : Bool), DataW.TrodAll enc P W' b sp hd f.resultTypes.toList (v.resultList f.resultTypes.size) (s.fn H (ds ++ gs)).results [])
    (hargs : ∀ sp : Nat → Bool, (∀ p ∈ before, sp p.block = true) → DataW.TrodAll enc P W' 0 sp true f.params.toList args.toList (s.fn H (ds ++ gs)).args pa)
    (hvars : ∀ sp : Nat → Bool, (∀ p ∈ before, sp p.block = true) → DataW.TrodVars enc P W' sp s.vars (s.fn H (ds ++ gs)).vars pv)
    (hps : before = pa ++ pv) (hk : W.keptBut W' (· ∈ before)) (hfz : ∀ a : Addr, a.block < W.heap.size → W'.frozen? a = W.frozen? a)
    (hok : ∀ (j : Nat) (t : TypeId) (r : Value), f.resultTypes[j]? = some t → (v.resultList f.resultTypes.size)[j]? = some r → Value.okWide P W' .any 0 t r) :
    s.post enc P f apart fresh handsOn again W args v W' := by
  have hlt := hW.lt
  have hold : ∀ p ∈ before, (fun b => decide (b < W.heap.size)) p.block = true := fun p hp => by simpa using hlt p hp
  refine ⟨ds, gs, before, [], pa, pv, hW, hres _ _ _, hargs _ hold, hvars _ hold, World.keptBut_mono (fun p hp => ⟨hp, ?_⟩) hk, fun _ => ?_⟩
  · rw [hps, List.mem_append] at hp
    exact Or.inr hp
  · obtain ⟨_, _, _, _, _, hz, hn⟩ := hW
    refine ⟨hok, _, _, ([] ++ pa) ++ pv, ⟨[] ++ pa, pv, trodAll_append (hargs _ (fun _ _ => rfl)) (hres _ _ _), hvars _ (fun _ _ => rfl), rfl, ?_, ?_⟩, ?_⟩
    · intro b off hp
      have hp' : MemPlace.cell b off ∈ before := by rw [hps]; simpa using hp
      rw [hfz ⟨b, off, none⟩ (hlt _ hp')]
      exact hz b off hp'
    · intro ha
      have := hn ha
      rw [hps] at this
      simpa using this
    · intro p hp _
      rw [hps]
      simpa using hp
theorem bool_of_rep {c : Cx} {v : Value} (h : Rep c (.bool true) v) : v = .bool true := by cases h; rfl
theorem law_contract {H : Type} {enc : TypeId × Value → H} {P : Program} [HasG P] {f : FuncId} {fn : Func} {s : ChangeSpec} {apart : Bool} {W : World} {base : Nat} {args : Array Value} {ds gs : List (DataW H)} {before : List MemPlace} {Ψ : List D → Prop} {tb : TypeId} {n : Nat} {rs : List (Sum Nat (Nat × Bool × Nat))} {cc : C}
    (laid : laidOutB P = true) (rows : mapsRowed P = true) (full : ((List.range P.types.size).all fun t => match P.underlying t with | some (.slice e) => decide (0 < P.cellsOf e) | _ => true) = true)
    (hts : ∀ t ∈ fn.params.toList, t < P.types.size) (hvars : s.vars = []) (hres : fn.resultTypes = #[tb]) (hb : P.underlying tb = some .bool)
    (hval : ∀ (j : Nat) t v, fn.params[j]? = some t → args[j]? = some v → Value.okWide P W .any base t v)
    (hW : DataW.Whole enc P fn.params.toList s.vars apart W args.toList ds gs before)
    (hsz : (DataW.weightsEach P (fn.params.toList ++ s.plain.varTypes P) (ds ++ gs)).all (· ≤ reachBytes) = true)
    (hspec : ∀ l : List (DataW H), l.length = fn.params.toList.length → s.fn H l = { results := [.lit (.bool true)], args := l })
    (hA : Args P W fn.params.toList Ψ) (hf : Fn P f n rs cc) (hlen : fn.params.size ≤ n)
    (hG : HasG.G P (Cx0 W) W) (hS : ∀ xs, Ψ xs → GP.W (Snd P) cc (endQ rs (fun r _ _ => r = .bool true)) ⟨argT xs, [], []⟩) :
    Calls P f args W fun e W' => ∃ v, e = .returned v ∧ s.post enc P fn apart true false false W args v W' := by
  have hW' := hW
  obtain ⟨p, q, hA0, hV, hpq, hfz, hnd⟩ := hW
  rw [hvars] at hV
  obtain ⟨rfl, rfl⟩ := trodVars_none hV
  simp only [List.append_nil] at hpq
  subst hpq
  have hplain : s.plain.varTypes P = [] := by simp [ChangeSpec.plain, DataSpec.varTypes, hvars]
  rw [hplain] at hsz
  simp only [List.append_nil] at hsz
  obtain ⟨xs, k1, k2⟩ := args_read hA hA0 (fun n hn => by simpa using List.all_eq_true.1 hsz n hn) (fun j t v e1 e2 => ⟨base, hval j t v (by simpa using e1) (by simpa using e2)⟩)
  have hdl : ∀ {ts : List TypeId} {vs : List Value} {ds : List (DataW H)} {ps : List MemPlace}, DataW.TrodAll enc P W 0 (fun _ => true) true ts vs ds ps → ds.length = ts.length := trodAll_len2
  have hspec := hspec (ds ++ []) (by rw [List.append_nil]; exact hdl hA0)
  simp only [List.append_nil] at hspec
  have hl := k1.len
  have hl2 := trodAll_len hA0
  have hc := (call_body hf (args := xs) (by rw [← hl, hl2]; simpa using hlen) (hS xs k2) (Cx0 W) W args.toList hG (inv0 W) rfl k1).2
  rw [show args.toList.toArray = args by simp] at hc
  refine hc.mono ?_
  rintro e W' ⟨v, rfl, r, H', T', c', hr, hrep, _, _, _, hbel⟩
  subst hr
  have := bool_of_rep hrep
  subst this
  have hbel : RowKit.Below W.heap.size W W' := hbel.kit
  have hlt : ∀ x ∈ before, x.block < W.heap.size := hA0.lt
  have hread := trodAll_carry (w' := W') hA0 (fun x hx => hbel.same (hlt x hx))
  have K := kids_rows laid rows
  refine ⟨_, rfl, post_same (pa := before) (pv := []) hW' (fun _ _ _ => ?_) (fun sp hsp => ?_) (fun _ _ => ?_) (by simp) (hbel.frame _) ?_ ?_⟩
  · rw [List.append_nil, hspec, hres]
    exact trodAll_cons_mk (shut_bool hb _) trodAll_mk0
  · rw [List.append_nil, hspec]
    exact DataW.TrodAll.respare K (slices_full_of P full) hts hread (fun x hx => hsp x (by simpa using hx))
  · rw [List.append_nil, hspec, hvars]; rfl
  · intro a ha
    exact hbel.frozen ha
  · exact ok_one hres rfl (okWide_bool_mk hb _)
end GP
namespace GP
open Go
theorem eraseL_len : ∀ (l : List D), (D.eraseL l).length = l.length
  | [] => by simp [D.eraseL]
  | d :: l => by simp [D.eraseL, eraseL_len l]
theorem eraseL_get : ∀ (l : List D) (i : Nat) (h : i < l.length) (h' : i < (D.eraseL l).length), (D.eraseL l)[i] = (l[i]).erase
  | d :: l, 0, h, h' => by simp [D.eraseL]
  | d :: l, i + 1, h, h' => by
    simp only [D.eraseL, List.getElem_cons_succ]
    exact eraseL_get l i _ _
theorem eraseL_map (l : List D) : D.eraseL l = l.map D.erase := by
  induction l with
  | nil => simp [D.eraseL]
  | cons d l ih => simp [D.eraseL, ih]
theorem erase_one (d : D) : d.erase.one = d.one := by cases d <;> simp [D.erase, D.one]
theorem erase_cells (d : D) : d.erase.cells = D.eraseL d.cells := by cases d <;> simp [D.erase, D.cells, D.eraseL]
theorem Rep.erase {c : Cx} {d : D} {v : Value} (h : Rep c d v) : Rep c d.erase v := by
  induction h with
  | bool b => simpa [D.erase] using Rep.bool b
  | int k n => simpa [D.erase] using Rep.int k n
  | str l h => simpa [D.erase] using Rep.str l h
  | nilp => simpa [D.erase] using Rep.nilp
  | ptr o off h => simpa [D.erase] using Rep.ptr o off h
  | el cs a vs ha h1 hM _ ih =>
    simp only [D.erase]
    refine Rep.el _ a vs ha ?_ (fun i hi => hM i (by simpa [eraseL_len] using hi)) (fun i hi => ?_)
    · intro d hd
      rw [eraseL_map] at hd
      obtain ⟨x, hx, rfl⟩ := List.mem_map.1 hd
      rw [erase_one]; exact h1 x hx
    · have hi' : i < cs.length := by simpa [eraseL_len] using hi
      rw [eraseL_get cs i hi']
      exact ih i hi'
  | nils => simpa [D.erase] using Rep.nils
  | ms ag z o off len cap rc h h1 h2 h3 => simpa [D.erase] using Rep.ms ag z o off len cap rc h h1 h2 h3
  | e0 a =>
    simp only [D.erase]
    exact Rep.sl none [] a 0 0 (fun _ _ => undef) (by simp) (by simp) (by simp) (by simp) (by simp) (by simp) (by simp) (by simp) (by simp) (by simp)
  | sl t xs a cap sz vs hlen hb hsz h1 ha hs hM _ htl ht ih =>
    simp only [D.erase]
    have hl := eraseL_len xs
    rw [← hl]
    refine Rep.sl none (D.eraseL xs) a cap sz vs (by omega) (by omega) ?_ ?_ ?_ ?_ ?_ ?_ (fun τ h => by cases h) (fun τ h => by cases h)
    · intro x hx
      rw [eraseL_map] at hx
      obtain ⟨y, hy, rfl⟩ := List.mem_map.1 hx
      rw [erase_cells, eraseL_len]; exact hsz y hy
    · intro x hx y hy
      rw [eraseL_map] at hx
      obtain ⟨z, hz, rfl⟩ := List.mem_map.1 hx
      rw [erase_cells, eraseL_map] at hy
      obtain ⟨u, hu, rfl⟩ := List.mem_map.1 hy
      rw [erase_one]; exact h1 z hz u hu
    · intro hne
      exact ha (by intro e; subst e; exact hne (by simp [D.eraseL]))
    · intro hne
      exact hs (by intro e; subst e; exact hne (by simp [D.eraseL]))
    · intro i hi j hj b hb
      exact hM i (by omega) j hj b hb
    · intro i hi j hj
      have hi' : i < xs.length := by omega
      have e1 : (D.eraseL xs)[i].cells = D.eraseL (xs[i].cells) := by rw [eraseL_get xs i hi', erase_cells]
      have hj' : j < (xs[i].cells).length := by rw [e1, eraseL_len] at hj; exact hj
      have e2 : ((D.eraseL xs)[i].cells)[j] = ((xs[i].cells)[j]).erase := by
        have := eraseL_get (xs[i].cells) j hj' (by rw [eraseL_len]; exact hj')
        rw [← this]; congr 1
      rw [e2]
      exact ih i hi' j hj'
  | fn f p q vp vq hp hq _ _ ih1 ih2 =>
    simp only [D.erase]
    refine Rep.fn f _ _ vp vq (by rw [eraseL_len]; exact hp) (by rw [eraseL_len]; exact hq) (fun i h h' => ?_) (fun i h h' => ?_)
    · have hi : i < p.length := by rw [eraseL_len] at h; exact h
      rw [eraseL_get p i hi]; exact ih1 i hi h'
    · have hi : i < q.length := by rw [eraseL_len] at h; exact h
      rw [eraseL_get q i hi]; exact ih2 i hi h'
  | nilf => simpa [D.erase] using Rep.nilf
  | mp o h => simpa [D.erase] using Rep.mp o h
  | nilm => simpa [D.erase] using Rep.nilm
  | nili => simpa [D.erase] using Rep.nili
  | ifc t d v _ ih => simp only [D.erase]; exact Rep.ifc t _ v ih
  | agg cs vs hl h1 _ ih =>
    simp only [D.erase]
    refine Rep.agg _ vs (by rw [eraseL_len]; exact hl) ?_ (fun i h h' => ?_)
    · intro d hd
      rw [eraseL_map] at hd
      obtain ⟨x, hx, rfl⟩ := List.mem_map.1 hd
      rw [erase_one]; exact h1 x hx
    · have hi : i < cs.length := by rw [eraseL_len] at h; exact h
      rw [eraseL_get cs i hi]; exact ih i hi h'
  | tup cs vs hl _ ih =>
    simp only [D.erase]
    refine Rep.tup _ vs (by rw [eraseL_len]; exact hl) (fun i h h' => ?_)
    have hi : i < cs.length := by rw [eraseL_len] at h; exact h
    rw [eraseL_get cs i hi]; exact ih i hi h'
  | top v => simpa [D.erase] using Rep.top v
theorem Reps.erase {c : Cx} {ds : List D} {vs : List Value} (h : Reps c ds vs) : Reps c (D.eraseL ds) vs :=
  ⟨by rw [eraseL_len]; exact h.len, fun i hi hi' => by
    have hi2 : i < ds.length := by rw [eraseL_len] at hi; exact hi
    rw [eraseL_get ds i hi2]; exact (h.rep i hi2 hi').erase⟩
mutual
def D.cl (n m : Nat) : D → Bool
  | .sl t xs => (match t with | none => true | some τ => decide (τ < m)) && D.clL n m xs
  | .el cs => D.clL n m cs
  | .agg cs => D.clL n m cs
  | .tup cs => D.clL n m cs
  | .fn _ a b => D.clL n m a && D.clL n m b
  | .ifc _ d => D.cl n m d
  | .ptr o _ => decide (o < n)
  | .mp o => decide (o < n)
  | .ms _ _ o _ _ _ => decide (o < n)
  | _ => true
def D.clL (n m : Nat) : List D → Bool
  | [] => true
  | d :: ds => D.cl n m d && D.clL n m ds
end
theorem clL_mem {n m : Nat} : ∀ {l : List D}, D.clL n m l = true → ∀ d ∈ l, d.cl n m = true
  | d :: l, h, x, hx => by
    simp only [D.clL, Bool.and_eq_true] at h
    rcases List.mem_cons.1 hx with rfl | hx
    · exact h.1
    · exact clL_mem h.2 x hx
theorem clL_of {n m : Nat} : ∀ {l : List D}, (∀ d ∈ l, d.cl n m = true) → D.clL n m l = true
  | [], _ => by simp [D.clL]
  | d :: l, h => by
    simp only [D.clL, Bool.and_eq_true]
    exact ⟨h d (by simp), clL_of fun x hx => h x (by simp [hx])⟩
theorem cl_cells {n m : Nat} {d : D} (h : d.cl n m = true) : ∀ x ∈ d.cells, x.cl n m = true := by
  intro x hx
  cases d <;> simp only [D.cells, List.mem_singleton] at hx <;> first
    | (subst hx; exact h)
    | (simp only [D.cl] at h; exact clL_mem h x hx)
theorem Rep.move {c c' : Cx} {n m : Nat} {d : D} {v : Value} (h : Rep c d v) (hM : ∀ a v, c.M a = some v → c'.M a = some v) (hbd : ∀ o, o < n → c.bd o = true → c'.bd o = true) (hβ : ∀ o, o < n → c'.β o = c.β o) (hsz : ∀ o, o < n → c'.sz o = c.sz o)
    (hm : m ≤ c'.T.length) (hT : ∀ τ, τ < m → c'.T[τ]? = c.T[τ]? ∧ c'.κ τ = c.κ τ) (hd : d.cl n m = true) : Rep c' d v := by
  induction h with
  | bool b => exact .bool b
  | int k n => exact .int k n
  | str l h => exact .str l h
  | nilp => exact .nilp
  | ptr o off h =>
    simp only [D.cl, decide_eq_true_eq] at hd
    rw [← hβ o hd]; exact .ptr o off (hbd o hd h)
  | ms ag z o off len cap rc h h1 h2 h3 =>
    simp only [D.cl, decide_eq_true_eq] at hd
    rw [← hβ o hd]; exact .ms ag z o off len cap rc (hbd o hd h) h1 h2 (by rw [hsz o hd]; exact h3)
  | e0 a => exact .e0 a
  | el cs a vs ha h1 hM' _ ih =>
    simp only [D.cl] at hd
    exact .el cs a vs ha h1 (fun i hi => hM _ _ (hM' i hi)) (fun i hi => ih i hi (clL_mem hd _ (List.getElem_mem hi)))
  | nils => exact .nils
  | sl t xs a cap sz vs hlen hb hsz h1 ha hs hM' _ htl ht ih =>
    simp only [D.cl, Bool.and_eq_true] at hd
    obtain ⟨hτ, hd⟩ := hd
    refine .sl t xs a cap sz vs hlen hb hsz h1 ha hs (fun i hi j hj b hb => hM _ _ (hM' i hi j hj b hb)) (fun i hi j hj => ih i hi j hj (cl_cells (clL_mem hd _ (List.getElem_mem hi)) _ (List.getElem_mem hj))) ?_ ?_
    · rintro τ rfl
      simp only [decide_eq_true_eq] at hτ
      omega
    · rintro τ rfl n' z' hn
      simp only [decide_eq_true_eq] at hτ
      obtain ⟨e1, e2⟩ := hT τ hτ
      rw [e1] at hn
      rw [e2]
      exact ht τ rfl n' z' hn
  | fn f p q vp vq hp hq _ _ ih1 ih2 =>
    simp only [D.cl, Bool.and_eq_true] at hd
    exact .fn f p q vp vq hp hq (fun i h h' => ih1 i h h' (clL_mem hd.1 _ (List.getElem_mem h))) (fun i h h' => ih2 i h h' (clL_mem hd.2 _ (List.getElem_mem h)))
  | nilf => exact .nilf
  | mp o h =>
    simp only [D.cl, decide_eq_true_eq] at hd
    rw [← hβ o hd]; exact .mp o (hbd o hd h)
  | nilm => exact .nilm
  | nili => exact .nili
  | ifc t d v _ ih => exact .ifc t d v (ih (by simpa only [D.cl] using hd))
  | agg cs vs hl h1 _ ih =>
    simp only [D.cl] at hd
    exact .agg cs vs hl h1 (fun i h h' => ih i h h' (clL_mem hd _ (List.getElem_mem h)))
  | tup cs vs hl _ ih =>
    simp only [D.cl] at hd
    exact .tup cs vs hl (fun i h h' => ih i h h' (clL_mem hd _ (List.getElem_mem h)))
  | top v => exact .top v
theorem Rep.cl {c : Cx} {n : Nat} {d : D} {v : Value} (h : Rep c d v) (hn : ∀ o, c.bd o = true → o < n) : d.cl n c.T.length = true := by
  induction h with
  | ptr o off h => simp [D.cl, hn o h]
  | mp o h => simp [D.cl, hn o h]
  | ms ag z o off len cap rc h h1 h2 h3 => simp [D.cl, hn o h]
  | el cs a vs ha h1 hM' _ ih =>
    simp only [D.cl]
    refine clL_of fun d hd => ?_
    obtain ⟨i, hi, rfl⟩ := List.getElem_of_mem hd
    exact ih i hi
  | sl t xs a cap sz vs hlen hb hsz h1 ha hs hM' _ htl ht ih =>
    simp only [D.cl, Bool.and_eq_true]
    refine ⟨?_, clL_of fun d hd => ?_⟩
    · cases t with
      | none => rfl
      | some τ => simpa using htl τ rfl
    · obtain ⟨i, hi, rfl⟩ := List.getElem_of_mem hd
      have hcell : ∀ x ∈ xs[i].cells, x.cl n c.T.length = true := fun x hx => by
        obtain ⟨j, hj, rfl⟩ := List.getElem_of_mem hx
        exact ih i hi j hj
      cases hx : xs[i] with
      | agg cs => rw [hx] at hcell; simp only [D.cl]; exact clL_of hcell
      | _ => rw [hx] at hcell; exact hcell _ (by simp [D.cells])
  | fn f p q vp vq hp hq _ _ ih1 ih2 =>
    simp only [D.cl, Bool.and_eq_true]
    refine ⟨clL_of fun d hd => ?_, clL_of fun d hd => ?_⟩
    · obtain ⟨i, hi, rfl⟩ := List.getElem_of_mem hd
      exact ih1 i hi (by omega)
    · obtain ⟨i, hi, rfl⟩ := List.getElem_of_mem hd
      exact ih2 i hi (by omega)
  | ifc t d v _ ih => simpa only [D.cl] using ih
  | agg cs vs hl h1 _ ih =>
    simp only [D.cl]
    refine clL_of fun d hd => ?_
    obtain ⟨i, hi, rfl⟩ := List.getElem_of_mem hd
    exact ih i hi (by omega)
  | tup cs vs hl _ ih =>
    simp only [D.cl]
    refine clL_of fun d hd => ?_
    obtain ⟨i, hi, rfl⟩ := List.getElem_of_mem hd
    exact ih i hi (by omega)
  | _ => simp [D.cl]
section
variable {P : Program}
theorem CallPost.forget {c : Cx} {w : World} {H : Hp} {T : Tk} {Q : Post} (hi : Inv c w H) (hT : c.T = T) {r0 : D} (hcl : r0.cl H.length T.length = true) (hQ : Q r0 H T) {e : Ending} {w' : World}
    (h : CallPost c w (fun r H' T' => r.erase = r0 ∧ (∃ L, H' = H ++ L) ∧ ∃ U, T' = T ++ U) e w') : CallPost c w Q e w' := by
  obtain ⟨v, rfl, r, H', T', c', ⟨hr, ⟨L, rfl⟩, ⟨U, rfl⟩⟩, hrep, hinv, hle, hT', hbel⟩ := h
  have move : ∀ {d : D} {v : Value}, Rep c' d v → d.cl H.length T.length = true → Rep { c' with bd := fun o => c'.bd o && decide (o < H.length), T := T } d v := fun {d v} hr hd =>
    hr.move (n := H.length) (m := T.length) (c' := { c' with bd := fun o => c'.bd o && decide (o < H.length), T := T }) (fun _ _ h => h) (fun o ho h => by simp [h, ho]) (fun _ _ => rfl) (fun _ _ => rfl) (Nat.le_refl _) (fun τ hτ => ⟨by simp only; rw [hT', List.getElem?_append_left hτ], rfl⟩) hd
  refine ⟨v, rfl, r0, H, T, { c' with bd := fun o => c'.bd o && decide (o < H.length), T := T }, hQ, ?_, ?_, ?_, rfl, hbel⟩
  · rw [← hr] at hcl ⊢
    exact move hrep.erase hcl
  · have hget : ∀ {o : Nat} {x : Ob}, H[o]? = some x → (H ++ L)[o]? = some x := fun {o x} h => by
      have : o < H.length := by
        rcases Nat.lt_or_ge o H.length with h' | h'
        · exact h'
        · rw [List.getElem?_eq_none h'] at h; cases h
      rw [List.getElem?_append_left this]; exact h
    have hlt : ∀ {o : Nat} {x : Ob}, H[o]? = some x → o < H.length := fun {o x} h => by
      rcases Nat.lt_or_ge o H.length with h' | h'
      · exact h'
      · rw [List.getElem?_eq_none h'] at h; cases h
    have htok : ∀ {τ : Nat} {x}, T[τ]? = some x → c'.T[τ]? = some x := fun {τ x} h => by
      have : τ < T.length := by
        rcases Nat.lt_or_ge τ T.length with h' | h'
        · exact h'
        · rw [List.getElem?_eq_none h'] at h; cases h
      rw [hT', List.getElem?_append_left this]; exact h
    refine ⟨hinv.keep, hinv.low, fun o x cs h hx => ?_, ?_, fun o x h hx => ?_, fun o o' x x' h h' hx hx' he => hinv.apart o o' x x' (hget h) (hget h') hx hx' he, fun o es clk h => hinv.map o es clk (hget h), fun o m sn se la h => ⟨fun x hx => ⟨((hinv.iter o m sn se la (hget h)).1 x hx).1, by simp [((hinv.iter o m sn se la (hget h)).1 x hx).2, Nat.lt_trans ((hinv.iter o m sn se la (hget h)).1 x hx).1 (hlt h)]⟩, (hinv.iter o m sn se la (hget h)).2⟩,
      fun τ n z h => hinv.tok τ n z (htok h), fun τ n z o x h h1 hx => hinv.tokrow τ n z o x (htok h) (hget h1) hx, fun τ n z τ' n' z' h h' => hinv.toks τ n z τ' n' z' (htok h) (htok h')⟩
    · obtain ⟨vs, rest, e, fr, k1, k2, k4, k3⟩ := hinv.row o x cs (hget h) hx
      refine ⟨vs, rest, e, fr, k1, ?_, k4, k3⟩
      have hi2 := hi.row o x cs h hx
      obtain ⟨vs0, rest0, e0, fr0, q1, q2, q4, q3⟩ := hi2
      refine ⟨k2.len, k2.one, fun i a b => move (k2.rep i a b) ?_⟩
      rw [← hT]
      refine (q2.rep i a (by rw [q2.len]; exact a)).cl fun o ho => ?_
      rcases Nat.lt_or_ge o H.length with h' | h'
      · exact h'
      · rw [hi.free o (.inl h')] at ho; cases ho
    · intro o h
      rcases h with h | h
      · have : ¬ o < H.length := by omega
        simp [this]
      · have := hinv.free o (.inr (hget h))
        simp [this]
    · obtain ⟨g1, g2, g3, g4⟩ := hinv.own o x (hget h) hx
      exact ⟨by simp [g1, hlt h], g2, g3, g4⟩
  · refine ⟨hle.M, fun o ho => ?_, fun o ho => hle.β o ho, by simp [hT], fun τ h => by simpa [← hT] using h, fun τ n z h => .inr ⟨n, by simpa [← hT] using h, Nat.le_refl _, fun _ => ?_⟩, hle.B, fun o ho => ?_⟩
    · have : o < H.length := by
        rcases Nat.lt_or_ge o H.length with h' | h'
        · exact h'
        · rw [hi.free o (.inl h')] at ho; cases ho
      simp [hle.bd o ho, this]
    · rw [hT] at h
      have hlt : τ < T.length := by
        rcases Nat.lt_or_ge τ T.length with h' | h'
        · exact h'
        · rw [List.getElem?_eq_none h'] at h; cases h
      have h2 : c'.T[τ]? = some (some (n, z)) := by rw [hT', List.getElem?_append_left hlt]; exact h
      rcases hle.tok τ n z (by rw [hT]; exact h) with k | ⟨n', k1, k2, k3⟩
      · rw [k] at h2; cases h2
      · rw [k1] at h2; injection h2 with h2; injection h2 with h2; injection h2 with h2 _
        exact k3 h2
    · exact hle.sz o ho
end
end GP
namespace GP
open Go
abbrev Fs := List (FuncId × (List D → Option D))
def look : Fs → FuncId → List D → Option D
  | [], _, _ => none
  | (g, φ) :: l, f, a => if f = g then φ a else look l f a
def XL (l : Fs) : Pred := fun f args H T Q => match look l f (D.eraseL args) with
  | some r => Q r H T
  | none => False
def OkAt (P : Program) [HasG P] (f : FuncId) (φ : List D → Option D) : Prop := ∀ args r, φ args = some r → ∀ args', D.eraseL args' = args → ∀ H T (Q : Post), Q r H T → Snd P f args' H T Q
def Ok (P : Program) [HasG P] (l : Fs) : Prop := ∀ f args r, look l f args = some r → ∀ args', D.eraseL args' = args → ∀ H T (Q : Post), Q r H T → Snd P f args' H T Q
variable {P : Program} [HasG P]
theorem Ok.nil : Ok P [] := fun _ _ _ h => by simp [look] at h
theorem Ok.cons {f : FuncId} {φ : List D → Option D} {l : Fs} (h : OkAt P f φ) (k : Ok P l) : Ok P ((f, φ) :: l) := by
  intro g args r hr
  simp only [look] at hr
  split at hr
  · rename_i e; subst e; exact h args r hr
  · exact k g args r hr
theorem Ok.X {l : Fs} (k : Ok P l) : ∀ f args H T Q Q', (∀ r H T, Q r H T → Q' r H T) → XL l f args H T Q → Snd P f args H T Q' := by
  intro f args H T Q Q' hQ h
  unfold XL at h
  split at h
  · rename_i r hr
    exact k f _ r hr args rfl H T Q' (hQ _ _ _ h)
  · exact h.elim
mutual
theorem D.cl_mono {n m n' m' : Nat} (hn : n ≤ n') (hm : m ≤ m') : ∀ (d : D), d.cl n m = true → d.cl n' m' = true
  | .sl t xs, h => by
    simp only [D.cl, Bool.and_eq_true] at h ⊢
    refine ⟨?_, D.clL_mono hn hm xs h.2⟩
    cases t with
    | none => rfl
    | some τ => have := h.1; simp only [decide_eq_true_eq] at this ⊢; omega
  | .el cs, h => by simp only [D.cl] at h ⊢; exact D.clL_mono hn hm cs h
  | .agg cs, h => by simp only [D.cl] at h ⊢; exact D.clL_mono hn hm cs h
  | .tup cs, h => by simp only [D.cl] at h ⊢; exact D.clL_mono hn hm cs h
  | .fn _ a b, h => by
    simp only [D.cl, Bool.and_eq_true] at h ⊢
    exact ⟨D.clL_mono hn hm a h.1, D.clL_mono hn hm b h.2⟩
  | .ifc _ d, h => by simp only [D.cl] at h ⊢; exact D.cl_mono hn hm d h
  | .ptr o _, h => by simp only [D.cl, decide_eq_true_eq] at h ⊢; omega
  | .mp o, h => by simp only [D.cl, decide_eq_true_eq] at h ⊢; omega
  | .ms _ _ o _ _ _, h => by simp only [D.cl, decide_eq_true_eq] at h ⊢; omega
  | .e0, _ | .bool _, _ | .int _ _, _ | .str _, _ | .nilp, _ | .nils, _ | .nilf, _ | .nilm, _ | .nili, _ | .top, _ => by simp [D.cl]
theorem D.clL_mono {n m n' m' : Nat} (hn : n ≤ n') (hm : m ≤ m') : ∀ (l : List D), D.clL n m l = true → D.clL n' m' l = true
  | [], _ => by simp [D.clL]
  | d :: l, h => by
    simp only [D.clL, Bool.and_eq_true] at h ⊢
    exact ⟨D.cl_mono hn hm d h.1, D.clL_mono hn hm l h.2⟩
end
def Leaves (r0 : D) (H : Hp) (T : Tk) : Post := fun r H' T' => r.erase = r0 ∧ (∃ L, H' = H ++ L) ∧ ∃ U, T' = T ++ U
theorem ok_of {l : Fs} (hl : Ok P l) {f : FuncId} {n : Nat} {rs : List (Sum Nat (Nat × Bool × Nat))} {cc : C} (hf : Fn P f n rs cc) {φ : List D → Option D}
    (h : ∀ args r, φ args = some r → args.length ≤ n ∧ r.cl 0 0 = true ∧ ∀ H T, W (XL l) cc (endQ rs (Leaves r H T)) ⟨argT args, H, T⟩) : OkAt P f φ := by
  intro args r hr args' he H T Q hQ
  obtain ⟨h1, h2, h3⟩ := h args r hr
  have hS : Snd P f args H T (Leaves r H T) := call_of hf h1 (W_mono hl.X (fun _ _ h => h) (h3 H T))
  intro c w vs kg k1 k2 k3
  have k3' : Reps c args vs := by rw [← he]; exact k3.erase
  have hcl := D.cl_mono (Nat.zero_le H.length) (Nat.zero_le T.length) r h2
  rcases hS c w vs kg k1 k2 k3' with ⟨g1, g2⟩ | ⟨v, w', g1, g2⟩
  · exact .inl ⟨g1, g2.mono fun e w' k => CallPost.forget k1 k2 hcl hQ k⟩
  · exact .inr ⟨v, w', g1, CallPost.forget k1 k2 hcl hQ g2⟩
end GP
namespace GP
open Go (IntKind BinOp UnOp FuncId TypeId)
def sliceD (n : Bool) (xs : List D) : D := if n && xs.isEmpty then .nils else .sl none xs
section
variable {X : Pred} {s : S} {K : D → S → Prop} {Q : Ex → S → Prop} {R : S → Prop}
theorem sliceD_cases (n : Bool) (xs : List D) : (sliceD n xs = .nils ∧ xs = []) ∨ sliceD n xs = .sl none xs := by
  unfold sliceD
  cases n <;> cases xs <;> simp
@[go_sem] theorem upd_at (t : Nat → D) (i j : Nat) (d : D) : upd t i d j = if j = i then d else t j := id rfl
@[go_sem] theorem argT_0 (a : D) (l : List D) : argT (a :: l) 0 = a := id rfl
@[go_sem] theorem argT_s (a : D) (l : List D) (i : Nat) : argT (a :: l) (i + 1) = argT l i := id rfl
@[go_sem] theorem argT_n (i : Nat) : argT [] i = .top := id rfl
@[go_sem] theorem ev_t (i : Nat) : S.ev s (.t i) = s.t i := id rfl
@[go_sem] theorem ev_k (d : D) : S.ev s (.k d) = d := id rfl
@[go_sem] theorem put_some (i : Nat) (v : D) : S.put s (some i) v = ⟨upd s.t i v, s.H, s.T⟩ := id rfl
@[go_sem] theorem put_none (v : D) : S.put s none v = s := id rfl
@[go_sem] theorem rdAt_el (H : Hp) (cs : List D) : rdAt H (.el cs) = some cs := id rfl
@[go_sem] theorem rdAt_ptr_app (B L : Hp) (n off : Nat) : rdAt (B ++ L) (.ptr (B.length + n) off) = rdAt L (.ptr n off) := by
  have : (B ++ L)[B.length + n]? = L[n]? := by rw [List.getElem?_append_right (by omega)]; congr 1; omega
  simp only [rdAt, this]
@[go_sem] theorem rdAt_ptr_app0 (B L : Hp) (off : Nat) : rdAt (B ++ L) (.ptr B.length off) = rdAt L (.ptr 0 off) := rdAt_ptr_app B L 0 off
@[go_sem] theorem rdAt_z (cs : List D) (L : Hp) (off : Nat) : rdAt (.row cs :: L) (.ptr 0 off) = some (cs.drop off) := id rfl
@[go_sem] theorem rdAt_s (x : Ob) (L : Hp) (n off : Nat) : rdAt (x :: L) (.ptr (n + 1) off) = rdAt L (.ptr n off) := id rfl
@[go_sem] theorem ld_t (n : Nat) (cs : List D) : ld true n (some cs) = if n ≤ cs.length then some (.agg (cs.take n)) else none := id rfl
@[go_sem] theorem ld_f (n : Nat) (c : D) (cs : List D) : ld false n (some (c :: cs)) = some c := id rfl
@[go_sem] theorem K1_some (d : D) : K1 K s (some d) = K d s := id rfl
@[go_sem] theorem K1_none : K1 K s none = False := id rfl
@[go_sem] theorem seqK_n (f : S → Prop) : seqK f Q .normal s = f s := id rfl
@[go_sem] theorem seqK_e (f : S → Prop) (i : Nat) : seqK f Q (.exit i) s = Q (.exit i) s := id rfl
@[go_sem] theorem seqK_r (f : S → Prop) : seqK f Q .ret s = Q .ret s := id rfl
@[go_sem] theorem blkK_n (i : Nat) : blkK i Q .normal s = Q .normal s := id rfl
@[go_sem] theorem blkK_e (i j : Nat) : blkK i Q (.exit j) s = if j = i then Q .normal s else Q (.exit j) s := id rfl
@[go_sem] theorem blkK_r (i : Nat) : blkK i Q .ret s = Q .ret s := id rfl
@[go_sem] theorem W_skip : W X .skip Q s = Q .normal s := by simp only [W]
@[go_sem] theorem W_stop : W X .stop Q s = False := by simp only [W]
@[go_sem] theorem W_reg (is : List I) : W X (.reg is) Q s = Wr X is (Q .normal) s := by simp only [W]
def holes : Nat → Hp
  | 0 => []
  | n + 1 => .hole :: holes n
theorem holes_eq : ∀ n, List.replicate n Ob.hole = holes n
  | 0 => rfl
  | n + 1 => by rw [List.replicate_succ, holes_eq n]; rfl
@[go_sem] theorem holes_0 : holes 0 = [] := id rfl
@[go_sem] theorem holes_s (n : Nat) : holes (n + 1) = .hole :: holes n := id rfl
@[go_sem] theorem W_draw0 (is : List (I × List I)) : W X (.draw 0 is) Q s = Wd X is (Q .normal) s := by simp [W]
theorem W_draw (n : Nat) (is : List (I × List I)) : W X (.draw n is) Q s = Wd X is (Q .normal) ⟨s.t, s.H ++ holes n, s.T⟩ := by simp only [W, holes_eq]
@[go_sem] theorem W_seq (a b : C) : W X (.seq a b) Q s = W X a (seqK (W X b Q) Q) s := by simp only [W]
@[go_sem] theorem W_block (i : Nat) (c : C) : W X (.block i c) Q s = W X c (blkK i Q) s := by simp only [W]
@[go_sem] theorem W_exit (i : Nat) : W X (.exit i) Q s = Q (.exit i) s := by simp only [W]
@[go_sem] theorem W_ret : W X .ret Q s = Q .ret s := by simp only [W]
theorem W_loop (c : C) : W X (.loop c) Q s = ∃ (Iv : S → Prop) (μ : S → Nat), Iv s ∧ ∀ s, Iv s → W X c (seqK (fun s' => Iv s' ∧ μ s' < μ s) Q) s := by simp only [W]
def condK (X : Pred) (Q : Ex → S → Prop) (s : S) (a b : C) : D → Prop
  | .bool t => if t then W X a Q s else W X b Q s
  | _ => False
@[go_sem] theorem W_cond (c : Rd) (a b : C) : W X (.cond c a b) Q s = condK X Q s a b (s.ev c) := by simp only [W]; rfl
@[go_sem high] theorem condK_tt (a b : C) : condK X Q s a b (.bool true) = W X a Q s := id rfl
@[go_sem high] theorem condK_ff (a b : C) : condK X Q s a b (.bool false) = W X b Q s := id rfl
@[go_sem low] theorem condK_b (a b : C) (t : Bool) : condK X Q s a b (.bool t) = ((t = true → W X a Q s) ∧ (t = false → W X b Q s)) := by cases t <;> simp [condK]
@[go_sem] theorem Wr_nil : Wr X [] R s = R s := by simp only [Wr]
@[go_sem] theorem Wr_cons (i : I) (is : List I) : Wr X (i :: is) R s = WI X i s (Wr X is R) := by simp only [Wr]
@[go_sem] theorem Wd_nil : Wd X [] R s = R s := by simp only [Wd]
@[go_sem] theorem Wd_cons0 (i : I) (is : List (I × List I)) : Wd X ((i, []) :: is) R s = WI X i s (Wd X is R) := by simp [Wd, stillAll]
@[go_sem] theorem stillAll_nil : stillAll X [] s = True := id rfl
@[go_sem] theorem stillAll_cons (i : I) (is : List I) : stillAll X (i :: is) s = (still X i s ∧ stillAll X is s) := id rfl
def Kp (d : Option Nat) (K : S → Prop) (v : D) (s : S) : Prop := K (s.put d v)
def Ka (X : Pred) (js : List I) (K : S → Prop) (s : S) : Prop := stillAll X js s ∧ K s
def Ke (u v : D) (_ : S) : Prop := v = u
@[go_sem] theorem Kp_ap (d : Option Nat) (K : S → Prop) (v : D) : Kp d K v s = K (s.put d v) := id rfl
@[go_sem] theorem Ka_ap (js : List I) (K : S → Prop) : Ka X js K s = (stillAll X js s ∧ K s) := id rfl
@[go_sem] theorem Ke_ap (u v : D) : Ke u v s = (v = u) := id rfl
@[go_sem] theorem Wd_cons (i j : I) (js : List I) (is : List (I × List I)) : Wd X ((i, j :: js) :: is) R s = WI X i s (Ka X (j :: js) (Wd X is R)) := by
  have : Ka X (j :: js) (Wd X is R) = fun s' => stillAll X (j :: js) s' ∧ Wd X is R s' := rfl
  rw [this]; simp only [Wd]
def gdD (w : Bool) : D → Option Bool
  | .bool b => some (b == w)
  | .tup [] => some false
  | _ => none
@[go_sem] theorem gdD_u (w : Bool) : gdD w (.tup []) = some false := id rfl
@[go_sem] theorem gdD_tt : gdD true (.bool true) = some true := id rfl
@[go_sem] theorem gdD_tf : gdD true (.bool false) = some false := id rfl
@[go_sem] theorem gdD_ft : gdD false (.bool true) = some false := id rfl
@[go_sem] theorem gdD_ff : gdD false (.bool false) = some true := id rfl
@[go_sem] theorem WI_n (d : Option Nat) (o : O) (K : S → Prop) : WI X ⟨d, none, o⟩ s K = WO X o s (Kp d K) := id rfl
@[go_sem] theorem WI_g (d : Option Nat) (g : Nat) (w : Bool) (o : O) (K : S → Prop) : WI X ⟨d, some (g, w), o⟩ s K = WIk X d o s K (gdD w (s.t g)) := id rfl
@[go_sem] theorem WIk_t (d : Option Nat) (o : O) (K : S → Prop) : WIk X d o s K (some true) = WO X o s (Kp d K) := id rfl
@[go_sem] theorem WIk_f (d : Option Nat) (o : O) (K : S → Prop) : WIk X d o s K (some false) = K (s.put d (.tup [])) := id rfl
@[go_sem low] theorem WIk_bt (d : Option Nat) (o : O) (K : S → Prop) (b : Bool) : WIk X d o s K (gdD true (.bool b)) = ((b = true → WO X o s (Kp d K)) ∧ (b = false → K (s.put d (.tup [])))) := by cases b <;> simp [gdD, WIk] <;> rfl
@[go_sem low] theorem WIk_bf (d : Option Nat) (o : O) (K : S → Prop) (b : Bool) : WIk X d o s K (gdD false (.bool b)) = ((b = true → K (s.put d (.tup []))) ∧ (b = false → WO X o s (Kp d K))) := by cases b <;> simp [gdD, WIk] <;> rfl
def stK (X : Pred) (s : S) (o : O) (d : Nat) : Option Bool → Prop
  | some true => WO X o s (Ke (s.t d))
  | _ => True
@[go_sem] theorem still_n (d : Nat) (o : O) : still X ⟨some d, none, o⟩ s = WO X o s (Ke (s.t d)) := id rfl
@[go_sem] theorem still_g (d : Nat) (g : Nat) (w : Bool) (o : O) : still X ⟨some d, some (g, w), o⟩ s = stK X s o d (gdD w (s.t g)) := by
  unfold still stK
  have : gd s (some (g, w)) = gdD w (s.t g) := by
    simp only [gd]
    unfold gdD
    split <;> simp_all
  rw [this]
  cases gdD w (s.t g) with
  | none => rfl
  | some b => cases b <;> rfl
@[go_sem] theorem stK_t (o : O) (d : Nat) : stK X s o d (some true) = WO X o s (Ke (s.t d)) := id rfl
@[go_sem] theorem stK_f (o : O) (d : Nat) : stK X s o d (some false) = True := id rfl
@[go_sem] theorem WO_mv (x : Rd) : WO X (.mv x) s K = K (s.ev x) s := id rfl
def strK (K : D → S → Prop) (s : S) : D → Prop
  | .str l => K (.str l) s
  | _ => False
@[go_sem] theorem WO_mvs (x : Rd) : WO X (.mvs x) s K = strK K s (s.ev x) := by
  simp only [WO, qv, strK]
  cases s.ev x <;> rfl
@[go_sem] theorem strK_s (l : List UInt8) : strK K s (.str l) = K (.str l) s := id rfl
def pickK (K : D → S → Prop) (s : S) (a b : D) : D → Prop
  | .bool t => K (if t then a else b) s
  | _ => False
@[go_sem] theorem WO_pick (c a b : Rd) : WO X (.pick c a b) s K = pickK K s (s.ev a) (s.ev b) (s.ev c) := by
  simp only [WO, qv, pickK]
  cases s.ev c <;> rfl
@[go_sem] theorem pickK_tt (a b : D) : pickK K s a b (.bool true) = K a s := id rfl
@[go_sem] theorem pickK_ff (a b : D) : pickK K s a b (.bool false) = K b s := id rfl
@[go_sem] theorem WO_alloc (z : List D) : WO X (.alloc z) s K = K (.ptr s.H.length 0) ⟨s.t, s.H ++ [.row z], s.T⟩ := id rfl
@[go_sem] theorem WO_box (x : Rd) : WO X (.box x) s K = ((s.ev x).okc = true ∧ K (.ptr s.H.length 0) ⟨s.t, s.H ++ [.row (s.ev x).cells], s.T⟩) := id rfl
@[go_sem] theorem WO_build (z : List D) (ps : List (Nat × Nat × Rd)) : WO X (.build z ps) s K = K1 K s (buildD z (ps.map fun p => (p.1, p.2.1, s.ev p.2.2))) := id rfl
@[go_sem] theorem WO_bsl (sz : Nat) (xs : List Rd) : WO X (.bsl sz xs) s K = ((xs.map s.ev).all (fit sz) = true ∧ K (.sl (some s.T.length) (xs.map s.ev)) ⟨s.t, s.H, s.T ++ [some (xs.length, sz)]⟩) := id rfl
@[go_sem] theorem WO_bslq0 (sz : Nat) : WO X (.bslq sz []) s K = K .e0 s := by
  show K1 K s (if (List.map s.ev []).all (fit sz) then some (slq (List.map s.ev [])) else none) = _
  rw [if_pos (by rfl)]; rfl
@[go_sem] theorem WO_bslq1 (sz : Nat) (x : Rd) (xs : List Rd) : WO X (.bslq sz (x :: xs)) s K = K1 K s (if ((x :: xs).map s.ev).all (fit sz) then some (.sl none ((x :: xs).map s.ev)) else none) := id rfl
@[go_sem] theorem WO_load (ag : Bool) (n : Nat) (a : Rd) : WO X (.load ag n a) s K = K1 K s (ld ag n (rdAt s.H (s.ev a))) := id rfl
@[go_sem] theorem WO_store (n : Nat) (a v : Rd) : WO X (.store n a v) s K = storeK n K s (s.ev a) (s.ev v) := id rfl
def putRow (n off : Nat) (v : D) : List Ob → Nat → Option (List Ob)
  | [], _ => none
  | .row cs :: L, 0 => if v.okc = true ∧ v.cells.length = n ∧ off + n ≤ cs.length then some (.row (cs.take off ++ v.cells ++ cs.drop (off + n)) :: L) else none
  | _ :: _, 0 => none
  | x :: L, i + 1 => (putRow n off v L i).map (x :: ·)
def putK (K : D → S → Prop) (t : Nat → D) (B : Hp) (T : Tk) : Option (List Ob) → Prop
  | some L => K .top ⟨t, B ++ L, T⟩
  | none => False
theorem putRow_iff {n off : Nat} {v : D} (t : Nat → D) (T : Tk) (B : Hp) : ∀ (L : Hp) (i : Nat), storeK n K ⟨t, B ++ L, T⟩ (.ptr (B.length + i) off) v = putK K t B T (putRow n off v L i) := by
  have hg : ∀ (L : Hp) (i : Nat), (B ++ L)[B.length + i]? = L[i]? := fun L i => by rw [List.getElem?_append_right (by omega)]; congr 1; omega
  have hs : ∀ (L : Hp) (i : Nat) x, (B ++ L).set (B.length + i) x = B ++ L.set i x := fun L i x => by rw [List.set_append_right _ _ (by omega)]; congr 2; omega
  intro L i
  simp only [storeK, hg, hs]
  suffices h : ∀ (L : Hp) (i : Nat) (B' : Hp), (match L[i]? with
      | some (.row cs) => v.okc = true ∧ v.cells.length = n ∧ off + n ≤ cs.length ∧ K .top ⟨t, B' ++ L.set i (.row (cs.take off ++ v.cells ++ cs.drop (off + n))), T⟩
      | _ => False) = putK K t B' T (putRow n off v L i) from h L i B
  intro L
  induction L with
  | nil => intro i B'; simp [putRow, putK]
  | cons x L ih =>
    intro i B'
    cases i with
    | zero =>
      cases x with
      | row cs =>
        simp only [putRow, List.getElem?_cons_zero, List.set_cons_zero]
        split
        · rename_i h; simp [putK, h.1, h.2.1, h.2.2]
        · rename_i h
          simp only [putK, eq_iff_iff, iff_false]
          exact fun k => h ⟨k.1, k.2.1, k.2.2.1⟩
      | _ => simp [putRow, putK]
    | succ i =>
      have := ih i (B' ++ [x])
      simp only [List.getElem?_cons_succ, List.set_cons_succ]
      have e3 : ∀ y : Hp, (B' ++ [x]) ++ y = B' ++ x :: y := fun y => by simp
      simp only [e3] at this
      rw [this]
      have e : putRow n off v (x :: L) (i + 1) = (putRow n off v L i).map (x :: ·) := by cases x <;> rfl
      rw [e]
      cases putRow n off v L i with
      | none => rfl
      | some L' => simp [putK]
@[go_sem] theorem storeK_ptr (t : Nat → D) (T : Tk) (B L : Hp) (n i off : Nat) (v : D) : storeK n K ⟨t, B ++ L, T⟩ (.ptr (B.length + i) off) v = putK K t B T (putRow n off v L i) := putRow_iff t T B L i
@[go_sem] theorem storeK_ptr0 (t : Nat → D) (T : Tk) (B L : Hp) (n off : Nat) (v : D) : storeK n K ⟨t, B ++ L, T⟩ (.ptr B.length off) v = putK K t B T (putRow n off v L 0) := putRow_iff t T B L 0
@[go_sem] theorem putRow_z (n off : Nat) (v : D) (cs : List D) (L : Hp) : putRow n off v (.row cs :: L) 0 = if v.okc = true ∧ v.cells.length = n ∧ off + n ≤ cs.length then some (.row (cs.take off ++ v.cells ++ cs.drop (off + n)) :: L) else none := id rfl
@[go_sem] theorem putRow_s (n off : Nat) (v : D) (x : Ob) (L : Hp) (i : Nat) : putRow n off v (x :: L) (i + 1) = (putRow n off v L i).map (x :: ·) := by cases x <;> rfl
@[go_sem] theorem putK_s (t : Nat → D) (B L : Hp) (T : Tk) : putK K t B T (some L) = K .top ⟨t, B ++ L, T⟩ := id rfl
@[go_sem] theorem WO_nilc (x : Rd) : WO X (.nilc x) s K = K1 K s (nilcD (s.ev x)) := id rfl
@[go_sem] theorem WO_bin (op : BinOp) (x y : Rd) : WO X (.bin op x y) s K = K1 K s (bin2 op (s.ev x) (s.ev y)) := id rfl
@[go_sem] theorem WO_eqa (ks : List Ck) (neg : Bool) (x y : Rd) : WO X (.eqa ks neg x y) s K = K1 K s (eqaD ks neg (s.ev x) (s.ev y)) := id rfl
@[go_sem] theorem WO_eq1 (q : Tq) (neg : Bool) (x y : Rd) : WO X (.eq1 q neg x y) s K = K1 K s ((eq1D q (s.ev x) (s.ev y)).map fun b => .bool (b != neg)) := id rfl
@[go_sem] theorem WO_un (op : UnOp) (x : Rd) : WO X (.un op x) s K = K1 K s (un1 op (s.ev x)) := id rfl
def convK (k : IntKind) (K : D → S → Prop) (s : S) : D → Prop
  | .int _ n => K (.int k (k.wrap n)) s
  | _ => False
@[go_sem] theorem WO_conv (k : IntKind) (x : Rd) : WO X (.conv k x) s K = convK k K s (s.ev x) := by
  simp only [WO, qv, convK]
  cases s.ev x <;> rfl
@[go_sem] theorem convK_i (k k' : IntKind) (n : Int) : convK k K s (.int k' n) = K (.int k (k.wrap n)) s := id rfl
@[go_sem] theorem WO_faddr (off : Nat) (x : Rd) : WO X (.faddr off x) s K = K1 K s (fa off (s.ev x)) := id rfl
@[go_sem] theorem WO_field (ag : Bool) (off n : Nat) (x : Rd) : WO X (.field ag off n x) s K = K1 K s (fld ag off n (s.ev x)) := id rfl
@[go_sem] theorem WO_iaddr (sz : Nat) (x i : Rd) : WO X (.iaddr sz x i) s K = K1 K s (ia sz (s.ev x) (s.ev i)) := id rfl
@[go_sem] theorem WO_idxs (x i : Rd) : WO X (.idxs x i) s K = K1 K s (ixs (s.ev x) (s.ev i)) := id rfl
@[go_sem] theorem WO_idxa (ag : Bool) (sz len : Nat) (x i : Rd) : WO X (.idxa ag sz len x i) s K = K1 K s (ixa ag sz len (s.ev x) (s.ev i)) := id rfl
@[go_sem] theorem WO_ext (i : Nat) (x : Rd) : WO X (.ext i x) s K = K1 K s (extD i (s.ev x)) := id rfl
@[go_sem] theorem extD_t (i : Nat) (vs : List D) : extD i (.tup vs) = vs[i]? := id rfl
@[go_sem] theorem WO_mkfn (f : FuncId) (first cap : List Rd) : WO X (.mkfn f first cap) s K = K (.fn f (first.map s.ev) (cap.map s.ev)) s := id rfl
def lenK (K : D → S → Prop) (s : S) : Option Nat → Prop
  | some n => K (.int .i64 (n : Int)) s
  | none => False
@[go_sem] theorem lenK_s (n : Nat) : lenK K s (some n) = K (.int .i64 (n : Int)) s := id rfl
@[go_sem] theorem WO_len (x : Rd) : WO X (.len x) s K = lenK K s (lenD (s.ev x)) := by
  simp only [WO, qv]
  cases lenD (s.ev x) <;> rfl
@[go_sem] theorem WO_capz (x : Rd) : WO X (.capz x) s K = lenK K s (capD (s.ev x)) := by
  simp only [WO, qv]
  cases capD (s.ev x) <;> rfl
@[go_sem] theorem capD_nils : capD .nils = some 0 := id rfl
@[go_sem] theorem capD_ms (ag : Bool) (z o off n cap : Nat) : capD (.ms ag z o off n cap) = some cap := id rfl
@[go_sem] theorem capD_e0 : capD .e0 = some 0 := id rfl
@[go_sem] theorem WO_lens (x : Rd) : WO X (.lens x) s K = lenK K s (strLen (s.ev x)) := by
  simp only [WO, qv]
  cases strLen (s.ev x) <;> rfl
@[go_sem] theorem WO_mn (a b : Rd) : WO X (.mn a b) s K = K1 K s (mn2 (s.ev a) (s.ev b)) := id rfl
@[go_sem] theorem WO_mx (a b : Rd) : WO X (.mx a b) s K = K1 K s (mx2 (s.ev a) (s.ev b)) := id rfl
@[go_sem] theorem mn2_i (k : IntKind) (a b : Int) : mn2 (.int k a) (.int k b) = some (.int k (if b < a then b else a)) := id rfl
@[go_sem] theorem mx2_i (k : IntKind) (a b : Int) : mx2 (.int k a) (.int k b) = some (.int k (if b > a then b else a)) := id rfl
def subK (K : D → S → Prop) (s : S) (lo hi : Option Rd) : D → Prop
  | .str l => K1 K s (sub (optN s 0 lo) (optN s l.length hi) (.str l))
  | _ => False
@[go_sem] theorem WO_subs (x : Rd) (lo hi : Option Rd) : WO X (.subs x lo hi) s K = subK K s lo hi (s.ev x) := by
  simp only [WO, qv, subK]
  cases s.ev x <;> rfl
@[go_sem] theorem subK_s (lo hi : Option Rd) (l : List UInt8) : subK K s lo hi (.str l) = K1 K s (sub (optN s 0 lo) (optN s l.length hi) (.str l)) := id rfl
def intO : D → Option Int
  | .int _ n => some n
  | _ => none
@[go_sem] theorem optN_n (d : Nat) : optN s d none = some (d : Int) := id rfl
@[go_sem high] theorem optN_0 : optN s 0 none = some 0 := id rfl
@[go_sem] theorem optN_s (d : Nat) (r : Rd) : optN s d (some r) = intO (s.ev r) := id rfl
@[go_sem] theorem intO_i (k : IntKind) (n : Int) : intO (.int k n) = some n := id rfl
@[go_sem] theorem WO_pcall (f : Rd) (args : List Rd) : WO X (.pcall f args) s K = pcallK X (args.map s.ev) K s (s.ev f) := id rfl
@[go_sem] theorem WO_call (f : Rd) (args : List Rd) : WO X (.call f args) s K = callK X (args.map s.ev) K s (s.ev f) := id rfl
@[go_sem] theorem pcallK_fn (l : Fs) (args : List D) (f : FuncId) (first cap : List D) : pcallK (XL l) args K s (.fn f first cap) = K1 K s (look l f (D.eraseL (first ++ args ++ cap))) := by
  simp only [pcallK, eq_iff_iff]
  constructor
  · rintro ⟨r, h1, h2⟩
    have := h1 s.H s.T (fun r' _ _ => r' = r) (fun _ _ h _ => h) rfl
    unfold XL at this
    split at this
    · rename_i r' hr; subst this; rw [hr]; exact h2
    · exact this.elim
  · intro h
    cases hr : look l f (D.eraseL (first ++ args ++ cap)) with
    | none => rw [hr] at h; exact h.elim
    | some r =>
      rw [hr] at h
      refine ⟨r, fun H' T' Q' _ hQ => ?_, h⟩
      unfold XL
      rw [hr]; exact hQ
@[go_sem] theorem look_nil (f : FuncId) (a : List D) : look [] f a = none := id rfl
@[go_sem] theorem look_cons (g : FuncId) (φ : List D → Option D) (l : Fs) (f : FuncId) (a : List D) : look ((g, φ) :: l) f a = if f = g then φ a else look l f a := id rfl
@[go_sem] theorem eraseL_n : D.eraseL [] = [] := by simp [D.eraseL]
@[go_sem] theorem eraseL_c (d : D) (l : List D) : D.eraseL (d :: l) = d.erase :: D.eraseL l := by simp [D.eraseL]
@[go_sem] theorem erase_bool (b : Bool) : (D.bool b).erase = .bool b := by simp [D.erase]
@[go_sem] theorem erase_int (k : IntKind) (n : Int) : (D.int k n).erase = .int k n := by simp [D.erase]
@[go_sem] theorem erase_str (l : List UInt8) : (D.str l).erase = .str l := by simp [D.erase]
@[go_sem] theorem erase_nils : D.nils.erase = .nils := by simp [D.erase]
@[go_sem] theorem erase_nilp : D.nilp.erase = .nilp := by simp [D.erase]
@[go_sem] theorem erase_nilf : D.nilf.erase = .nilf := by simp [D.erase]
@[go_sem] theorem erase_nili : D.nili.erase = .nili := by simp [D.erase]
@[go_sem] theorem erase_agg (cs : List D) : (D.agg cs).erase = .agg (D.eraseL cs) := by simp [D.erase]
@[go_sem] theorem erase_tup (cs : List D) : (D.tup cs).erase = .tup (D.eraseL cs) := by simp [D.erase]
@[go_sem] theorem erase_sl (t : Option Nat) (cs : List D) : (D.sl t cs).erase = .sl none (D.eraseL cs) := by simp [D.erase]
@[go_sem] theorem erase_fn (f : FuncId) (a b : List D) : (D.fn f a b).erase = .fn f (D.eraseL a) (D.eraseL b) := by simp [D.erase]
@[go_sem] theorem erase_ifc (t : TypeId) (d : D) : (D.ifc t d).erase = .ifc t d.erase := by simp [D.erase]
@[go_sem] theorem erase_sliceD (n : Bool) (xs : List D) : (sliceD n xs).erase = sliceD n (D.eraseL xs) := by
  unfold sliceD
  cases n <;> cases xs <;> simp [D.erase, D.eraseL]
@[go_sem] theorem lenD_nils : lenD .nils = some 0 := id rfl
@[go_sem] theorem lenD_sl (t : Option Nat) (xs : List D) : lenD (.sl t xs) = some xs.length := id rfl
@[go_sem] theorem lenD_sliceD (n : Bool) (xs : List D) : lenD (sliceD n xs) = some xs.length := by
  rcases sliceD_cases n xs with ⟨h, rfl⟩ | h <;> rw [h] <;> rfl
@[go_sem] theorem strLen_s (l : List UInt8) : strLen (.str l) = some l.length := id rfl
@[go_sem] theorem okc_agg (cs : List D) : (D.agg cs).okc = true := id rfl
@[go_sem] theorem okc_int (k : IntKind) (n : Int) : (D.int k n).okc = true := id rfl
@[go_sem] theorem okc_str (l : List UInt8) : (D.str l).okc = true := id rfl
@[go_sem] theorem okc_bool (b : Bool) : (D.bool b).okc = true := id rfl
@[go_sem] theorem okc_sl (t : Option Nat) (xs : List D) : (D.sl t xs).okc = true := id rfl
@[go_sem] theorem okc_nils : D.nils.okc = true := id rfl
@[go_sem] theorem okc_sliceD (n : Bool) (xs : List D) : (sliceD n xs).okc = true := by
  rcases sliceD_cases n xs with ⟨h, _⟩ | h <;> rw [h] <;> rfl
@[go_sem] theorem cells_agg (cs : List D) : (D.agg cs).cells = cs := id rfl
@[go_sem] theorem cells_int (k : IntKind) (n : Int) : (D.int k n).cells = [.int k n] := id rfl
@[go_sem] theorem cells_str (l : List UInt8) : (D.str l).cells = [.str l] := id rfl
@[go_sem] theorem cells_bool (b : Bool) : (D.bool b).cells = [.bool b] := id rfl
@[go_sem] theorem cells_sl (t : Option Nat) (xs : List D) : (D.sl t xs).cells = [.sl t xs] := id rfl
@[go_sem] theorem cells_nils : D.nils.cells = [.nils] := id rfl
@[go_sem] theorem cells_sliceD (n : Bool) (xs : List D) : (sliceD n xs).cells = [sliceD n xs] := by
  rcases sliceD_cases n xs with ⟨h, _⟩ | h <;> rw [h] <;> rfl
@[go_sem] theorem cells_fn (f : FuncId) (a b : List D) : (D.fn f a b).cells = [.fn f a b] := id rfl
@[go_sem] theorem fa_el (off : Nat) (cs : List D) : fa off (.el cs) = some (.el (cs.drop off)) := id rfl
@[go_sem] theorem fa_ptr (off o f : Nat) : fa off (.ptr o f) = some (.ptr o (f + off)) := id rfl
@[go_sem] theorem un1_not (b : Bool) : un1 .not (.bool b) = some (.bool (!b)) := id rfl
@[go_sem] theorem un1_neg (k : IntKind) (n : Int) : un1 .neg (.int k n) = some (.int k (k.wrap (0 - n))) := id rfl
@[go_sem] theorem bin_eql (k : IntKind) (a b : Int) : bin2 .eql (.int k a) (.int k b) = some (.bool (a == b)) := by simp [bin2, isShift, intOp]
@[go_sem] theorem bin_neq (k : IntKind) (a b : Int) : bin2 .neq (.int k a) (.int k b) = some (.bool (a != b)) := by simp [bin2, isShift, intOp]
@[go_sem] theorem bin_lss (k : IntKind) (a b : Int) : bin2 .lss (.int k a) (.int k b) = some (.bool (decide (a < b))) := by simp [bin2, isShift, intOp]
@[go_sem] theorem bin_leq (k : IntKind) (a b : Int) : bin2 .leq (.int k a) (.int k b) = some (.bool (decide (a ≤ b))) := by simp [bin2, isShift, intOp]
@[go_sem] theorem bin_gtr (k : IntKind) (a b : Int) : bin2 .gtr (.int k a) (.int k b) = some (.bool (decide (b < a))) := by simp [bin2, isShift, intOp]
@[go_sem] theorem bin_geq (k : IntKind) (a b : Int) : bin2 .geq (.int k a) (.int k b) = some (.bool (decide (b ≤ a))) := by simp [bin2, isShift, intOp]
@[go_sem] theorem bin_add (k : IntKind) (a b : Int) : bin2 .add (.int k a) (.int k b) = some (.int k (k.wrap (a + b))) := by simp [bin2, isShift, intOp]
@[go_sem] theorem bin_sub (k : IntKind) (a b : Int) : bin2 .sub (.int k a) (.int k b) = some (.int k (k.wrap (a - b))) := by simp [bin2, isShift, intOp]
@[go_sem] theorem bin_mul (k : IntKind) (a b : Int) : bin2 .mul (.int k a) (.int k b) = some (.int k (k.wrap (a * b))) := by simp [bin2, isShift, intOp]
@[go_sem] theorem bin_rem (k : IntKind) (a b : Int) : bin2 .rem (.int k a) (.int k b) = if b = 0 then none else some (.int k (a.tmod b)) := by simp [bin2, isShift, intOp]
@[go_sem] theorem bin_quo (k : IntKind) (a b : Int) : bin2 .quo (.int k a) (.int k b) = if b = 0 then none else some (.int k (k.wrap (a.tdiv b))) := by simp [bin2, isShift, intOp]
@[go_sem] theorem bin_seql (a b : List UInt8) : bin2 .eql (.str a) (.str b) = some (.bool (a == b)) := id rfl
@[go_sem] theorem bin_sneq (a b : List UInt8) : bin2 .neq (.str a) (.str b) = some (.bool (a != b)) := id rfl
@[go_sem] theorem bin_slss (a b : List UInt8) : bin2 .lss (.str a) (.str b) = some (.bool (bytesLess a b)) := id rfl
@[go_sem] theorem WO_isn (neg : Bool) (x : Rd) : WO X (.isn neg x) s K = isnK neg K s (s.ev x) := id rfl
@[go_sem] theorem isnK_nils (neg : Bool) : isnK neg K s .nils = K (.bool (true != neg)) s := id rfl
@[go_sem] theorem isnK_cons (neg : Bool) (t : Option Nat) (y : D) (r : List D) : isnK neg K s (.sl t (y :: r)) = K (.bool (false != neg)) s := id rfl
@[go_sem] theorem isnK_ms (neg ag : Bool) (z o off n cap : Nat) : isnK neg K s (.ms ag z o off n cap) = K (.bool (false != neg)) s := id rfl
@[go_sem] theorem isnK_nil (neg : Bool) (t : Option Nat) : isnK neg K s (.sl t []) = (K (.bool (true != neg)) s ∧ K (.bool (false != neg)) s) := id rfl
@[go_sem] theorem isnK_e0 (neg : Bool) : isnK neg K s .e0 = (K (.bool (true != neg)) s ∧ K (.bool (false != neg)) s) := id rfl
@[go_sem] theorem eq1_bool (a b : Bool) : eq1D .bool (.bool a) (.bool b) = some (a == b) := id rfl
@[go_sem] theorem eq1_nils : eq1D .slc .nils .nils = some true := id rfl
@[go_sem] theorem eqaD_a (ks : List Ck) (neg : Bool) (xs ys : List D) : eqaD ks neg (.agg xs) (.agg ys) = if cksD xs ks then (eqCells xs ys).map (fun b => .bool (b != neg)) else none := id rfl
@[go_sem] theorem cksD_n : cksD [] [] = true := id rfl
@[go_sem] theorem cksD_i (k : IntKind) (n : Int) (ds : List D) (ks : List Ck) : cksD (.int k n :: ds) (.int :: ks) = cksD ds ks := by simp [cksD, ckD]
@[go_sem] theorem cksD_s (l : List UInt8) (ds : List D) (ks : List Ck) : cksD (.str l :: ds) (.str :: ks) = cksD ds ks := by simp [cksD, ckD]
@[go_sem] theorem cksD_b (b : Bool) (ds : List D) (ks : List Ck) : cksD (.bool b :: ds) (.bool :: ks) = cksD ds ks := by simp [cksD, ckD]
def andO : Bool → Option Bool → Option Bool
  | p, some q => some (p && q)
  | _, none => none
@[go_sem] theorem eqCells_n : eqCells [] [] = some true := id rfl
@[go_sem] theorem eqCells_i (k : IntKind) (a b : Int) (aS bs : List D) : eqCells (.int k a :: aS) (.int k b :: bs) = andO (a == b) (eqCells aS bs) := by
  simp only [eqCells, eqCell, if_true]
  cases eqCells aS bs <;> rfl
@[go_sem] theorem eqCells_s (a b : List UInt8) (aS bs : List D) : eqCells (.str a :: aS) (.str b :: bs) = andO (a == b) (eqCells aS bs) := by
  simp only [eqCells, eqCell]
  cases eqCells aS bs <;> rfl
@[go_sem] theorem eqCells_b (a b : Bool) (aS bs : List D) : eqCells (.bool a :: aS) (.bool b :: bs) = andO (a == b) (eqCells aS bs) := by
  simp only [eqCells, eqCell]
  cases eqCells aS bs <;> rfl
@[go_sem] theorem andO_s (p q : Bool) : andO p (some q) = some (p && q) := id rfl
@[go_sem] theorem buildD_n (z : List D) : buildD z [] = some (.agg z) := id rfl
@[go_sem] theorem buildD_c (z : List D) (off sz : Nat) (d : D) (ps : List (Nat × Nat × D)) : buildD z ((off, sz, d) :: ps) = if d.okc = true ∧ d.cells.length = sz ∧ off + d.cells.length ≤ z.length then buildD (z.take off ++ d.cells ++ z.drop (off + d.cells.length)) ps else none := by
  simp only [buildD, List.all_cons, List.map_cons, fillD, fit, Bool.and_eq_true, beq_iff_eq]
  by_cases h1 : d.okc = true <;> by_cases h2 : d.cells.length = sz <;> by_cases h3 : off + d.cells.length ≤ z.length <;> by_cases hq : (ps.all fun p => p.2.2.okc && p.2.2.cells.length == p.2.1) = true <;>
    simp only [h1, h2, h3, hq, and_self, and_true, true_and, and_false, false_and, if_true, if_false, Option.map_none] <;> (first | rfl | (simp only [← h2, h3, if_true, if_false, Option.map_none]; done) | simp)
@[go_sem] theorem ia_sl (sz : Nat) (t : Option Nat) (xs : List D) (k : IntKind) (n : Int) : ia sz (.sl t xs) (.int k n) = if 0 ≤ n then iaE sz xs[n.toNat]? else none := id rfl
@[go_sem] theorem ia_sliceD (sz : Nat) (b : Bool) (xs : List D) (k : IntKind) (n : Int) : ia sz (sliceD b xs) (.int k n) = if 0 ≤ n then iaE sz xs[n.toNat]? else none := by
  rcases sliceD_cases b xs with ⟨h, rfl⟩ | h <;> rw [h]
  · simp [ia, iaE]
  · rfl
@[go_sem] theorem iaE_s (sz : Nat) (d : D) : iaE sz (some d) = if d.cells.length = sz then some (.el d.cells) else none := id rfl
@[go_sem] theorem fit_eq (sz : Nat) (d : D) : fit sz d = (d.okc && d.cells.length == sz) := id rfl
variable {Q0 : Post}
@[go_sem] theorem endQ_n (rs : List (Sum Nat (Nat × Bool × Nat))) : endQ rs Q0 .normal s = retK rs Q0 s := id rfl
@[go_sem] theorem endQ_r (rs : List (Sum Nat (Nat × Bool × Nat))) : endQ rs Q0 .ret s = retK rs Q0 s := id rfl
def retO (Q0 : Post) (s : S) : Option (List D) → Prop
  | some ds => Q0 (retD ds) s.H s.T
  | none => False
def consO : Option D → Option (List D) → Option (List D)
  | some d, some ds => some (d :: ds)
  | _, _ => none
@[go_sem] theorem retK_eq (rs : List (Sum Nat (Nat × Bool × Nat))) : retK rs Q0 s = retO Q0 s (resL rs s) := by
  simp only [retK, retO]
  cases resL rs s <;> rfl
@[go_sem] theorem resL_n : resL [] s = some [] := id rfl
@[go_sem] theorem resL_l (t : Nat) (l : List (Sum Nat (Nat × Bool × Nat))) : resL (.inl t :: l) s = consO (some (s.t t)) (resL l s) := by
  simp only [resL]
  cases resL l s <;> rfl
@[go_sem] theorem resL_r (x n : Nat) (ag : Bool) (l : List (Sum Nat (Nat × Bool × Nat))) : resL (.inr (x, ag, n) :: l) s = consO (ld ag n (rdAt s.H (s.t x))) (resL l s) := by
  simp only [resL]
  cases ld ag n (rdAt s.H (s.t x)) <;> cases resL l s <;> rfl
@[go_sem] theorem consO_s (d : D) (ds : List D) : consO (some d) (some ds) = some (d :: ds) := id rfl
@[go_sem] theorem retO_s (ds : List D) : retO Q0 s (some ds) = Q0 (retD ds) s.H s.T := id rfl
@[go_sem] theorem retD_1 (d : D) : retD [d] = d := id rfl
@[go_sem] theorem retD_0 : retD [] = .tup [] := id rfl
@[go_sem] theorem retD_2 (d e : D) (ds : List D) : retD (d :: e :: ds) = .tup (d :: e :: ds) := id rfl
@[go_sem] theorem leaves_1 (r r0 : D) (H : Hp) (T : Tk) : Leaves r0 H T r H T = (r.erase = r0) := by
  simp [Leaves]
@[go_sem] theorem leaves_2 (r r0 : D) (H L : Hp) (T : Tk) : Leaves r0 H T r (H ++ L) T = (r.erase = r0) := by
  simp [Leaves]
@[go_sem] theorem leaves_3 (r r0 : D) (H : Hp) (T U : Tk) : Leaves r0 H T r H (T ++ U) = (r.erase = r0) := by
  simp [Leaves]
@[go_sem] theorem leaves_4 (r r0 : D) (H L : Hp) (T U : Tk) : Leaves r0 H T r (H ++ L) (T ++ U) = (r.erase = r0) := by
  simp [Leaves]
def atPut (o : Hp) (x : Ob) : Nat → Option Hp
  | 0 => match o with | .hole :: L => some (x :: L) | _ => none
  | i + 1 => match o with | y :: L => (atPut L x i).map (y :: ·) | [] => none
@[go_sem] theorem atPut_z (x : Ob) (L : Hp) : atPut (.hole :: L) x 0 = some (x :: L) := id rfl
@[go_sem] theorem atPut_s (x y : Ob) (L : Hp) (i : Nat) : atPut (y :: L) x (i + 1) = (atPut L x i).map (y :: ·) := id rfl
def atQ (K : D → S → Prop) (t : Nat → D) (B : Hp) (T : Tk) (i : Nat) : Option Hp → Prop
  | some L => K (.ptr (B.length + i) 0) ⟨t, B ++ L, T⟩
  | none => False
@[go_sem] theorem atQ_s (t : Nat → D) (B L : Hp) (T : Tk) (i : Nat) : atQ K t B T i (some L) = K (.ptr (B.length + i) 0) ⟨t, B ++ L, T⟩ := id rfl
theorem atPut_eq (x : Ob) : ∀ (L : Hp) (i : Nat), atPut L x i = match L[i]? with | some .hole => some (L.set i x) | _ => none
  | [], 0 => by simp [atPut]
  | [], i + 1 => by simp [atPut]
  | y :: L, 0 => by cases y <;> simp [atPut]
  | y :: L, i + 1 => by
    simp only [atPut, atPut_eq x L i, List.getElem?_cons_succ, List.set_cons_succ]
    cases L[i]? with
    | none => rfl
    | some z => cases z <;> rfl
theorem app_get {α : Type} (B L : List α) (i : Nat) : (B ++ L)[B.length + i]? = L[i]? := by rw [List.getElem?_append_right (by omega)]; congr 1; omega
theorem app_set {α : Type} (B L : List α) (i : Nat) (x : α) : (B ++ L).set (B.length + i) x = B ++ L.set i x := by rw [List.set_append_right _ _ (by omega)]; congr 2; omega
theorem app_at {α : Type} (B L : List α) {j : Nat} (h : j ≤ L.length) : (B ++ L).length - j = B.length + (L.length - j) := by simp; omega
def farK (p : Prop) : Prop := p
theorem atK_app (t : Nat → D) (B L : Hp) (T : Tk) (z : List D) (i : Nat) : atK K ⟨t, B ++ L, T⟩ (B.length + i) z (B ++ L)[B.length + i]? = atQ K t B T i (atPut L (.row z) i) := by
  rw [app_get, atPut_eq]
  cases h : L[i]? with
  | none => simp [atK, atQ]
  | some x => cases x <;> simp [atK, atQ, app_set]
theorem rawK_app (t : Nat → D) (B L : Hp) (T : Tk) (z : List D) (i : Nat) : rawK K ⟨t, B ++ L, T⟩ (B.length + i) z (B ++ L)[B.length + i]? = atQ K t B T i (atPut L (.raw z) i) := by
  rw [app_get, atPut_eq]
  cases h : L[i]? with
  | none => simp [rawK, atQ]
  | some x => cases x <;> simp [rawK, atQ, app_set]
@[go_sem] theorem WO_allocAt (t : Nat → D) (B L : Hp) (T : Tk) (j : Nat) (z : List D) : WO X (.allocAt j z) ⟨t, B ++ L, T⟩ K = if j ≤ L.length then atQ K t B T (L.length - j) (atPut L (.row z) (L.length - j)) else farK (WO X (.allocAt j z) ⟨t, B ++ L, T⟩ K) := by
  split
  · rename_i h
    rw [← atK_app]
    show atK K ⟨t, B ++ L, T⟩ ((B ++ L).length - j) z (B ++ L)[(B ++ L).length - j]? = _
    rw [app_at B L h]
  · rfl
@[go_sem] theorem WO_boxAt (t : Nat → D) (B L : Hp) (T : Tk) (j : Nat) (x : Rd) : WO X (.boxAt j x) ⟨t, B ++ L, T⟩ K = if j ≤ L.length then ((S.ev ⟨t, B ++ L, T⟩ x).okc = true ∧ atQ K t B T (L.length - j) (atPut L (.row (S.ev ⟨t, B ++ L, T⟩ x).cells) (L.length - j))) else farK (WO X (.boxAt j x) ⟨t, B ++ L, T⟩ K) := by
  split
  · rename_i h
    rw [← atK_app]
    show (_ ∧ atK K ⟨t, B ++ L, T⟩ ((B ++ L).length - j) _ (B ++ L)[(B ++ L).length - j]?) = _
    rw [app_at B L h]
  · rfl
@[go_sem] theorem WO_rawAt (t : Nat → D) (B L : Hp) (T : Tk) (j : Nat) (z : List D) : WO X (.rawAt j z) ⟨t, B ++ L, T⟩ K = if j ≤ L.length then atQ K t B T (L.length - j) (atPut L (.raw z) (L.length - j)) else farK (WO X (.rawAt j z) ⟨t, B ++ L, T⟩ K) := by
  split
  · rename_i h
    rw [← rawK_app]
    show (j ≤ (B ++ L).length ∧ rawK K ⟨t, B ++ L, T⟩ ((B ++ L).length - j) z (B ++ L)[(B ++ L).length - j]?) = _
    rw [app_at B L h]
    have : j ≤ (B ++ L).length := by simp; omega
    simp only [this, true_and]
  · rfl
def fillPut (n : Nat) (v : D) : Hp → Nat → Option Hp
  | .raw z :: L, 0 => if z.length = n ∧ v.okc = true ∧ v.cells.length = n then some (.row v.cells :: L) else none
  | y :: L, i + 1 => (fillPut n v L i).map (y :: ·)
  | _, _ => none
@[go_sem] theorem fillPut_z (n : Nat) (v : D) (z : List D) (L : Hp) : fillPut n v (.raw z :: L) 0 = if z.length = n ∧ v.okc = true ∧ v.cells.length = n then some (.row v.cells :: L) else none := id rfl
@[go_sem] theorem fillPut_s (n : Nat) (v : D) (y : Ob) (L : Hp) (i : Nat) : fillPut n v (y :: L) (i + 1) = (fillPut n v L i).map (y :: ·) := by cases y <;> rfl
def fillQ (K : D → S → Prop) (t : Nat → D) (B : Hp) (T : Tk) : Option Hp → Prop
  | some L => K .top ⟨t, B ++ L, T⟩
  | none => False
@[go_sem] theorem fillQ_s (t : Nat → D) (B L : Hp) (T : Tk) : fillQ K t B T (some L) = K .top ⟨t, B ++ L, T⟩ := id rfl
theorem fillPut_iff (t : Nat → D) (B : Hp) (T : Tk) (n : Nat) (v : D) : ∀ (L : Hp) (i : Nat), fillQ K t B T (fillPut n v L i) ↔ ∃ z, L[i]? = some (.raw z) ∧ z.length = n ∧ v.okc = true ∧ v.cells.length = n ∧ K .top ⟨t, B ++ L.set i (.row v.cells), T⟩
  | [], 0 => by simp [fillPut, fillQ]
  | [], i + 1 => by simp [fillPut, fillQ]
  | y :: L, 0 => by
    cases y <;> simp [fillPut, fillQ]
    rename_i z
    by_cases h : z.length = n ∧ v.okc = true ∧ v.cells.length = n
    · rw [if_pos h]; simp [h.1, h.2.1, h.2.2]
    · rw [if_neg h]
      simp only [false_iff]
      exact fun k => h ⟨k.1, k.2.1, k.2.2.1⟩
  | y :: L, i + 1 => by
    have := fillPut_iff t (B ++ [y]) T n v L i
    simp only [List.append_assoc, List.singleton_append] at this
    simp only [List.getElem?_cons_succ, List.set_cons_succ]
    rw [← this, fillPut_s]
    cases fillPut n v L i <;> simp [fillQ]
def fillA (i : Nat) (p : Prop) : D → Prop
  | .ptr o 0 => if o = i then p else False
  | _ => False
@[go_sem] theorem fillA_p (i : Nat) (p : Prop) : fillA i p (.ptr i 0) = p := by simp [fillA]
@[go_sem] theorem WO_fillAt (t : Nat → D) (B L : Hp) (T : Tk) (j n : Nat) (a v : Rd) : WO X (.fillAt j n a v) ⟨t, B ++ L, T⟩ K = if j ≤ L.length then fillA (B.length + (L.length - j)) (fillQ K t B T (fillPut n (S.ev ⟨t, B ++ L, T⟩ v) L (L.length - j))) (S.ev ⟨t, B ++ L, T⟩ a) else farK (WO X (.fillAt j n a v) ⟨t, B ++ L, T⟩ K) := by
  split
  · rename_i h
    show (j ≤ (B ++ L).length ∧ fillK K ⟨t, B ++ L, T⟩ ((B ++ L).length - j) n _ _ (B ++ L)[(B ++ L).length - j]?) = _
    rw [app_at B L h]
    have hj : j ≤ (B ++ L).length := by simp; omega
    simp only [hj, true_and, eq_iff_iff]
    generalize S.ev ⟨t, B ++ L, T⟩ a = a
    generalize S.ev ⟨t, B ++ L, T⟩ v = v
    rw [app_get]
    constructor
    · intro k
      obtain ⟨z, h1, h2, h3, h4, h5, h6⟩ := fillK_ok k
      subst h2
      simp only [fillA, if_true]
      exact (fillPut_iff t B T n v L _).2 ⟨z, h1, h3, h4, h5, by simpa only [app_set] using h6⟩
    · intro k
      unfold fillA at k
      split at k
      · split at k
        · rename_i e; subst e
          obtain ⟨z, h1, h3, h4, h5, h6⟩ := (fillPut_iff t B T n v L _).1 k
          rw [h1]
          exact ⟨rfl, h3, h4, h5, by simpa only [app_set] using h6⟩
        · exact k.elim
      · exact k.elim
  · rfl
def slsK (K : D → S → Prop) (s : S) (sz : Nat) (lo hi : Option Rd) (x : D) : Option Nat → Prop
  | some n => K1 K s (slc sz (optN s 0 lo) (optN s n hi) x)
  | none => False
@[go_sem] theorem WO_sls (sz : Nat) (x : Rd) (lo hi : Option Rd) : WO X (.sls sz x lo hi) s K = slsK K s sz lo hi (s.ev x) (lenD (s.ev x)) := by
  simp only [WO, qv]
  cases lenD (s.ev x) <;> rfl
@[go_sem] theorem slsK_s (sz : Nat) (lo hi : Option Rd) (x : D) (n : Nat) : slsK K s sz lo hi x (some n) = K1 K s (slc sz (optN s 0 lo) (optN s n hi) x) := id rfl
def sls3K (K : D → S → Prop) (s : S) (sz : Nat) (lo hi mx : Option Rd) (x : D) : Option Nat → Prop
  | some n => K1 K s (slc3 sz (optN s 0 lo) (optN s n hi) (optN s n mx) x)
  | none => False
@[go_sem] theorem WO_sls3 (sz : Nat) (x : Rd) (lo hi mx : Option Rd) : WO X (.sls3 sz x lo hi mx) s K = sls3K K s sz lo hi mx (s.ev x) (lenD (s.ev x)) := by
  simp only [WO, qv]
  cases lenD (s.ev x) <;> rfl
@[go_sem] theorem sls3K_s (sz : Nat) (lo hi mx : Option Rd) (x : D) (n : Nat) : sls3K K s sz lo hi mx x (some n) = K1 K s (slc3 sz (optN s 0 lo) (optN s n hi) (optN s n mx) x) := id rfl
theorem slc_sl (sz : Nat) (t : Option Nat) (xs : List D) (l h : Int) : slc sz (some l) (some h) (.sl t xs) = if 0 ≤ l ∧ l ≤ h ∧ h ≤ xs.length ∧ xs.all (fun d => d.cells.length == sz) = true then some (.sl (if l = 0 ∧ h = xs.length then t else none) (subList xs l.toNat h.toNat)) else none := rfl
@[go_sem] theorem WO_app (st : Bool) (sz bytes : Nat) (x y : Rd) : WO X (.app st sz bytes x y) s K = appK sz bytes K s (s.ev x) (appSrc st (s.ev y)) := id rfl
@[go_sem] theorem WO_appm (ag st : Bool) (sz bytes : Nat) (x y : Rd) : WO X (.appm ag st sz bytes x y) s K = appmK ag sz bytes K s (s.ev x) (appSrcM s.H st sz (s.ev y)) := id rfl
@[go_sem] theorem WO_bslm (ag : Bool) (sz : Nat) (xs : List Rd) : WO X (.bslm ag sz xs) s K = ((xs.map s.ev).all (fit sz) = true ∧ K (.ms ag sz s.H.length 0 xs.length xs.length) ⟨s.t, s.H ++ [.row (flatD (xs.map s.ev))], s.T⟩) := id rfl
@[go_sem] theorem WO_copy (sz : Nat) (x y : Rd) : WO X (.copy sz x y) s K = copyK sz K s (s.ev x) (appSrcM s.H false sz (s.ev y)) := id rfl
@[go_sem] theorem WO_clr (z : List D) (x : Rd) : WO X (.clr z x) s K = clrK z K s (s.ev x) := id rfl
@[go_sem] theorem WO_appz (ag : Bool) (sz bytes : Nat) (z : List D) (x y : Rd) : WO X (.appz ag sz bytes z x y) s K = appzK ag sz bytes z K s (s.ev x) (s.ev y) := id rfl
@[go_sem] theorem WO_mkmap : WO X .mkmap s K = K (.mp s.H.length) ⟨s.t, s.H ++ [.map [] 0], s.T⟩ := id rfl
@[go_sem] theorem WO_mlen (x : Rd) : WO X (.mlen x) s K = K1 K s ((entsD s.H (s.ev x)).map fun es => .int .i64 (es.length : Int)) := id rfl
@[go_sem] theorem WO_mget (ks : Bool × List Ck) (zv : D) (ok : Bool) (m k : Rd) : WO X (.mget ks zv ok m k) s K = K1 K s (if pu zv then mgetD s.H ks zv ok (s.ev m) (s.ev k) else none) := id rfl
@[go_sem] theorem WO_mput (ks : Bool × List Ck) (m k v : Rd) : WO X (.mput ks m k v) s K = mputK ks K s (s.ev m) (s.ev k) (s.ev v) := id rfl
@[go_sem] theorem WO_ment (ks : Bool × List Ck) (zv : D) (m k : Rd) : WO X (.ment ks zv m k) s K = mentK ks zv K s (s.ev m) (s.ev k) := id rfl
@[go_sem] theorem WO_rng (x : Rd) : WO X (.rng x) s K = rngK K s (s.ev x) := id rfl
@[go_sem] theorem WO_nxt (x : Rd) : WO X (.nxt x) s K = nxtK K s (s.ev x) := id rfl
@[go_sem] theorem WO_ent (x : Rd) : WO X (.ent x) s K = K1 K s (entD s.H (s.ev x)) := id rfl
@[go_sem] theorem WO_mst (m b v : Rd) : WO X (.mst m b v) s K = mstK K s (s.ev m) (s.ev b) (s.ev v) := id rfl
@[go_sem] theorem WO_mkm (ag : Bool) (sz bytes : Nat) (z : List D) (n m : Rd) : WO X (.mkm ag sz bytes z n m) s K = mkmK ag sz bytes z K s (s.ev n) (s.ev m) := id rfl
@[go_sem] theorem WO_s2b (x : Rd) : WO X (.s2b x) s K = s2bK K s (s.ev x) := id rfl
@[go_sem] theorem s2bK_s (l : List UInt8) : s2bK K s (.str l) = K (.sl (some s.T.length) (byteD l)) ⟨s.t, s.H, s.T ++ [some (l.length, 1)]⟩ := id rfl
@[go_sem] theorem WO_b2m (x : Rd) : WO X (.b2m x) s K = K1 K s (b2mD s.H (s.ev x)) := id rfl
@[go_sem] theorem WO_b2s (x : Rd) : WO X (.b2s x) s K = K1 K s (b2sD (s.ev x)) := id rfl
@[go_sem] theorem appSrc_nils : appSrc false .nils = some [] := id rfl
@[go_sem] theorem appSrc_sl (t : Option Nat) (xs : List D) : appSrc false (.sl t xs) = some xs := id rfl
@[go_sem] theorem appSrc_str (l : List UInt8) : appSrc true (.str l) = some (byteD l) := id rfl
@[go_sem] theorem appSrc_sliceD (n : Bool) (xs : List D) : appSrc false (sliceD n xs) = some xs := by
  rcases sliceD_cases n xs with ⟨h, rfl⟩ | h <;> rw [h] <;> rfl
@[go_sem] theorem appSrcM_nils (H : Hp) (sz : Nat) : appSrcM H false sz .nils = some [] := id rfl
@[go_sem] theorem appSrcM_sl (H : Hp) (sz : Nat) (t : Option Nat) (xs : List D) : appSrcM H false sz (.sl t xs) = some xs := id rfl
@[go_sem] theorem appSrcM_sliceD (H : Hp) (sz : Nat) (n : Bool) (xs : List D) : appSrcM H false sz (sliceD n xs) = some xs := by
  rcases sliceD_cases n xs with ⟨h, rfl⟩ | h <;> rw [h] <;> rfl
theorem appK_nils (sz bytes : Nat) (ys : List D) : appK sz bytes K s .nils (some ys) = (ys.all (fit sz) = true ∧ if ys = [] then K .nils s else (ys.length * bytes ≤ 2 ^ 47 ∧ ys.length < 2 ^ 62 ∧ K (.sl (some s.T.length) ys) ⟨s.t, s.H, s.T ++ [some (ys.length, sz)]⟩)) := rfl
@[go_sem] theorem appK_nils1 (sz bytes : Nat) (y : D) (ys : List D) : appK sz bytes K s .nils (some (y :: ys)) = ((y :: ys).all (fit sz) = true ∧ (y :: ys).length * bytes ≤ 2 ^ 47 ∧ (y :: ys).length < 2 ^ 62 ∧ K (.sl (some s.T.length) (y :: ys)) ⟨s.t, s.H, s.T ++ [some ((y :: ys).length, sz)]⟩) := by
  rw [appK_nils, if_neg (by simp)]
@[go_sem] theorem appK_nils0 (sz bytes : Nat) : appK sz bytes K s .nils (some []) = K .nils s := by
  rw [appK_nils, if_pos rfl]; simp
@[go_sem] theorem appSrc_e0 : appSrc false .e0 = some [] := id rfl
theorem appK_tok (sz bytes : Nat) (t : Nat → D) (H : Hp) (B L : Tk) (n : Nat) (xs ys : List D) : appK sz bytes K ⟨t, H, B ++ L⟩ (.sl (some (B.length + n)) xs) (some ys) =
    (ys.all (fit sz) = true ∧ L[n]? = some (some (xs.length, sz)) ∧ (xs.length + ys.length) * bytes ≤ 2 ^ 47 ∧ xs.length + ys.length < 2 ^ 62 ∧ xs.all (fit sz) = true ∧ K (.sl (some (B.length + n)) (xs ++ ys)) ⟨t, H, B ++ L.set n (some (xs.length + ys.length, sz))⟩) := by
  simp only [appK, app_get, app_set]
theorem appK_tok0 (sz bytes : Nat) (t : Nat → D) (H : Hp) (B L : Tk) (xs ys : List D) : appK sz bytes K ⟨t, H, B ++ L⟩ (.sl (some B.length) xs) (some ys) =
    (ys.all (fit sz) = true ∧ L[0]? = some (some (xs.length, sz)) ∧ (xs.length + ys.length) * bytes ≤ 2 ^ 47 ∧ xs.length + ys.length < 2 ^ 62 ∧ xs.all (fit sz) = true ∧ K (.sl (some B.length) (xs ++ ys)) ⟨t, H, B ++ L.set 0 (some (xs.length + ys.length, sz))⟩) := appK_tok sz bytes t H B L 0 xs ys
@[go_sem] theorem lenD_e0 : lenD .e0 = some 0 := id rfl
@[go_sem] theorem lenD_ms (ag : Bool) (z o off n cap : Nat) : lenD (.ms ag z o off n cap) = some n := id rfl
@[go_sem] theorem erase_e0 : D.e0.erase = .sl none [] := by simp [D.erase]
@[go_sem] theorem erase_ptr (o off : Nat) : (D.ptr o off).erase = .ptr o off := by simp [D.erase]
@[go_sem] theorem erase_ms (ag : Bool) (z o off n cap : Nat) : (D.ms ag z o off n cap).erase = .ms ag z o off n cap := by simp [D.erase]
@[go_sem] theorem okc_ms (ag : Bool) (z o off n cap : Nat) : (D.ms ag z o off n cap).okc = true := id rfl
@[go_sem] theorem okc_ptr (o off : Nat) : (D.ptr o off).okc = true := id rfl
@[go_sem] theorem okc_fn (f : FuncId) (a b : List D) : (D.fn f a b).okc = true := id rfl
@[go_sem] theorem okc_e0 : D.e0.okc = true := id rfl
@[go_sem] theorem cells_ms (ag : Bool) (z o off n cap : Nat) : (D.ms ag z o off n cap).cells = [.ms ag z o off n cap] := id rfl
@[go_sem] theorem cells_ptr (o off : Nat) : (D.ptr o off).cells = [.ptr o off] := id rfl
@[go_sem] theorem cells_e0 : D.e0.cells = [.e0] := id rfl
@[go_sem] theorem ia_ms (sz : Nat) (ag : Bool) (z o off len cap : Nat) (k : IntKind) (n : Int) : ia sz (.ms ag z o off len cap) (.int k n) = if 0 ≤ n ∧ n < len ∧ z = sz then some (.ptr o (off + n.toNat * sz)) else none := id rfl
@[go_sem] theorem iarrD_i (sz len : Nat) (x : D) (k : IntKind) (n : Int) : iarrD sz len x (.int k n) = if 0 ≤ n ∧ n < len then fa (n.toNat * sz) x else none := id rfl
@[go_sem] theorem WO_iarr (sz len : Nat) (x i : Rd) : WO X (.iarr sz len x i) s K = K1 K s (iarrD sz len (s.ev x) (s.ev i)) := id rfl
end
attribute [go_sem_proc] Nat.reduceAdd Nat.reduceSub Nat.reduceMul Nat.reduceEqDiff Nat.reduceLeDiff Nat.reduceLT Int.reduceToNat Int.reduceLE Int.reduceLT Int.reduceEq Int.reduceNe Int.reduceBEq Int.reduceBNe Nat.reduceBEq Nat.reduceBNe reduceCtorEq
attribute [go_sem_proc ↓] reduceIte reduceDIte
attribute [go_sem] List.map_cons List.map_nil List.append_assoc List.cons_append List.nil_append List.append_nil List.length_append List.length_cons List.length_nil List.take_zero List.take_succ_cons List.take_nil List.drop_zero List.drop_succ_cons List.drop_nil Nat.zero_add Nat.add_zero Option.map_some Option.map_none true_and and_true false_and and_false and_self Bool.true_eq_false Bool.false_eq_true Bool.not_true Bool.not_false Bool.not_eq_true' Bool.not_eq_false' Bool.true_and Bool.and_true Bool.false_and Bool.and_false Bool.true_or Bool.or_true Bool.false_or Bool.or_false Bool.bne_true Bool.bne_false Bool.true_bne Bool.false_bne Bool.true_beq Bool.false_beq Bool.not_not decide_true decide_false false_implies true_implies implies_true forall_const List.all_cons List.all_nil beq_self_eq_true bne_self_eq_false Nat.zero_le Nat.le_refl List.getElem?_cons_zero List.getElem?_cons_succ List.isEmpty_nil List.isEmpty_cons Int.cast_ofNat_Int Int.toNat_zero
end GP
namespace GP
open Go
theorem max_of {p : Nat → Prop} {N : Nat} (hN : ∀ i, p i → i ≤ N) : ∀ (k i : Nat), N - i ≤ k → p i → ∃ m, p m ∧ ∀ j, p j → j ≤ m
  | 0, i, hk, hi => ⟨i, hi, fun j hj => by have := hN j hj; omega⟩
  | k + 1, i, hk, hi => by
    by_cases h : ∃ j, p j ∧ i < j
    · obtain ⟨j, hj, hij⟩ := h
      exact max_of hN k j (by have := hN j hj; omega) hj
    · exact ⟨i, hi, fun j hj => Nat.le_of_not_lt fun hij => h ⟨j, hj, hij⟩⟩
open Classical in
noncomputable def topI (I : Nat → S → Prop) (s : S) : Nat := if h : ∃ m, I m s ∧ ∀ j, I j s → j ≤ m then h.choose else 0
theorem W_for {X : Pred} {c : C} {Q : Ex → S → Prop} {s : S} (I : Nat → S → Prop) (N : Nat) (h0 : ∃ i, I i s) (hN : ∀ i s, I i s → i ≤ N) (step : ∀ i s, I i s → W X c (seqK (I (i + 1)) Q) s) (hX : Mono X) : W X (.loop c) Q s := by
  rw [W_loop]
  have hm : ∀ s, (∃ i, I i s) → I (topI I s) s ∧ ∀ j, I j s → j ≤ topI I s := by
    intro s ⟨i, hi⟩
    have h := max_of (p := fun i => I i s) (fun i h => hN i s h) (N - i) i (Nat.le_refl _) hi
    unfold topI
    rw [dif_pos h]
    exact h.choose_spec
  refine ⟨fun s => ∃ i, I i s, fun s => N - topI I s, h0, fun s hs => ?_⟩
  obtain ⟨h1, h2⟩ := hm s hs
  refine W_mono hX ?_ (step _ s h1)
  intro e s' h
  cases e with
  | normal =>
    simp only [seqK] at h ⊢
    obtain ⟨h3, h4⟩ := hm s' ⟨_, h⟩
    have := h4 _ h
    have := hN _ _ h3
    exact ⟨⟨_, h⟩, by omega⟩
  | exit i => exact h
  | ret => exact h
theorem XL_mono (l : Fs) : Mono (XL l) := by
  intro f args H T Q Q' hQ h
  unfold XL at h ⊢
  split at h
  · exact hQ _ _ _ h
  · exact h.elim
def elems : D → List D
  | .sl _ xs => xs
  | _ => []
def isSl : D → Bool
  | .nils => true
  | .sl none _ => true
  | _ => false
mutual
def D.isV : D → Bool
  | .agg [.int .i64 _, .int .i64 _, .str s, .nils] => decide (s.length ≤ 2 ^ 47)
  | .agg [.int .i64 _, .int .i64 _, .str s, .sl none xs] => decide (s.length ≤ 2 ^ 47) && decide (xs.length ≤ 2 ^ 47) && D.isVs xs
  | _ => false
def D.isVs : List D → Bool
  | [] => true
  | d :: l => d.isV && D.isVs l
end
theorem isVs_iff : ∀ {l : List D}, D.isVs l = true ↔ ∀ d ∈ l, d.isV = true
  | [] => by simp [D.isVs]
  | d :: l => by simp [D.isVs, isVs_iff (l := l)]
def mkV (k i : Int) (s : List UInt8) (n : Bool) (l : List D) : D := .agg [.int .i64 k, .int .i64 i, .str s, sliceD n l]
theorem isV_elim {d : D} (h : d.isV = true) : ∃ k i s n l, d = mkV k i s n l ∧ s.length ≤ 2 ^ 47 ∧ l.length ≤ 2 ^ 47 ∧ ∀ x ∈ l, x.isV = true := by
  unfold D.isV at h
  split at h
  · exact ⟨_, _, _, true, [], rfl, by simpa using h, by simp, by simp⟩
  · simp only [Bool.and_eq_true, decide_eq_true_eq] at h
    exact ⟨_, _, _, false, _, rfl, h.1.1, h.1.2, isVs_iff.1 h.2⟩
  · cases h
theorem isV_mk {k i : Int} {s : List UInt8} {n : Bool} {l : List D} (h1 : s.length ≤ 2 ^ 47) (h2 : l.length ≤ 2 ^ 47) (h3 : ∀ x ∈ l, x.isV = true) : (mkV k i s n l).isV = true := by
  unfold mkV
  rcases sliceD_cases n l with ⟨e, rfl⟩ | e <;> rw [e]
  · simp [D.isV, h1]
  · simp [D.isV, h1, h2, isVs_iff.2 h3]
@[go_sem] theorem elems_sliceD (n : Bool) (xs : List D) : elems (sliceD n xs) = xs := by
  rcases sliceD_cases n xs with ⟨h, rfl⟩ | h <;> rw [h] <;> rfl
def vk : D → Int
  | .agg (.int _ k :: _) => k
  | _ => 0
def vi : D → Int
  | .agg (_ :: .int _ k :: _) => k
  | _ => 0
def vs : D → List UInt8
  | .agg (_ :: _ :: .str s :: _) => s
  | _ => []
def vl : D → List D
  | .agg (_ :: _ :: _ :: l :: _) => elems l
  | _ => []
@[go_sem] theorem vk_mk (k i : Int) (s : List UInt8) (n : Bool) (l : List D) : vk (mkV k i s n l) = k := id rfl
@[go_sem] theorem vi_mk (k i : Int) (s : List UInt8) (n : Bool) (l : List D) : vi (mkV k i s n l) = i := id rfl
@[go_sem] theorem vs_mk (k i : Int) (s : List UInt8) (n : Bool) (l : List D) : vs (mkV k i s n l) = s := id rfl
@[go_sem] theorem vl_mk (k i : Int) (s : List UInt8) (n : Bool) (l : List D) : vl (mkV k i s n l) = l := by simp only [vl, mkV, elems_sliceD]
mutual
theorem isV_erase : ∀ {d : D}, d.isV = true → d.erase = d
  | d, h => by
    unfold D.isV at h
    split at h
    · simp [D.erase, D.eraseL]
    · rename_i s xs
      simp only [Bool.and_eq_true, decide_eq_true_eq] at h
      simp [D.erase, D.eraseL, isVs_erase h.2]
    · cases h
theorem isVs_erase : ∀ {l : List D}, D.isVs l = true → D.eraseL l = l
  | [], _ => by simp [D.eraseL]
  | d :: l, h => by
    simp only [D.isVs, Bool.and_eq_true] at h
    simp [D.eraseL, isV_erase h.1, isVs_erase h.2]
end
end GP
namespace GP
open Go
variable {X : Pred} {K : D → S → Prop}
def Ext (H B : Hp) : Prop := ∃ L, B = H ++ L
theorem Ext.refl (H : Hp) : Ext H H := ⟨[], by simp⟩
theorem Ext.app {H B : Hp} (h : Ext H B) (X : Hp) : Ext H (B ++ X) := by obtain ⟨L, rfl⟩ := h; exact ⟨L ++ X, by simp⟩
theorem Ext.trans {A B C : Hp} (h : Ext A B) (k : Ext B C) : Ext A C := by obtain ⟨L, rfl⟩ := h; exact (Ext.refl A).app L |>.elim fun M e => by obtain ⟨N, rfl⟩ := k; exact ⟨M ++ N, by rw [e]; simp⟩
theorem Ext.of (H L : Hp) : Ext H (H ++ L) := ⟨L, rfl⟩
theorem Ext.pre {H L B : Hp} (h : Ext (H ++ L) B) : Ext H B := (Ext.of H L).trans h
theorem Ext.get {H B : Hp} (h : Ext H B) {o : Nat} {x : Ob} (hg : H[o]? = some x) : B[o]? = some x := by
  obtain ⟨L, rfl⟩ := h
  have : o < H.length := by
    rcases Nat.lt_or_ge o H.length with h' | h'
    · exact h'
    · rw [List.getElem?_eq_none h'] at hg; cases hg
  rw [List.getElem?_append_left this]; exact hg
theorem ext_self (H : Hp) : Ext H H = True := eq_true (Ext.refl H)
theorem Ext.t {H B : Hp} (h : Ext H B) : Ext H B = True := eq_true h
theorem Ext.ta {H B : Hp} (h : Ext H B) (X : Hp) : Ext H (B ++ X) = True := eq_true (h.app X)
theorem rdAt_E {B : Hp} {o : Nat} {cs : List D} (h : B[o]? = some (.row cs)) (off : Nat) : rdAt B (.ptr o off) = some (cs.drop off) := by simp [rdAt, h]
theorem rdAt_Ea {B : Hp} {o : Nat} {cs : List D} (h : B[o]? = some (.row cs)) (L : Hp) (off : Nat) : rdAt (B ++ L) (.ptr o off) = some (cs.drop off) := rdAt_E ((Ext.of B L).get h) off
theorem storeK_E {B : Hp} {o : Nat} {cs : List D} (h : B[o]? = some (.row cs)) (t : Nat → D) (T : Tk) (n off : Nat) (v : D) : storeK n K ⟨t, B, T⟩ (.ptr o off) v = (v.okc = true ∧ v.cells.length = n ∧ off + n ≤ cs.length ∧ K .top ⟨t, B.set o (.row (cs.take off ++ v.cells ++ cs.drop (off + n))), T⟩) := by simp [storeK, h]
def ExtT (T U : Tk) : Prop := ∃ L, U = T ++ L
theorem ExtT.refl (T : Tk) : ExtT T T := ⟨[], by simp⟩
theorem ExtT.app {T U : Tk} (h : ExtT T U) (X : Tk) : ExtT T (U ++ X) := by obtain ⟨L, rfl⟩ := h; exact ⟨L ++ X, by simp⟩
theorem ExtT.of (T L : Tk) : ExtT T (T ++ L) := ⟨L, rfl⟩
theorem ExtT.t {T U : Tk} (h : ExtT T U) : ExtT T U = True := eq_true h
theorem ExtT.ta {T U : Tk} (h : ExtT T U) (X : Tk) : ExtT T (U ++ X) = True := eq_true (h.app X)
theorem leaves_E {r r0 : D} {H B : Hp} {T U : Tk} (h : Ext H B) (k : ExtT T U) : Leaves r0 H T r B U = (r.erase = r0) := by
  obtain ⟨L, rfl⟩ := h; obtain ⟨M, rfl⟩ := k; simp [Leaves]
theorem leaves_Ea {r r0 : D} {H B : Hp} {T U : Tk} (h : Ext H B) (k : ExtT T U) (L : Hp) : Leaves r0 H T r (B ++ L) U = (r.erase = r0) := leaves_E (h.app L) k
theorem leaves_Eat {r r0 : D} {H B : Hp} {T U : Tk} (h : Ext H B) (k : ExtT T U) (L : Hp) (M : Tk) : Leaves r0 H T r (B ++ L) (U ++ M) = (r.erase = r0) := leaves_E (h.app L) (k.app M)
end GP
namespace GP
open Go
abbrev FsH := List (FuncId × (Hp → List D → Option D))
def lookH : FsH → Hp → FuncId → List D → Option D
  | [], _, _, _ => none
  | (g, φ) :: l, H, f, a => if f = g then φ H a else lookH l H f a
def MonoH (m : FsH) : Prop := ∀ H H' f a r, Hle H H' → lookH m H f a = some r → lookH m H' f a = some r
def XM (l : Fs) (m : FsH) : Pred := fun f args H T Q => match look l f (D.eraseL args) with
  | some r => Q r H T
  | none => match lookH m H f (D.eraseL args) with
    | some r => Q r H T
    | none => False
variable {P : Program} [HasG P]
def OkAtH (P : Program) [HasG P] (f : FuncId) (φ : Hp → List D → Option D) : Prop := ∀ H args r, φ H args = some r → ∀ args', D.eraseL args' = args → ∀ T (Q : Post), Q r H T → Snd P f args' H T Q
def OkH (P : Program) [HasG P] (m : FsH) : Prop := ∀ H f args r, lookH m H f args = some r → ∀ args', D.eraseL args' = args → ∀ T (Q : Post), Q r H T → Snd P f args' H T Q
theorem OkH.nil : OkH P [] := fun _ _ _ _ h => by simp [lookH] at h
theorem OkH.cons {f : FuncId} {φ : Hp → List D → Option D} {m : FsH} (h : OkAtH P f φ) (k : OkH P m) : OkH P ((f, φ) :: m) := by
  intro H g args r hr
  simp only [lookH] at hr
  split at hr
  · rename_i e; subst e; exact h H args r hr
  · exact k H g args r hr
theorem MonoH.nil : MonoH [] := fun _ _ _ _ _ _ h => by simp [lookH] at h
theorem MonoH.cons {f : FuncId} {φ : Hp → List D → Option D} {m : FsH} (h : ∀ H H' a r, Hle H H' → φ H a = some r → φ H' a = some r) (k : MonoH m) : MonoH ((f, φ) :: m) := by
  intro H H' g a r hl hr
  simp only [lookH] at hr ⊢
  split at hr
  · rename_i e; rw [if_pos e]; exact h H H' a r hl hr
  · rename_i e; rw [if_neg e]; exact k H H' g a r hl hr
theorem XM.X {l : Fs} {m : FsH} (k : Ok P l) (k' : OkH P m) : ∀ f args H T Q Q', (∀ r H T, Q r H T → Q' r H T) → XM l m f args H T Q → Snd P f args H T Q' := by
  intro f args H T Q Q' hQ h
  unfold XM at h
  split at h
  · rename_i r hr
    exact k f _ r hr args rfl H T Q' (hQ _ _ _ h)
  · split at h
    · rename_i r hr
      exact k' H f _ r hr args rfl T Q' (hQ _ _ _ h)
    · exact h.elim
theorem XM_mono (l : Fs) (m : FsH) : Mono (XM l m) := by
  intro f args H T Q Q' hQ h
  unfold XM at h ⊢
  split at h
  · exact hQ _ _ _ h
  · split at h
    · exact hQ _ _ _ h
    · exact h.elim
def orK (K : D → S → Prop) (s : S) : Option D → Option D → Prop
  | some r, _ => K r s
  | none, some r => K r s
  | none, none => False
theorem orK_s (K : D → S → Prop) (s : S) (r : D) (o : Option D) : orK K s (some r) o = K r s := id rfl
theorem orK_n (K : D → S → Prop) (s : S) (r : D) : orK K s none (some r) = K r s := id rfl
theorem pcallH {l : Fs} {m : FsH} (hm : MonoH m) (args : List D) (K : D → S → Prop) (s : S) (f : FuncId) (first cap : List D) :
    pcallK (XM l m) args K s (.fn f first cap) = orK K s (look l f (D.eraseL (first ++ args ++ cap))) (lookH m s.H f (D.eraseL (first ++ args ++ cap))) := by
  simp only [pcallK, eq_iff_iff]
  constructor
  · rintro ⟨r, h1, h2⟩
    have := h1 s.H s.T (fun r' _ _ => r' = r) (fun _ _ h _ => h) rfl
    unfold XM at this
    cases hr : look l f (D.eraseL (first ++ args ++ cap)) with
    | some r' => rw [hr] at this; simp only at this; subst this; exact h2
    | none =>
      rw [hr] at this
      cases hr' : lookH m s.H f (D.eraseL (first ++ args ++ cap)) with
      | some r' => rw [hr'] at this; simp only at this; subst this; exact h2
      | none => rw [hr'] at this; exact this.elim
  · intro h
    cases hr : look l f (D.eraseL (first ++ args ++ cap)) with
    | some r =>
      rw [hr] at h
      refine ⟨r, fun H' T' Q' _ hQ => ?_, h⟩
      unfold XM
      rw [hr]; exact hQ
    | none =>
      rw [hr] at h
      cases hr' : lookH m s.H f (D.eraseL (first ++ args ++ cap)) with
      | none => rw [hr'] at h; exact h.elim
      | some r =>
        rw [hr'] at h
        refine ⟨r, fun H' T' Q' hl hQ => ?_, h⟩
        unfold XM
        rw [hr]
        simp only
        rw [hm _ _ _ _ _ hl hr']
        exact hQ
theorem okH_of {l : Fs} {m : FsH} (hl : Ok P l) (hm : OkH P m) {f : FuncId} {n : Nat} {rs : List (Sum Nat (Nat × Bool × Nat))} {cc : C} (hf : Fn P f n rs cc) {φ : Hp → List D → Option D}
    (h : ∀ H args r, φ H args = some r → args.length ≤ n ∧ r.cl 0 0 = true ∧ ∀ T, W (XM l m) cc (endQ rs (Leaves r H T)) ⟨argT args, H, T⟩) : OkAtH P f φ := by
  intro H args r hr args' he T Q hQ
  obtain ⟨h1, h2, h3⟩ := h H args r hr
  have hS : Snd P f args H T (Leaves r H T) := call_of hf h1 (W_mono (XM.X hl hm) (fun _ _ h => h) (h3 T))
  intro c w vs kg k1 k2 k3
  have k3' : Reps c args vs := by rw [← he]; exact k3.erase
  have hcl := D.cl_mono (Nat.zero_le H.length) (Nat.zero_le T.length) r h2
  rcases hS c w vs kg k1 k2 k3' with ⟨g1, g2⟩ | ⟨v, w', g1, g2⟩
  · exact .inl ⟨g1, g2.mono fun e w' k => CallPost.forget k1 k2 hcl hQ k⟩
  · exact .inr ⟨v, w', g1, CallPost.forget k1 k2 hcl hQ g2⟩
theorem lookH_nil (H : Hp) (f : FuncId) (a : List D) : lookH [] H f a = none := id rfl
theorem lookH_cons (g : FuncId) (φ : Hp → List D → Option D) (l : FsH) (H : Hp) (f : FuncId) (a : List D) : lookH ((g, φ) :: l) H f a = if f = g then φ H a else lookH l H f a := id rfl
end GP
namespace GP
def imp : List Nat := [84,85,87,120,137,1000001]
end GP
