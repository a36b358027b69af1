import Derived.Test.YtnipbngimicldaaDoorGpA
import Derived.Laws.Append
import Derived.Below
import Derived.Laws.StructEq
/- What the abstract machine's states mean in the model's worlds. -/
namespace GP
open Go

/-- Below block number B the world w' is as w was; no block has gone. -/
structure Below (B : Nat) (w w' : World) : Prop where
  os : w'.os = w.os
  tape : w'.tape = w.tape
  output : w'.output = w.output
  size : w.heap.size ≤ w'.heap.size
  block : ∀ k, k < B → w'.heap[k]? = w.heap[k]?

theorem Below.refl (B : Nat) (w : World) : Below B w w := ⟨rfl, rfl, rfl, Nat.le_refl _, fun _ _ => rfl⟩
theorem Below.trans {B : Nat} {a b c : World} (h : Below B a b) (k : Below B b c) : Below B a c :=
  ⟨k.os.trans h.os, k.tape.trans h.tape, k.output.trans h.output, Nat.le_trans h.size k.size, fun i hi => (k.block i hi).trans (h.block i hi)⟩
theorem Below.mono {B B' : Nat} {w w' : World} (h : Below B w w') (hB : B' ≤ B) : Below B' w w' := ⟨h.os, h.tape, h.output, h.size, fun k hk => h.block k (Nat.lt_of_lt_of_le hk hB)⟩
theorem Below.drew {B : Nat} {a w : World} (h : Below B a w) : Below B a w.drew := ⟨h.os, h.tape, h.output, h.size, h.block⟩
theorem Below.alloc {B : Nat} {a w : World} (h : Below B a w) (hB : B ≤ w.heap.size) (o : Obj) : Below B a (w.alloc o) :=
  h.trans ⟨rfl, rfl, rfl, by simp, fun k hk => RowKit.Below.heap_alloc _ _ _ (by omega)⟩
theorem Below.of_kit {B : Nat} {w w' : World} (h : RowKit.Below B w w') : Below B w w' := ⟨h.os, h.tape, h.output, h.size, h.block⟩
theorem Below.kit {B : Nat} {w w' : World} (h : Below B w w') : RowKit.Below B w w' := ⟨h.os, h.tape, h.output, h.size, h.block⟩

structure Cx where
  M : Addr → Option Value
  β : Nat → Nat
  κ : Nat → Addr × Nat
  bd : Nat → Bool
  T : Tk
  B : Nat
  sz : Nat → Nat

inductive Rep (c : Cx) : D → Value → Prop where
  | bool (b : Bool) : Rep c (.bool b) (.bool b)
  | int (k : IntKind) (n : Int) : Rep c (.int k n) (.int k n)
  | str (l : List UInt8) (h : l.length < 2 ^ 62) : Rep c (.str l) (.string ⟨l.toArray⟩)
  | nilp : Rep c .nilp (.pointer none)
  | ptr (o off : Nat) (h : c.bd o = true) : Rep c (.ptr o off) (.pointer (some ⟨c.β o, off, none⟩))
  | el (cs : List D) (a : Addr) (vs : Nat → Value) (ha : a.spot = none) (h1 : ∀ d ∈ cs, d.one = true)
      (hM : ∀ i, i < cs.length → c.M ⟨a.block, a.off + i, none⟩ = some (vs i)) (hr : ∀ i (h : i < cs.length), Rep c cs[i] (vs i)) : Rep c (.el cs) (.pointer (some a))
  | nils : Rep c .nils (.slice none 0 0)
  | sl (t : Option Nat) (xs : List D) (a : Option Addr) (cap sz : Nat) (vs : Nat → Nat → Value) (hlen : xs.length ≤ cap) (hb : xs.length < 2 ^ 62)
      (hsz : ∀ x ∈ xs, x.cells.length = sz) (h1 : ∀ x ∈ xs, ∀ y ∈ x.cells, y.one = true) (ha : xs ≠ [] → ∃ b, a = some b) (hs : xs ≠ [] → ∀ b, a = some b → b.spot = none)
      (hM : ∀ i, i < xs.length → ∀ j, j < sz → ∀ b, a = some b → c.M ⟨b.block, b.off + i * sz + j, none⟩ = some (vs i j))
      (hr : ∀ i (h : i < xs.length) j (hj : j < (xs[i].cells).length), Rep c (xs[i].cells)[j] (vs i j))
      (htl : ∀ τ, t = some τ → τ < c.T.length)
      (ht : ∀ τ, t = some τ → ∀ n z, c.T[τ]? = some (some (n, z)) → xs.length ≤ n ∧ (xs.length = n → a = some (c.κ τ).1 ∧ cap = (c.κ τ).2)) :
      Rep c (.sl t xs) (.slice a xs.length cap)
  | ms (ag : Bool) (z o off len cap rc : Nat) (h : c.bd o = true) (h1 : len ≤ cap) (h2 : cap ≤ rc) (h3 : off + rc * z ≤ c.sz o) : Rep c (.ms ag z o off len cap) (.slice (some ⟨c.β o, off, none⟩) len rc)
  | e0 (a : Option Addr) : Rep c .e0 (.slice a 0 0)
  | fn (f : FuncId) (p q : List D) (vp vq : List Value) (hp : vp.length = p.length) (hq : vq.length = q.length)
      (hpr : ∀ i (h : i < p.length) (h' : i < vp.length), Rep c p[i] vp[i]) (hqr : ∀ i (h : i < q.length) (h' : i < vq.length), Rep c q[i] vq[i]) :
      Rep c (.fn f p q) (.func (.func f) vp.toArray vq.toArray)
  | nilf : Rep c .nilf .nilFunc
  | mp (o : Nat) (h : c.bd o = true) : Rep c (.mp o) (.map (some (c.β o)))
  | nilm : Rep c .nilm (.map none)
  | nili : Rep c .nili .nilIface
  | ifc (t : TypeId) (d : D) (v : Value) (h : Rep c d v) : Rep c (.ifc t d) (.iface t v)
  | agg (cs : List D) (vs : List Value) (hl : vs.length = cs.length) (h1 : ∀ d ∈ cs, d.one = true) (hr : ∀ i (h : i < cs.length) (h' : i < vs.length), Rep c cs[i] vs[i]) :
      Rep c (.agg cs) (.agg vs.toArray)
  | tup (cs : List D) (vs : List Value) (hl : vs.length = cs.length) (hr : ∀ i (h : i < cs.length) (h' : i < vs.length), Rep c cs[i] vs[i]) :
      Rep c (.tup cs) (.tuple vs.toArray)
  | top (v : Value) : Rep c .top v

structure Cx.le (c c' : Cx) : Prop where
  M : ∀ a v, c.M a = some v → c'.M a = some v
  bd : ∀ o, c.bd o = true → c'.bd o = true
  β : ∀ o, c.bd o = true → c'.β o = c.β o
  T : c.T.length ≤ c'.T.length
  dead : ∀ τ : Nat, c.T[τ]? = some none → c'.T[τ]? = some none
  tok : ∀ (τ n z : Nat), c.T[τ]? = some (some (n, z)) → c'.T[τ]? = some none ∨ ∃ n', c'.T[τ]? = some (some (n', z)) ∧ n ≤ n' ∧ (n' = n → c'.κ τ = c.κ τ)
  B : c'.B = c.B
  sz : ∀ o, c.bd o = true → c'.sz o = c.sz o

theorem Cx.le.refl (c : Cx) : c.le c := ⟨fun _ _ h => h, fun _ h => h, fun _ _ => rfl, Nat.le_refl _, fun _ h => h, fun _ n _ h => .inr ⟨n, h, Nat.le_refl _, fun _ => rfl⟩, rfl, fun _ _ => rfl⟩

theorem Cx.le.trans {a b c : Cx} (h : a.le b) (k : b.le c) : a.le c where
  M := fun x v hx => k.M x v (h.M x v hx)
  bd := fun o ho => k.bd o (h.bd o ho)
  β := fun o ho => (k.β o (h.bd o ho)).trans (h.β o ho)
  T := Nat.le_trans h.T k.T
  dead := fun τ hτ => k.dead τ (h.dead τ hτ)
  tok := fun τ n z hτ => by
    rcases h.tok τ n z hτ with h1 | ⟨n', h1, h2, h3⟩
    · exact .inl (k.dead τ h1)
    · rcases k.tok τ n' z h1 with k1 | ⟨n'', k1, k2, k3⟩
      · exact .inl k1
      · exact .inr ⟨n'', k1, Nat.le_trans h2 k2, fun e => by
          have e1 : n' = n := by omega
          rw [k3 (by omega), h3 e1]⟩
  B := k.B.trans h.B
  sz := fun o ho => (k.sz o (h.bd o ho)).trans (h.sz o ho)

theorem Rep.mono {c c' : Cx} (h : c.le c') {d : D} {v : Value} (hr : Rep c d v) : Rep c' d v := by
  induction hr with
  | bool b => exact .bool b
  | int k n => exact .int k n
  | str l h => exact .str l h
  | nilp => exact .nilp
  | ptr o off ho => rw [← h.β o ho]; exact .ptr o off (h.bd o ho)
  | el cs a vs ha h1 hM _ ih => exact .el cs a vs ha h1 (fun i hi => h.M _ _ (hM i hi)) ih
  | nils => exact .nils
  | sl t xs a cap sz vs hlen hb hsz h1 ha hs hM _ htl ht ih =>
    refine .sl t xs a cap sz vs hlen hb hsz h1 ha hs (fun i hi j hj b hb => h.M _ _ (hM i hi j hj b hb)) ih (fun τ hτ => Nat.lt_of_lt_of_le (htl τ hτ) h.T) ?_
    intro τ hτ n z hn
    have hlt := htl τ hτ
    cases hold : c.T[τ]? with
    | none => simp at hold; omega
    | some x =>
      cases x with
      | none => rw [h.dead τ hold] at hn; cases hn
      | some p =>
        obtain ⟨n0, z0⟩ := p
        obtain ⟨g1, g2⟩ := ht τ hτ n0 z0 hold
        rcases h.tok τ n0 z0 hold with h3 | ⟨n', h3, h4, h5⟩
        · rw [h3] at hn; cases hn
        · rw [h3] at hn
          injection hn with hn; injection hn with hn; injection hn with hn1 hn2
          subst hn1
          refine ⟨by omega, fun e => ?_⟩
          have e1 : n' = n0 := by omega
          rw [h5 e1]
          exact g2 (by omega)
  | ms ag z o off len cap rc ho h1 h2 h3 => rw [← h.β o ho]; exact .ms ag z o off len cap rc (h.bd o ho) h1 h2 (by rw [h.sz o ho]; exact h3)
  | e0 a => exact .e0 a
  | fn f p q vp vq hp hq _ _ ih1 ih2 => exact .fn f p q vp vq hp hq ih1 ih2
  | nilf => exact .nilf
  | mp o ho => rw [← h.β o ho]; exact .mp o (h.bd o ho)
  | nilm => exact .nilm
  | nili => exact .nili
  | ifc t d v _ ih => exact .ifc t d v ih
  | agg cs vs hl h1 _ ih => exact .agg cs vs hl h1 ih
  | tup cs vs hl _ ih => exact .tup cs vs hl ih
  | top v => exact .top v

theorem Rep.oneCell {c : Cx} {d : D} {v : Value} (h : Rep c d v) (h1 : d.one = true) : v.oneCell' = true := by
  cases h <;> simp [D.one, Value.oneCell'] at *

theorem Rep.cells_one {c : Cx} {d : D} {v : Value} (h : Rep c d v) (h1 : d.one = true) : d.cells = [d] ∧ v.cells = #[v] := by
  cases h <;> simp [D.one, D.cells, Value.cells] at *

/-- The cells of a value and of what it stands for. -/
structure Cells (c : Cx) (ds : List D) (vs : List Value) : Prop where
  len : vs.length = ds.length
  one : ∀ d ∈ ds, d.one = true
  rep : ∀ i (h : i < ds.length) (h' : i < vs.length), Rep c ds[i] vs[i]

theorem Cells.mono {c c' : Cx} (h : c.le c') {ds : List D} {vs : List Value} (k : Cells c ds vs) : Cells c' ds vs := ⟨k.len, k.one, fun i h1 h2 => (k.rep i h1 h2).mono h⟩

theorem Cells.cell {c : Cx} {ds : List D} {vs : List Value} (k : Cells c ds vs) : ∀ v ∈ vs, v.oneCell' = true := by
  intro v hv
  obtain ⟨i, hi, rfl⟩ := List.getElem_of_mem hv
  have hi' : i < ds.length := by rw [← k.len]; exact hi
  exact (k.rep i hi' hi).oneCell (k.one _ (List.getElem_mem hi'))

theorem Rep.cells {c : Cx} {d : D} {v : Value} (h : Rep c d v) (hk : d.okc = true) : Cells c d.cells v.cells.toList := by
  cases h with
  | agg cs vs hl h1 hr => exact ⟨by simpa [Value.cells, D.cells] using hl, by simpa [D.cells] using h1, fun i h h' => hr i h h'⟩
  | tup => simp [D.okc] at hk
  | top => simp [D.okc] at hk
  | _ =>
    refine ⟨by simp [Value.cells, D.cells], by simp [D.cells, D.one], fun i h h' => ?_⟩
    have hi : i = 0 := by simp [D.cells] at h; omega
    subst hi
    simp only [D.cells, Value.cells, List.getElem_cons_zero]
    first
      | (constructor <;> assumption)
      | exact .bool _
      | exact .int _ _
      | exact .nilp
      | exact .e0 _
      | exact .nils
      | exact .nilf
      | exact .nilm
      | exact .nili

/-- A list of values, each standing for its abstract value. -/
structure Reps (c : Cx) (ds : List D) (vs : List Value) : Prop where
  len : vs.length = ds.length
  rep : ∀ i (h : i < ds.length) (h' : i < vs.length), Rep c ds[i] vs[i]

theorem Reps.mono {c c' : Cx} (h : c.le c') {ds : List D} {vs : List Value} (k : Reps c ds vs) : Reps c' ds vs := ⟨k.len, fun i h1 h2 => (k.rep i h1 h2).mono h⟩

theorem Reps.append {c : Cx} {d1 d2 : List D} {v1 v2 : List Value} (h1 : Reps c d1 v1) (h2 : Reps c d2 v2) : Reps c (d1 ++ d2) (v1 ++ v2) := by
  refine ⟨by simp [h1.len, h2.len], fun i h h' => ?_⟩
  by_cases hi : i < d1.length
  · rw [List.getElem_append_left hi, List.getElem_append_left (by rw [h1.len]; exact hi)]
    exact h1.rep i _ _
  · rw [List.getElem_append_right (by omega), List.getElem_append_right (by rw [h1.len]; omega)]
    have := h2.rep (i - d1.length) (by simp at h; omega) (by simp [h1.len, h2.len] at h' ⊢; omega)
    simpa [h1.len] using this

theorem Reps.nil {c : Cx} : Reps c [] [] := ⟨rfl, fun i h _ => absurd h (by simp)⟩

theorem Reps.map {c : Cx} {α : Type} (l : List α) (f : α → D) (g : α → Value) (h : ∀ x ∈ l, Rep c (f x) (g x)) : Reps c (l.map f) (l.map g) :=
  ⟨by simp, fun i h1 h2 => by simpa using h _ (List.getElem_mem _)⟩

def Ob.live : Ob → Bool
  | .dead | .hole => false
  | _ => true

/-- Row objects lie in blocks of their own, at their beginning. -/
structure RowAt (c : Cx) (w : World) (b n : Nat) (cs : List D) : Prop where
  hold : ∃ (vs rest : List Value) (e : TypeId) (fr : Nat × Nat), w.heap[b]? = some (.cells (vs ++ rest).toArray e fr) ∧ Cells c cs vs ∧ vs.length + rest.length = n ∧ ∀ i, i < n → ¬ (fr.1 ≤ i ∧ i < fr.2)

structure Inv (c : Cx) (w : World) (H : Hp) : Prop where
  keep : ∀ a v, c.M a = some v → w.cell? a = some v
  low : c.B ≤ w.heap.size
  row : ∀ (o : Nat) x cs, H[o]? = some x → x.cells? = some cs → RowAt c w (c.β o) (c.sz o) cs
  free : ∀ o, (H.length ≤ o ∨ H[o]? = some .hole) → c.bd o = false
  own : ∀ (o : Nat) x, H[o]? = some x → x.live = true → c.bd o = true ∧ c.B ≤ c.β o ∧ c.β o < w.heap.size ∧ ∀ i, c.M ⟨c.β o, i, none⟩ = none
  apart : ∀ (o o' : Nat) x x', H[o]? = some x → H[o']? = some x' → x.live = true → x'.live = true → c.β o = c.β o' → o = o'
  map : ∀ (o : Nat) es, H[o]? ≠ some (.map es)
  iter : ∀ (o : Nat) m l, H[o]? ≠ some (.iter m l)
  tok : ∀ (τ n z : Nat), c.T[τ]? = some (some (n, z)) → c.B ≤ (c.κ τ).1.block ∧ (c.κ τ).1.block < w.heap.size ∧ (c.κ τ).1.spot = none ∧ n ≤ (c.κ τ).2 ∧
    ∀ j, n * z ≤ j → j < (c.κ τ).2 * z → (w.cell? ⟨(c.κ τ).1.block, (c.κ τ).1.off + j, none⟩).isSome = true ∧ w.frozen? ⟨(c.κ τ).1.block, (c.κ τ).1.off + j, none⟩ = false ∧
      c.M ⟨(c.κ τ).1.block, (c.κ τ).1.off + j, none⟩ = none
  tokrow : ∀ (τ n z o : Nat) x, c.T[τ]? = some (some (n, z)) → H[o]? = some x → x.live = true → c.β o ≠ (c.κ τ).1.block
  toks : ∀ (τ n z τ' n' z' : Nat), c.T[τ]? = some (some (n, z)) → c.T[τ']? = some (some (n', z')) → (c.κ τ).1.block = (c.κ τ').1.block → τ = τ'

/-- A frame's slots. -/
def FR (c : Cx) (t : Nat → D) (a : Act) : Prop := ∀ i, Rep c (t i) (a.tmps.getD i undef)

structure Sim (c : Cx) (s : S) (a : Act) (w : World) : Prop where
  T : c.T = s.T
  inv : Inv c w s.H
  fr : FR c s.t a

theorem FR.mono {c c' : Cx} (h : c.le c') {t : Nat → D} {a : Act} (k : FR c t a) : FR c' t a := fun i => (k i).mono h

theorem FR.put {c : Cx} {t : Nat → D} {a : Act} (k : FR c t a) {i : Nat} {d : D} {v : Value} (hr : Rep c d v) (hi : i < a.tmps.size) : FR c (upd t i d) (a.put (some i) v) := by
  intro j
  simp only [upd, Act.put]
  by_cases h : j = i
  · subst h; simpa [hi] using hr
  · rw [if_neg h]
    have := k j
    simpa [Array.getElem?_setIfInBounds_ne (Ne.symm h)] using this

end GP
