import Derived.Test.YtnipbngimicldaaDoorGpYe
import Derived.Test.YtnipbngimicldaaDoorGpZ
set_option linter.unusedSimpArgs false
/- IndexFunc, ContainsFunc: of elements of whatever shape, with a function whose answer may look at memory. -/
namespace GP
open Go
open Rd O
set_option maxRecDepth 100000
variable {P : Program} [HasG P]

@[go_sem high] theorem iab_nat (sz : Nat) (b : Bool) (xs : List D) (k : IntKind) (i : Nat) : ia sz (sliceD b xs) (.int k (i : Int)) = iaE sz xs[i]? := by
  rw [ia_sliceD, if_pos (by omega)]; simp
@[go_sem high] theorem iab_nat' (sz : Nat) (t : Option Nat) (xs : List D) (k : IntKind) (i : Nat) : ia sz (.sl t xs) (.int k (i : Int)) = iaE sz xs[i]? := by
  rw [ia_sl, if_pos (by omega)]; simp

/-- A list of things of a shape. -/
def isLs (p : D → Prop) (d : D) : Prop := ∃ n l, d = sliceD n l ∧ l.length ≤ 2 ^ 47 ∧ ∀ x ∈ l, p x
theorem isLs_nils (p : D → Prop) : isLs p .nils := ⟨true, [], rfl, by simp, by simp⟩
theorem eraseL_id {l : List D} (h : ∀ x ∈ l, x.erase = x) : D.eraseL l = l := by
  rw [eraseL_map]
  exact (List.map_congr_left h).trans (List.map_id'' (fun _ => rfl) l)
theorem isLs_erase {p : D → Prop} (hp : ∀ x, p x → x.erase = x) {d : D} (h : isLs p d) : d.erase = d := by
  obtain ⟨n, l, rfl, _, hx⟩ := h
  rw [erase_sliceD, eraseL_id fun x hl => hp x (hx x hl)]
theorem wrapIY (a : Int) : IntKind.i64.wrap a = if a % 2 ^ 64 ≥ 2 ^ 63 then a % 2 ^ 64 - 2 ^ 64 else a % 2 ^ 64 := by simp [IntKind.wrap, IntKind.bits, IntKind.signed]
theorem wrap_inY {a : Int} (h1 : -(2 ^ 63) ≤ a) (h2 : a < 2 ^ 63) : IntKind.i64.wrap a = a := by rw [wrapIY]; split <;> omega
theorem wrap_natY (n : Nat) (h : n ≤ 2 ^ 62) : IntKind.i64.wrap ((n : Int) + 1) = ((n + 1 : Nat) : Int) := by
  rw [wrap_inY (by omega) (by omega)]; rfl

/-- An element of a slice: how it reads. -/
structure El (ag : Bool) (sz : Nat) (x : D) : Prop where
  erase : x.erase = x
  len : x.cells.length = sz
  ld : ld ag sz (some x.cells) = some x
theorem El.agg {sz : Nat} {x : D} (h1 : x.erase = x) (h2 : x.cells.length = sz) (h3 : D.agg x.cells = x) : El true sz x :=
  ⟨h1, h2, by simp only [GP.ld, if_true]; rw [if_pos (by omega), List.take_of_length_le (by omega), h3]⟩

def isT : Option D → Bool
  | some (.bool b) => b
  | _ => false
def idxP (p : D → Bool) (l : List D) : Int := match l.findIdx? p with
  | some i => i
  | none => -1

def idxC (ag : Bool) (sz : Nat) : C :=
  (.seq (.reg [⟨(some 4), none, .mv (k (.int .i64 0))⟩])
  (.seq (.seq (.reg [⟨(some 6), none, .mv (t 0)⟩, ⟨(some 7), none, .len (t 6)⟩, ⟨(some 8), none, .mv (k (.int .i64 0))⟩])
  (.block 0
  (.loop
  (.seq (.reg [⟨(some 9), none, .bin .lss (t 8) (t 7)⟩])
  (.seq (.cond (t 9)
  .skip
  (.exit 0))
  (.seq (.block 1
  (.seq (.reg [⟨(some 10), none, .mv (t 8)⟩, ⟨(some 5), none, .mv (t 10)⟩])
  (.seq (.reg [⟨(some 11), none, .mv (t 1)⟩, ⟨(some 12), none, .mv (t 0)⟩, ⟨(some 13), none, .mv (t 5)⟩, ⟨(some 14), none, .iaddr sz (t 12) (t 13)⟩, ⟨(some 15), none, .load ag sz (t 14)⟩, ⟨(some 16), none, .pcall (t 11) [(t 15)]⟩])
  (.cond (t 16)
  (.seq (.reg [⟨(some 17), none, .mv (t 5)⟩, ⟨(some 4), none, .mv (t 17)⟩])
  .ret)
  .skip))))
  (.reg [⟨(some 18), none, .bin .add (t 8) (k (.int .i64 1))⟩, ⟨(some 8), none, .mv (t 18)⟩])))))))
  (.seq (.reg [⟨(some 4), none, .mv (k (.int .i64 (-1)))⟩])
  .ret)))

open Classical in
/-- IndexFunc's answer. -/
noncomputable def φidx (f : FuncId) (φf : Hp → List D → Option D) (good : D → Prop) (H : Hp) : List D → Option D
  | [l, .fn g [] cap] => if g = f ∧ isLs good l ∧ D.eraseL cap = cap ∧ ∀ x ∈ elems l, ∃ b, φf H (x :: cap) = some (.bool b) then some (.int .i64 (idxP (fun x => isT (φf H (x :: cap))) (elems l))) else none
  | _ => none
def Mo (φf : Hp → List D → Option D) : Prop := ∀ H H' a r, Hle H H' → φf H a = some r → φf H' a = some r
theorem Mo.const (φ : List D → Option D) : Mo (fun _ => φ) := fun _ _ _ _ _ h => h
theorem OkAt.lift {f : FuncId} {φ : List D → Option D} (h : OkAt P f φ) : OkAtH P f (fun _ => φ) := fun H args r hr args' he T Q hQ => h args r hr args' he H T Q hQ
theorem idxP_congr {p q : D → Bool} {l : List D} (h : ∀ x ∈ l, p x = q x) : idxP p l = idxP q l := by
  unfold idxP
  have : l.findIdx? p = l.findIdx? q := by
    induction l with
    | nil => rfl
    | cons a l ih =>
      simp only [List.findIdx?_cons, h a (by simp), ih (fun x hx => h x (by simp [hx]))]
  rw [this]
theorem φidx_mono {f : FuncId} {φf : Hp → List D → Option D} (hm : Mo φf) (good : D → Prop) : Mo (φidx f φf good) := by
  intro H H' a r hl h
  unfold φidx at h ⊢
  split at h
  · rename_i l g cap
    split at h
    · rename_i hc
      obtain ⟨h1, h2, h3, h4⟩ := hc
      have h4' : ∀ x ∈ elems l, ∃ b, φf H' (x :: cap) = some (.bool b) := fun x hx => by
        obtain ⟨b, hb⟩ := h4 x hx
        exact ⟨b, hm _ _ _ _ hl hb⟩
      rw [if_pos ⟨h1, h2, h3, h4'⟩, ← h]
      congr 2
      refine idxP_congr fun x hx => ?_
      obtain ⟨b, hb⟩ := h4 x hx
      rw [hb, hm _ _ _ _ hl hb]
    · cases h
  · cases h

theorem findIdx_at {p : D → Bool} : ∀ {l : List D} {i : Nat} {x : D}, l[i]? = some x → p x = true → (∀ (j : Nat) y, j < i → l[j]? = some y → p y = false) → l.findIdx? p = some i
  | a :: l, 0, x, h, hp, _ => by simp at h; subst h; simp [List.findIdx?_cons, hp]
  | a :: l, i + 1, x, h, hp, hn => by
    have h0 := hn 0 a (by omega) rfl
    have := findIdx_at (l := l) (i := i) (x := x) (by simpa using h) hp (fun j y hj hy => hn (j + 1) y (by omega) (by simpa using hy))
    simp [List.findIdx?_cons, h0, this]
theorem findIdx_no {p : D → Bool} : ∀ {l : List D}, (∀ (j : Nat) y, l[j]? = some y → p y = false) → l.findIdx? p = none
  | [], _ => rfl
  | a :: l, h => by
    have h0 := h 0 a rfl
    have := findIdx_no (l := l) (fun j y hy => h (j + 1) y (by simpa using hy))
    simp [List.findIdx?_cons, h0, this]

theorem okIdx {ag : Bool} {sz : Nat} {N : FuncId} (hf : Fn P N 19 [.inl 4] (idxC ag sz)) {f : FuncId} {φf : Hp → List D → Option D} (hφ : OkAtH P f φf) (hm : Mo φf) {good : D → Prop} (hg : ∀ x, good x → El ag sz x) : OkAtH P N (φidx f φf good) := by
  have M : MonoH [(f, φf)] := .cons hm .nil
  refine okH_of (l := []) (m := [(f, φf)]) .nil (.cons hφ .nil) hf fun H args r h => ?_
  unfold φidx at h
  split at h
  · rename_i l g cap
    split at h
    · rename_i hc
      obtain ⟨rfl, ⟨n, xs, rfl, hl, hx⟩, h3, h4⟩ := hc
      rw [elems_sliceD] at h h4
      injection h with h; subst h
      refine ⟨by simp, by simp [D.cl], fun T => ?_⟩
      simp (config := { contextual := true, maxSteps := 10000000 }) only [idxC, go_sem, Nat.reduceAdd, Nat.reduceSub, Nat.reduceMul, Nat.reduceEqDiff, Nat.reduceLeDiff, Nat.reduceLT, Int.reduceToNat, Int.reduceLE, Int.reduceLT, Int.reduceEq, Int.reduceNe, Int.reduceBEq, Int.reduceBNe, Nat.reduceBEq, Nat.reduceBNe, ↓reduceIte, reduceCtorEq, ↓reduceDIte, W_draw]
      refine W_for (fun i s => s.t 0 = sliceD n xs ∧ s.t 1 = .fn g [] cap ∧ s.t 6 = sliceD n xs ∧ s.t 7 = .int .i64 xs.length ∧ s.t 8 = .int .i64 i ∧ s.H = H ∧ s.T = T ∧ i ≤ xs.length ∧ ∀ (j : Nat) x, j < i → xs[j]? = some x → isT (φf H (x :: cap)) = false) xs.length ⟨0, by simp [upd, argT]⟩ (fun i s h => h.2.2.2.2.2.2.2.1) ?_ (XM_mono _ _)
      rintro i ⟨t, H', T'⟩ ⟨h0, h1, h6, h7, h8, rfl, rfl, hi, hc⟩
      simp only at h0 h1 h6 h7 h8
      by_cases ha : i < xs.length
      · have d1 : decide ((i : Int) < xs.length) = true := by simpa using ha
        have e : xs[i]? = some xs[i] := by simp [ha]
        have hxi := hx _ (List.getElem_mem ha)
        obtain ⟨b, hb⟩ := h4 _ (List.getElem_mem ha)
        have E := hg _ hxi
        generalize xs[i] = x at *
        have hle := E.len
        have hld := E.ld
        have her := E.erase
        cases b with
        | true =>
          have hI : idxP (fun x => isT (φf H' (x :: cap))) xs = i := by
            unfold idxP
            rw [findIdx_at e (by rw [hb]; rfl) hc]
          simp (config := { contextual := true, maxSteps := 10000000 }) only [h0, h1, h6, h7, h8, d1, e, hle, hld, her, h3, hb, hI, wrap_natY i (by omega), pcallH M, lookH_cons, lookH_nil, orK_n, go_sem, Nat.reduceAdd, Nat.reduceSub, Nat.reduceMul, Nat.reduceEqDiff, Nat.reduceLeDiff, Nat.reduceLT, Int.reduceToNat, Int.reduceLE, Int.reduceLT, Int.reduceEq, Int.reduceNe, Int.reduceBEq, Int.reduceBNe, Nat.reduceBEq, Nat.reduceBNe, ↓reduceIte, reduceCtorEq, ↓reduceDIte, W_draw]
        | false =>
          have nx : ∀ (j : Nat) x, j < i + 1 → xs[j]? = some x → isT (φf H' (x :: cap)) = false := fun j y hj hy => by
            by_cases hji : j = i
            · subst hji; rw [e] at hy; injection hy with hy; subst hy; rw [hb]; rfl
            · exact hc j y (by omega) hy
          simp (config := { contextual := true, maxSteps := 10000000 }) only [h0, h1, h6, h7, h8, d1, e, hle, hld, her, h3, hb, wrap_natY i (by omega), pcallH M, lookH_cons, lookH_nil, orK_n, go_sem, Nat.reduceAdd, Nat.reduceSub, Nat.reduceMul, Nat.reduceEqDiff, Nat.reduceLeDiff, Nat.reduceLT, Int.reduceToNat, Int.reduceLE, Int.reduceLT, Int.reduceEq, Int.reduceNe, Int.reduceBEq, Int.reduceBNe, Nat.reduceBEq, Nat.reduceBNe, ↓reduceIte, reduceCtorEq, ↓reduceDIte, W_draw]
          exact ⟨by omega, nx⟩
      · have d1 : decide ((i : Int) < xs.length) = false := by simpa using ha
        have hI : idxP (fun x => isT (φf H' (x :: cap))) xs = -1 := by
          unfold idxP
          rw [findIdx_no (fun j y hy => hc j y (by
            rcases Nat.lt_or_ge j i with h' | h'
            · exact h'
            · rw [List.getElem?_eq_none (by omega)] at hy; cases hy) hy)]
        simp (config := { contextual := true, maxSteps := 10000000 }) only [h0, h1, h6, h7, h8, d1, hI, go_sem, Nat.reduceAdd, Nat.reduceSub, Nat.reduceMul, Nat.reduceEqDiff, Nat.reduceLeDiff, Nat.reduceLT, Int.reduceToNat, Int.reduceLE, Int.reduceLT, Int.reduceEq, Int.reduceNe, Int.reduceBEq, Int.reduceBNe, Nat.reduceBEq, Nat.reduceBNe, ↓reduceIte, reduceCtorEq, ↓reduceDIte, W_draw]
    · cases h
  · cases h

def cfC (g : FuncId) : C :=
  (.seq (.reg [⟨(some 4), none, .mv (k (.bool false))⟩])
  (.seq (.reg [⟨(some 5), none, .mv (t 0)⟩, ⟨(some 6), none, .mv (t 1)⟩, ⟨(some 7), none, .pcall (k (.fn g [] [])) [(t 5), (t 6)]⟩, ⟨(some 8), none, .bin .geq (t 7) (k (.int .i64 0))⟩, ⟨(some 4), none, .mv (t 8)⟩])
  .ret))
open Classical in
/-- ContainsFunc's answer. -/
noncomputable def φcf (f : FuncId) (φf : Hp → List D → Option D) (good : D → Prop) (H : Hp) : List D → Option D
  | [l, .fn g [] cap] => if g = f ∧ isLs good l ∧ D.eraseL cap = cap ∧ ∀ x ∈ elems l, ∃ b, φf H (x :: cap) = some (.bool b) then some (.bool ((elems l).any (fun x => isT (φf H (x :: cap))))) else none
  | _ => none
theorem idxP_any (p : D → Bool) (l : List D) : decide ((0 : Int) ≤ idxP p l) = l.any p := by
  unfold idxP
  cases h : l.findIdx? p with
  | some i =>
    have : l.any p = true := by
      rw [List.findIdx?_eq_some_iff_getElem] at h
      obtain ⟨h1, h2, _⟩ := h
      exact List.any_eq_true.2 ⟨_, List.getElem_mem h1, h2⟩
    rw [this]; simp
  | none =>
    have : l.any p = false := by
      rw [List.findIdx?_eq_none_iff] at h
      exact List.any_eq_false.2 fun x hx => by simp [h x hx]
    rw [this]; rfl
theorem any_congr' {p q : D → Bool} {l : List D} (h : ∀ x ∈ l, p x = q x) : l.any p = l.any q := by
  induction l with
  | nil => rfl
  | cons a l ih => simp only [List.any_cons, h a (by simp), ih (fun x hx => h x (by simp [hx]))]
theorem φcf_mono {f : FuncId} {φf : Hp → List D → Option D} (hm : Mo φf) (good : D → Prop) : Mo (φcf f φf good) := by
  intro H H' a r hl h
  unfold φcf at h ⊢
  split at h
  · rename_i l g cap
    split at h
    · rename_i hc
      obtain ⟨h1, h2, h3, h4⟩ := hc
      have h4' : ∀ x ∈ elems l, ∃ b, φf H' (x :: cap) = some (.bool b) := fun x hx => by
        obtain ⟨b, hb⟩ := h4 x hx
        exact ⟨b, hm _ _ _ _ hl hb⟩
      rw [if_pos ⟨h1, h2, h3, h4'⟩, ← h]
      congr 2
      refine any_congr' fun x hx => ?_
      obtain ⟨b, hb⟩ := h4 x hx
      rw [hb, hm _ _ _ _ hl hb]
    · cases h
  · cases h
theorem okCf {N M : FuncId} (hf : Fn P N 9 [.inl 4] (cfC M)) {f : FuncId} {φf : Hp → List D → Option D} {good : D → Prop} (hge : ∀ x, good x → x.erase = x) (hi : OkAtH P M (φidx f φf good)) (hm : Mo φf) : OkAtH P N (φcf f φf good) := by
  have MM : MonoH [(M, φidx f φf good)] := .cons (φidx_mono hm good) .nil
  refine okH_of (l := []) (m := [(M, φidx f φf good)]) .nil (.cons hi .nil) hf fun H args r h => ?_
  unfold φcf at h
  split at h
  · rename_i l g cap
    split at h
    · rename_i hc
      have p : φidx f φf good H [l, .fn g [] cap] = some (.int .i64 (idxP (fun x => isT (φf H (x :: cap))) (elems l))) := by
        simp only [φidx]; rw [if_pos hc]
      have a := idxP_any (fun x => isT (φf H (x :: cap))) (elems l)
      obtain ⟨rfl, h2, h3, h4⟩ := hc
      have el := isLs_erase hge h2
      injection h with h; subst h
      refine ⟨by simp, by simp [D.cl], fun T => ?_⟩
      simp (config := { contextual := true, maxSteps := 10000000 }) only [cfC, el, h3, p, pcallH MM, lookH_cons, lookH_nil, orK_n, a, go_sem, Nat.reduceAdd, Nat.reduceSub, Nat.reduceMul, Nat.reduceEqDiff, Nat.reduceLeDiff, Nat.reduceLT, Int.reduceToNat, Int.reduceLE, Int.reduceLT, Int.reduceEq, Int.reduceNe, Int.reduceBEq, Int.reduceBNe, Nat.reduceBEq, Nat.reduceBNe, ↓reduceIte, reduceCtorEq, ↓reduceDIte, W_draw]
    · cases h
  · cases h
end GP
