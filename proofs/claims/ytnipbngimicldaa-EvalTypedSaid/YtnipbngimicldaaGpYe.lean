import Derived.Test.YtnipbngimicldaaGpY
import Derived.Test.YtnipbngimicldaaGpZ
/- Heaps that have grown: what was there is there. -/
namespace GP
open Go
variable {X : Pred} {K : D → S → Prop}

/-- B begins as H. -/
def Ext (H B : Hp) : Prop := ∃ L, B = H ++ L
theorem Ext.refl (H : Hp) : Ext H H := ⟨[], by simp⟩
theorem Ext.app {H B : Hp} (h : Ext H B) (X : Hp) : Ext H (B ++ X) := by obtain ⟨L, rfl⟩ := h; exact ⟨L ++ X, by simp⟩
theorem Ext.trans {A B C : Hp} (h : Ext A B) (k : Ext B C) : Ext A C := by obtain ⟨L, rfl⟩ := h; exact (Ext.refl A).app L |>.elim fun M e => by obtain ⟨N, rfl⟩ := k; exact ⟨M ++ N, by rw [e]; simp⟩
theorem Ext.of (H L : Hp) : Ext H (H ++ L) := ⟨L, rfl⟩
theorem Ext.pre {H L B : Hp} (h : Ext (H ++ L) B) : Ext H B := (Ext.of H L).trans h
theorem Ext.get {H B : Hp} (h : Ext H B) {o : Nat} {x : Ob} (hg : H[o]? = some x) : B[o]? = some x := by
  obtain ⟨L, rfl⟩ := h
  have : o < H.length := by
    rcases Nat.lt_or_ge o H.length with h' | h'
    · exact h'
    · rw [List.getElem?_eq_none h'] at hg; cases hg
  rw [List.getElem?_append_left this]; exact hg
theorem ext_self (H : Hp) : Ext H H = True := eq_true (Ext.refl H)
theorem ext_of (H L : Hp) : Ext H (H ++ L) = True := eq_true (Ext.of H L)
theorem Ext.t {H B : Hp} (h : Ext H B) : Ext H B = True := eq_true h
theorem Ext.ta {H B : Hp} (h : Ext H B) (X : Hp) : Ext H (B ++ X) = True := eq_true (h.app X)
theorem rdAt_E {B : Hp} {o : Nat} {cs : List D} (h : B[o]? = some (.row cs)) (off : Nat) : rdAt B (.ptr o off) = some (cs.drop off) := by simp [rdAt, h]
theorem rdAt_Ea {B : Hp} {o : Nat} {cs : List D} (h : B[o]? = some (.row cs)) (L : Hp) (off : Nat) : rdAt (B ++ L) (.ptr o off) = some (cs.drop off) := rdAt_E ((Ext.of B L).get h) off
theorem storeK_E {B : Hp} {o : Nat} {cs : List D} (h : B[o]? = some (.row cs)) (t : Nat → D) (T : Tk) (n off : Nat) (v : D) : storeK n K ⟨t, B, T⟩ (.ptr o off) v = (v.okc = true ∧ v.cells.length = n ∧ off + n ≤ cs.length ∧ K .top ⟨t, B.set o (.row (cs.take off ++ v.cells ++ cs.drop (off + n))), T⟩) := by simp [storeK, h]
theorem storeK_Ea {B : Hp} {o : Nat} {cs : List D} (h : B[o]? = some (.row cs)) (L : Hp) (t : Nat → D) (T : Tk) (n off : Nat) (v : D) : storeK n K ⟨t, B ++ L, T⟩ (.ptr o off) v = (v.okc = true ∧ v.cells.length = n ∧ off + n ≤ cs.length ∧ K .top ⟨t, B.set o (.row (cs.take off ++ v.cells ++ cs.drop (off + n))) ++ L, T⟩) := by
  have hlt : o < B.length := by
    rcases Nat.lt_or_ge o B.length with h' | h'
    · exact h'
    · rw [List.getElem?_eq_none h'] at h; cases h
  rw [storeK_E ((Ext.of B L).get h), List.set_append_left _ _ hlt]

/-- Tokens likewise. -/
def ExtT (T U : Tk) : Prop := ∃ L, U = T ++ L
theorem ExtT.refl (T : Tk) : ExtT T T := ⟨[], by simp⟩
theorem ExtT.app {T U : Tk} (h : ExtT T U) (X : Tk) : ExtT T (U ++ X) := by obtain ⟨L, rfl⟩ := h; exact ⟨L ++ X, by simp⟩
theorem ExtT.of (T L : Tk) : ExtT T (T ++ L) := ⟨L, rfl⟩
theorem extT_self (T : Tk) : ExtT T T = True := eq_true (ExtT.refl T)
theorem extT_of (T L : Tk) : ExtT T (T ++ L) = True := eq_true (ExtT.of T L)
theorem ExtT.t {T U : Tk} (h : ExtT T U) : ExtT T U = True := eq_true h
theorem ExtT.ta {T U : Tk} (h : ExtT T U) (X : Tk) : ExtT T (U ++ X) = True := eq_true (h.app X)
theorem leaves_E {r r0 : D} {H B : Hp} {T U : Tk} (h : Ext H B) (k : ExtT T U) : Leaves r0 H T r B U = (r.erase = r0) := by
  obtain ⟨L, rfl⟩ := h; obtain ⟨M, rfl⟩ := k; simp [Leaves]
theorem leaves_Ea {r r0 : D} {H B : Hp} {T U : Tk} (h : Ext H B) (k : ExtT T U) (L : Hp) : Leaves r0 H T r (B ++ L) U = (r.erase = r0) := leaves_E (h.app L) k
theorem leaves_Et {r r0 : D} {H B : Hp} {T U : Tk} (h : Ext H B) (k : ExtT T U) (M : Tk) : Leaves r0 H T r B (U ++ M) = (r.erase = r0) := leaves_E h (k.app M)
theorem leaves_Eat {r r0 : D} {H B : Hp} {T U : Tk} (h : Ext H B) (k : ExtT T U) (L : Hp) (M : Tk) : Leaves r0 H T r (B ++ L) (U ++ M) = (r.erase = r0) := leaves_E (h.app L) (k.app M)
end GP
set_option linter.unusedSimpArgs false
/- IndexFunc, ContainsFunc: of elements of whatever shape, with a function whose answer may look at memory. -/
namespace GP
open Go
open Rd O
set_option maxRecDepth 100000
variable {P : Program}

@[go_sem high] theorem iab_nat (sz : Nat) (b : Bool) (xs : List D) (k : IntKind) (i : Nat) : ia sz (sliceD b xs) (.int k (i : Int)) = iaE sz xs[i]? := by
  rw [ia_sliceD, if_pos (by omega)]; simp
@[go_sem high] theorem iab_nat' (sz : Nat) (t : Option Nat) (xs : List D) (k : IntKind) (i : Nat) : ia sz (.sl t xs) (.int k (i : Int)) = iaE sz xs[i]? := by
  rw [ia_sl, if_pos (by omega)]; simp

/-- A list of things of a shape. -/
def isLs (p : D → Prop) (d : D) : Prop := ∃ n l, d = sliceD n l ∧ l.length ≤ 2 ^ 47 ∧ ∀ x ∈ l, p x
theorem isLs_nils (p : D → Prop) : isLs p .nils := ⟨true, [], rfl, by simp, by simp⟩
theorem eraseL_id {l : List D} (h : ∀ x ∈ l, x.erase = x) : D.eraseL l = l := by
  rw [eraseL_map]
  exact (List.map_congr_left h).trans (List.map_id'' (fun _ => rfl) l)
theorem isLs_erase {p : D → Prop} (hp : ∀ x, p x → x.erase = x) {d : D} (h : isLs p d) : d.erase = d := by
  obtain ⟨n, l, rfl, _, hx⟩ := h
  rw [erase_sliceD, eraseL_id fun x hl => hp x (hx x hl)]
theorem wrapIY (a : Int) : IntKind.i64.wrap a = if a % 2 ^ 64 ≥ 2 ^ 63 then a % 2 ^ 64 - 2 ^ 64 else a % 2 ^ 64 := by simp [IntKind.wrap, IntKind.bits, IntKind.signed]
theorem wrap_inY {a : Int} (h1 : -(2 ^ 63) ≤ a) (h2 : a < 2 ^ 63) : IntKind.i64.wrap a = a := by rw [wrapIY]; split <;> omega
theorem wrap_natY (n : Nat) (h : n ≤ 2 ^ 62) : IntKind.i64.wrap ((n : Int) + 1) = ((n + 1 : Nat) : Int) := by
  rw [wrap_inY (by omega) (by omega)]; rfl

/-- An element of a slice: how it reads. -/
structure El (ag : Bool) (sz : Nat) (x : D) : Prop where
  erase : x.erase = x
  len : x.cells.length = sz
  ld : ld ag sz (some x.cells) = some x
theorem El.agg {sz : Nat} {x : D} (h1 : x.erase = x) (h2 : x.cells.length = sz) (h3 : D.agg x.cells = x) : El true sz x :=
  ⟨h1, h2, by simp only [GP.ld, if_true]; rw [if_pos (by omega), List.take_of_length_le (by omega), h3]⟩

def isT : Option D → Bool
  | some (.bool b) => b
  | _ => false
def idxP (p : D → Bool) (l : List D) : Int := match l.findIdx? p with
  | some i => i
  | none => -1

def idxC (ag : Bool) (sz : Nat) : C :=
  (.seq (.reg [⟨(some 4), none, .mv (k (.int .i64 0))⟩])
  (.seq (.seq (.reg [⟨(some 6), none, .mv (t 0)⟩, ⟨(some 7), none, .len (t 6)⟩, ⟨(some 8), none, .mv (k (.int .i64 0))⟩])
  (.block 0
  (.loop
  (.seq (.reg [⟨(some 9), none, .bin .lss (t 8) (t 7)⟩])
  (.seq (.cond (t 9)
  .skip
  (.exit 0))
  (.seq (.block 1
  (.seq (.reg [⟨(some 10), none, .mv (t 8)⟩, ⟨(some 5), none, .mv (t 10)⟩])
  (.seq (.reg [⟨(some 11), none, .mv (t 1)⟩, ⟨(some 12), none, .mv (t 0)⟩, ⟨(some 13), none, .mv (t 5)⟩, ⟨(some 14), none, .iaddr sz (t 12) (t 13)⟩, ⟨(some 15), none, .load ag sz (t 14)⟩, ⟨(some 16), none, .pcall (t 11) [(t 15)]⟩])
  (.cond (t 16)
  (.seq (.reg [⟨(some 17), none, .mv (t 5)⟩, ⟨(some 4), none, .mv (t 17)⟩])
  .ret)
  .skip))))
  (.reg [⟨(some 18), none, .bin .add (t 8) (k (.int .i64 1))⟩, ⟨(some 8), none, .mv (t 18)⟩])))))))
  (.seq (.reg [⟨(some 4), none, .mv (k (.int .i64 (-1)))⟩])
  .ret)))

open Classical in
/-- IndexFunc's answer. -/
noncomputable def φidx (f : FuncId) (φf : Hp → List D → Option D) (good : D → Prop) (H : Hp) : List D → Option D
  | [l, .fn g [] cap] => if g = f ∧ isLs good l ∧ D.eraseL cap = cap ∧ ∀ x ∈ elems l, ∃ b, φf H (x :: cap) = some (.bool b) then some (.int .i64 (idxP (fun x => isT (φf H (x :: cap))) (elems l))) else none
  | _ => none
def Mo (φf : Hp → List D → Option D) : Prop := ∀ H H' a r, Hle H H' → φf H a = some r → φf H' a = some r
theorem Mo.const (φ : List D → Option D) : Mo (fun _ => φ) := fun _ _ _ _ _ h => h
theorem OkAt.lift {f : FuncId} {φ : List D → Option D} (h : OkAt P f φ) : OkAtH P f (fun _ => φ) := fun H args r hr args' he T Q hQ => h args r hr args' he H T Q hQ
theorem idxP_congr {p q : D → Bool} {l : List D} (h : ∀ x ∈ l, p x = q x) : idxP p l = idxP q l := by
  unfold idxP
  have : l.findIdx? p = l.findIdx? q := by
    induction l with
    | nil => rfl
    | cons a l ih =>
      simp only [List.findIdx?_cons, h a (by simp), ih (fun x hx => h x (by simp [hx]))]
  rw [this]
theorem φidx_mono {f : FuncId} {φf : Hp → List D → Option D} (hm : Mo φf) (good : D → Prop) : Mo (φidx f φf good) := by
  intro H H' a r hl h
  unfold φidx at h ⊢
  split at h
  · rename_i l g cap
    split at h
    · rename_i hc
      obtain ⟨h1, h2, h3, h4⟩ := hc
      have h4' : ∀ x ∈ elems l, ∃ b, φf H' (x :: cap) = some (.bool b) := fun x hx => by
        obtain ⟨b, hb⟩ := h4 x hx
        exact ⟨b, hm _ _ _ _ hl hb⟩
      rw [if_pos ⟨h1, h2, h3, h4'⟩, ← h]
      congr 2
      refine idxP_congr fun x hx => ?_
      obtain ⟨b, hb⟩ := h4 x hx
      rw [hb, hm _ _ _ _ hl hb]
    · cases h
  · cases h

theorem findIdx_at {p : D → Bool} : ∀ {l : List D} {i : Nat} {x : D}, l[i]? = some x → p x = true → (∀ (j : Nat) y, j < i → l[j]? = some y → p y = false) → l.findIdx? p = some i
  | a :: l, 0, x, h, hp, _ => by simp at h; subst h; simp [List.findIdx?_cons, hp]
  | a :: l, i + 1, x, h, hp, hn => by
    have h0 := hn 0 a (by omega) rfl
    have := findIdx_at (l := l) (i := i) (x := x) (by simpa using h) hp (fun j y hj hy => hn (j + 1) y (by omega) (by simpa using hy))
    simp [List.findIdx?_cons, h0, this]
theorem findIdx_no {p : D → Bool} : ∀ {l : List D}, (∀ (j : Nat) y, l[j]? = some y → p y = false) → l.findIdx? p = none
  | [], _ => rfl
  | a :: l, h => by
    have h0 := h 0 a rfl
    have := findIdx_no (l := l) (fun j y hy => h (j + 1) y (by simpa using hy))
    simp [List.findIdx?_cons, h0, this]

theorem okIdx {ag : Bool} {sz : Nat} {N : FuncId} (hf : Fn P N 19 [.inl 4] (idxC ag sz)) {f : FuncId} {φf : Hp → List D → Option D} (hφ : OkAtH P f φf) (hm : Mo φf) {good : D → Prop} (hg : ∀ x, good x → El ag sz x) : OkAtH P N (φidx f φf good) := by
  have M : MonoH [(f, φf)] := .cons hm .nil
  refine okH_of (l := []) (m := [(f, φf)]) .nil (.cons hφ .nil) hf fun H args r h => ?_
  unfold φidx at h
  split at h
  · rename_i l g cap
    split at h
    · rename_i hc
      obtain ⟨rfl, ⟨n, xs, rfl, hl, hx⟩, h3, h4⟩ := hc
      rw [elems_sliceD] at h h4
      injection h with h; subst h
      refine ⟨by simp, by simp [D.cl], fun T => ?_⟩
      simp (config := { contextual := true, maxSteps := 10000000 }) only [idxC, go_sem, Nat.reduceAdd, Nat.reduceSub, Nat.reduceMul, Nat.reduceEqDiff, Nat.reduceLeDiff, Nat.reduceLT, Int.reduceToNat, Int.reduceLE, Int.reduceLT, Int.reduceEq, Int.reduceNe, Int.reduceBEq, Int.reduceBNe, Nat.reduceBEq, Nat.reduceBNe, ↓reduceIte, reduceCtorEq, ↓reduceDIte, W_draw]
      refine W_for (fun i s => s.t 0 = sliceD n xs ∧ s.t 1 = .fn g [] cap ∧ s.t 6 = sliceD n xs ∧ s.t 7 = .int .i64 xs.length ∧ s.t 8 = .int .i64 i ∧ s.H = H ∧ s.T = T ∧ i ≤ xs.length ∧ ∀ (j : Nat) x, j < i → xs[j]? = some x → isT (φf H (x :: cap)) = false) xs.length ⟨0, by simp [upd, argT]⟩ (fun i s h => h.2.2.2.2.2.2.2.1) ?_ (XM_mono _ _)
      rintro i ⟨t, H', T'⟩ ⟨h0, h1, h6, h7, h8, rfl, rfl, hi, hc⟩
      simp only at h0 h1 h6 h7 h8
      by_cases ha : i < xs.length
      · have d1 : decide ((i : Int) < xs.length) = true := by simpa using ha
        have e : xs[i]? = some xs[i] := by simp [ha]
        have hxi := hx _ (List.getElem_mem ha)
        obtain ⟨b, hb⟩ := h4 _ (List.getElem_mem ha)
        have E := hg _ hxi
        generalize xs[i] = x at *
        have hle := E.len
        have hld := E.ld
        have her := E.erase
        cases b with
        | true =>
          have hI : idxP (fun x => isT (φf H' (x :: cap))) xs = i := by
            unfold idxP
            rw [findIdx_at e (by rw [hb]; rfl) hc]
          simp (config := { contextual := true, maxSteps := 10000000 }) only [h0, h1, h6, h7, h8, d1, e, hle, hld, her, h3, hb, hI, wrap_natY i (by omega), pcallH M, lookH_cons, lookH_nil, orK_n, go_sem, Nat.reduceAdd, Nat.reduceSub, Nat.reduceMul, Nat.reduceEqDiff, Nat.reduceLeDiff, Nat.reduceLT, Int.reduceToNat, Int.reduceLE, Int.reduceLT, Int.reduceEq, Int.reduceNe, Int.reduceBEq, Int.reduceBNe, Nat.reduceBEq, Nat.reduceBNe, ↓reduceIte, reduceCtorEq, ↓reduceDIte, W_draw]
        | false =>
          have nx : ∀ (j : Nat) x, j < i + 1 → xs[j]? = some x → isT (φf H' (x :: cap)) = false := fun j y hj hy => by
            by_cases hji : j = i
            · subst hji; rw [e] at hy; injection hy with hy; subst hy; rw [hb]; rfl
            · exact hc j y (by omega) hy
          simp (config := { contextual := true, maxSteps := 10000000 }) only [h0, h1, h6, h7, h8, d1, e, hle, hld, her, h3, hb, wrap_natY i (by omega), pcallH M, lookH_cons, lookH_nil, orK_n, go_sem, Nat.reduceAdd, Nat.reduceSub, Nat.reduceMul, Nat.reduceEqDiff, Nat.reduceLeDiff, Nat.reduceLT, Int.reduceToNat, Int.reduceLE, Int.reduceLT, Int.reduceEq, Int.reduceNe, Int.reduceBEq, Int.reduceBNe, Nat.reduceBEq, Nat.reduceBNe, ↓reduceIte, reduceCtorEq, ↓reduceDIte, W_draw]
          exact ⟨by omega, nx⟩
      · have d1 : decide ((i : Int) < xs.length) = false := by simpa using ha
        have hI : idxP (fun x => isT (φf H' (x :: cap))) xs = -1 := by
          unfold idxP
          rw [findIdx_no (fun j y hy => hc j y (by
            rcases Nat.lt_or_ge j i with h' | h'
            · exact h'
            · rw [List.getElem?_eq_none (by omega)] at hy; cases hy) hy)]
        simp (config := { contextual := true, maxSteps := 10000000 }) only [h0, h1, h6, h7, h8, d1, hI, go_sem, Nat.reduceAdd, Nat.reduceSub, Nat.reduceMul, Nat.reduceEqDiff, Nat.reduceLeDiff, Nat.reduceLT, Int.reduceToNat, Int.reduceLE, Int.reduceLT, Int.reduceEq, Int.reduceNe, Int.reduceBEq, Int.reduceBNe, Nat.reduceBEq, Nat.reduceBNe, ↓reduceIte, reduceCtorEq, ↓reduceDIte, W_draw]
    · cases h
  · cases h

def cfC (g : FuncId) : C :=
  (.seq (.reg [⟨(some 4), none, .mv (k (.bool false))⟩])
  (.seq (.reg [⟨(some 5), none, .mv (t 0)⟩, ⟨(some 6), none, .mv (t 1)⟩, ⟨(some 7), none, .pcall (k (.fn g [] [])) [(t 5), (t 6)]⟩, ⟨(some 8), none, .bin .geq (t 7) (k (.int .i64 0))⟩, ⟨(some 4), none, .mv (t 8)⟩])
  .ret))
open Classical in
/-- ContainsFunc's answer. -/
noncomputable def φcf (f : FuncId) (φf : Hp → List D → Option D) (good : D → Prop) (H : Hp) : List D → Option D
  | [l, .fn g [] cap] => if g = f ∧ isLs good l ∧ D.eraseL cap = cap ∧ ∀ x ∈ elems l, ∃ b, φf H (x :: cap) = some (.bool b) then some (.bool ((elems l).any (fun x => isT (φf H (x :: cap))))) else none
  | _ => none
theorem idxP_any (p : D → Bool) (l : List D) : decide ((0 : Int) ≤ idxP p l) = l.any p := by
  unfold idxP
  cases h : l.findIdx? p with
  | some i =>
    have : l.any p = true := by
      rw [List.findIdx?_eq_some_iff_getElem] at h
      obtain ⟨h1, h2, _⟩ := h
      exact List.any_eq_true.2 ⟨_, List.getElem_mem h1, h2⟩
    rw [this]; simp
  | none =>
    have : l.any p = false := by
      rw [List.findIdx?_eq_none_iff] at h
      exact List.any_eq_false.2 fun x hx => by simp [h x hx]
    rw [this]; rfl
theorem any_congr' {p q : D → Bool} {l : List D} (h : ∀ x ∈ l, p x = q x) : l.any p = l.any q := by
  induction l with
  | nil => rfl
  | cons a l ih => simp only [List.any_cons, h a (by simp), ih (fun x hx => h x (by simp [hx]))]
theorem φcf_mono {f : FuncId} {φf : Hp → List D → Option D} (hm : Mo φf) (good : D → Prop) : Mo (φcf f φf good) := by
  intro H H' a r hl h
  unfold φcf at h ⊢
  split at h
  · rename_i l g cap
    split at h
    · rename_i hc
      obtain ⟨h1, h2, h3, h4⟩ := hc
      have h4' : ∀ x ∈ elems l, ∃ b, φf H' (x :: cap) = some (.bool b) := fun x hx => by
        obtain ⟨b, hb⟩ := h4 x hx
        exact ⟨b, hm _ _ _ _ hl hb⟩
      rw [if_pos ⟨h1, h2, h3, h4'⟩, ← h]
      congr 2
      refine any_congr' fun x hx => ?_
      obtain ⟨b, hb⟩ := h4 x hx
      rw [hb, hm _ _ _ _ hl hb]
    · cases h
  · cases h
theorem okCf {N M : FuncId} (hf : Fn P N 9 [.inl 4] (cfC M)) {f : FuncId} {φf : Hp → List D → Option D} {good : D → Prop} (hge : ∀ x, good x → x.erase = x) (hi : OkAtH P M (φidx f φf good)) (hm : Mo φf) : OkAtH P N (φcf f φf good) := by
  have MM : MonoH [(M, φidx f φf good)] := .cons (φidx_mono hm good) .nil
  refine okH_of (l := []) (m := [(M, φidx f φf good)]) .nil (.cons hi .nil) hf fun H args r h => ?_
  unfold φcf at h
  split at h
  · rename_i l g cap
    split at h
    · rename_i hc
      have p : φidx f φf good H [l, .fn g [] cap] = some (.int .i64 (idxP (fun x => isT (φf H (x :: cap))) (elems l))) := by
        simp only [φidx]; rw [if_pos hc]
      have a := idxP_any (fun x => isT (φf H (x :: cap))) (elems l)
      obtain ⟨rfl, h2, h3, h4⟩ := hc
      have el := isLs_erase hge h2
      injection h with h; subst h
      refine ⟨by simp, by simp [D.cl], fun T => ?_⟩
      simp (config := { contextual := true, maxSteps := 10000000 }) only [cfC, el, h3, p, pcallH MM, lookH_cons, lookH_nil, orK_n, a, go_sem, Nat.reduceAdd, Nat.reduceSub, Nat.reduceMul, Nat.reduceEqDiff, Nat.reduceLeDiff, Nat.reduceLT, Int.reduceToNat, Int.reduceLE, Int.reduceLT, Int.reduceEq, Int.reduceNe, Int.reduceBEq, Int.reduceBNe, Nat.reduceBEq, Nat.reduceBNe, ↓reduceIte, reduceCtorEq, ↓reduceDIte, W_draw]
    · cases h
  · cases h
end GP
set_option linter.unusedSimpArgs false
/- Index, Contains: of texts. -/
namespace GP
open Go
open Rd O
set_option maxRecDepth 100000
variable {P : Program}

mutual
theorem isV_cl : ∀ {d : D}, d.isV = true → d.cl 0 0 = true
  | d, h => by
    unfold D.isV at h
    split at h
    · simp [D.cl, D.clL]
    · simp only [Bool.and_eq_true] at h
      simp [D.cl, D.clL, isVs_cl h.2]
    · cases h
theorem isVs_cl : ∀ {l : List D}, D.isVs l = true → D.clL 0 0 l = true
  | [], _ => by simp [D.clL]
  | d :: l, h => by
    simp only [D.isVs, Bool.and_eq_true] at h
    simp [D.clL, isV_cl h.1, isVs_cl h.2]
end
/-- A text. -/
def isTx (x : D) : Prop := ∃ w, x = .str w ∧ w.length ≤ 2 ^ 47
def strOf : D → List UInt8
  | .str w => w
  | _ => []
theorem isTx_erase {x : D} (h : isTx x) : x.erase = x := by obtain ⟨w, rfl, _⟩ := h; rfl
theorem isTx_El {x : D} (h : isTx x) : El false 1 x := by obtain ⟨w, rfl, _⟩ := h; exact ⟨rfl, rfl, rfl⟩

def idxSC : C :=
  (.seq (.reg [⟨(some 4), none, .mv (k (.int .i64 0))⟩])
  (.seq (.seq (.reg [⟨(some 6), none, .mv (t 0)⟩, ⟨(some 7), none, .len (t 6)⟩, ⟨(some 8), none, .mv (k (.int .i64 0))⟩])
  (.block 0
  (.loop
  (.seq (.reg [⟨(some 9), none, .bin .lss (t 8) (t 7)⟩])
  (.seq (.cond (t 9)
  .skip
  (.exit 0))
  (.seq (.block 1
  (.seq (.reg [⟨(some 10), none, .mv (t 8)⟩, ⟨(some 5), none, .mv (t 10)⟩])
  (.seq (.reg [⟨(some 11), none, .mv (t 1)⟩, ⟨(some 12), none, .mv (t 0)⟩, ⟨(some 13), none, .mv (t 5)⟩, ⟨(some 14), none, .iaddr 1 (t 12) (t 13)⟩, ⟨(some 15), none, .load false 1 (t 14)⟩, ⟨(some 16), none, .bin .eql (t 11) (t 15)⟩])
  (.cond (t 16)
  (.seq (.reg [⟨(some 17), none, .mv (t 5)⟩, ⟨(some 4), none, .mv (t 17)⟩])
  .ret)
  .skip))))
  (.reg [⟨(some 18), none, .bin .add (t 8) (k (.int .i64 1))⟩, ⟨(some 8), none, .mv (t 18)⟩])))))))
  (.seq (.reg [⟨(some 4), none, .mv (k (.int .i64 (-1)))⟩])
  .ret)))

open Classical in
noncomputable def φidxS : List D → Option D
  | [l, .str w] => if isLs isTx l then some (.int .i64 (idxP (fun x => w == strOf x) (elems l))) else none
  | _ => none
theorem okIdxS {N : FuncId} (hf : Fn P N 19 [.inl 4] idxSC) : OkAt P N φidxS := by
  refine ok_of (l := []) .nil hf fun args r h => ?_
  unfold φidxS at h
  split at h
  · rename_i l w
    split at h
    · rename_i hc
      obtain ⟨n, xs, rfl, hl, hx⟩ := hc
      rw [elems_sliceD] at h
      injection h with h; subst h
      refine ⟨by simp, by simp [D.cl], fun H T => ?_⟩
      simp (config := { contextual := true, maxSteps := 10000000 }) only [idxSC, go_sem, Nat.reduceAdd, Nat.reduceSub, Nat.reduceMul, Nat.reduceEqDiff, Nat.reduceLeDiff, Nat.reduceLT, Int.reduceToNat, Int.reduceLE, Int.reduceLT, Int.reduceEq, Int.reduceNe, Int.reduceBEq, Int.reduceBNe, Nat.reduceBEq, Nat.reduceBNe, ↓reduceIte, reduceCtorEq, ↓reduceDIte, W_draw]
      refine W_for (fun i s => s.t 0 = sliceD n xs ∧ s.t 1 = .str w ∧ s.t 6 = sliceD n xs ∧ s.t 7 = .int .i64 xs.length ∧ s.t 8 = .int .i64 i ∧ s.H = H ∧ s.T = T ∧ i ≤ xs.length ∧ ∀ (j : Nat) x, j < i → xs[j]? = some x → (w == strOf x) = false) xs.length ⟨0, by simp [upd, argT]⟩ (fun i s h => h.2.2.2.2.2.2.2.1) ?_ (XL_mono _)
      rintro i ⟨t, H', T'⟩ ⟨h0, h1, h6, h7, h8, rfl, rfl, hi, hc⟩
      simp only at h0 h1 h6 h7 h8
      by_cases ha : i < xs.length
      · have d1 : decide ((i : Int) < xs.length) = true := by simpa using ha
        have e : xs[i]? = some xs[i] := by simp [ha]
        obtain ⟨v, hv, _⟩ := hx _ (List.getElem_mem ha)
        generalize xs[i] = x at *
        subst hv
        have nx : (w == v) = false → ∀ (j : Nat) x, j < i + 1 → xs[j]? = some x → (w == strOf x) = false := fun hb j y hj hy => by
          by_cases hji : j = i
          · subst hji; rw [e] at hy; injection hy with hy; subst hy; exact hb
          · exact hc j y (by omega) hy
        have hI : (w == v) = true → idxP (fun x => w == strOf x) xs = i := fun hb => by
          unfold idxP
          rw [findIdx_at e hb hc]
        cases hb : (w == v) with
        | true =>
          have hI := hI hb
          simp (config := { contextual := true, maxSteps := 10000000 }) only [h0, h1, h6, h7, h8, d1, e, hb, hI, wrap_natY i (by omega), go_sem, Nat.reduceAdd, Nat.reduceSub, Nat.reduceMul, Nat.reduceEqDiff, Nat.reduceLeDiff, Nat.reduceLT, Int.reduceToNat, Int.reduceLE, Int.reduceLT, Int.reduceEq, Int.reduceNe, Int.reduceBEq, Int.reduceBNe, Nat.reduceBEq, Nat.reduceBNe, ↓reduceIte, reduceCtorEq, ↓reduceDIte, W_draw]
        | false =>
          have nx := nx hb
          simp (config := { contextual := true, maxSteps := 10000000 }) only [h0, h1, h6, h7, h8, d1, e, hb, wrap_natY i (by omega), go_sem, Nat.reduceAdd, Nat.reduceSub, Nat.reduceMul, Nat.reduceEqDiff, Nat.reduceLeDiff, Nat.reduceLT, Int.reduceToNat, Int.reduceLE, Int.reduceLT, Int.reduceEq, Int.reduceNe, Int.reduceBEq, Int.reduceBNe, Nat.reduceBEq, Nat.reduceBNe, ↓reduceIte, reduceCtorEq, ↓reduceDIte, W_draw]
          exact ⟨by omega, nx⟩
      · have d1 : decide ((i : Int) < xs.length) = false := by simpa using ha
        have hI : idxP (fun x => w == strOf x) xs = -1 := by
          unfold idxP
          rw [findIdx_no (fun j y hy => hc j y (by
            rcases Nat.lt_or_ge j i with h' | h'
            · exact h'
            · rw [List.getElem?_eq_none (by omega)] at hy; cases hy) hy)]
        simp (config := { contextual := true, maxSteps := 10000000 }) only [h0, h1, h6, h7, h8, d1, hI, go_sem, Nat.reduceAdd, Nat.reduceSub, Nat.reduceMul, Nat.reduceEqDiff, Nat.reduceLeDiff, Nat.reduceLT, Int.reduceToNat, Int.reduceLE, Int.reduceLT, Int.reduceEq, Int.reduceNe, Int.reduceBEq, Int.reduceBNe, Nat.reduceBEq, Nat.reduceBNe, ↓reduceIte, reduceCtorEq, ↓reduceDIte, W_draw]
    · cases h
  · cases h
open Classical in
noncomputable def φcontS : List D → Option D
  | [l, .str w] => if isLs isTx l then some (.bool ((elems l).any (fun x => w == strOf x))) else none
  | _ => none
theorem okContS {N M : FuncId} (hf : Fn P N 9 [.inl 4] (cfC M)) (hi : OkAt P M φidxS) : OkAt P N φcontS := by
  refine ok_of (l := [(M, φidxS)]) (.cons hi .nil) hf fun args r h => ?_
  unfold φcontS at h
  split at h
  · rename_i l w
    split at h
    · rename_i hc
      have p : φidxS [l, .str w] = some (.int .i64 (idxP (fun x => w == strOf x) (elems l))) := by
        simp only [φidxS]; rw [if_pos hc]
      have a := idxP_any (fun x => w == strOf x) (elems l)
      have el := isLs_erase (fun _ => isTx_erase) hc
      injection h with h; subst h
      refine ⟨by simp, by simp [D.cl], fun H T => ?_⟩
      simp (config := { contextual := true, maxSteps := 10000000 }) only [cfC, el, p, a, go_sem, Nat.reduceAdd, Nat.reduceSub, Nat.reduceMul, Nat.reduceEqDiff, Nat.reduceLeDiff, Nat.reduceLT, Int.reduceToNat, Int.reduceLE, Int.reduceLT, Int.reduceEq, Int.reduceNe, Int.reduceBEq, Int.reduceBNe, Nat.reduceBEq, Nat.reduceBNe, ↓reduceIte, reduceCtorEq, ↓reduceDIte, W_draw]
    · cases h
  · cases h
/-- A contract that looks at no memory, of a call that does. -/
theorem OkAtH.low {f : FuncId} {φ : List D → Option D} (h : OkAtH P f (fun _ => φ)) : OkAt P f φ := fun args r hr args' he H T Q hQ => h H args r hr args' he T Q hQ
end GP
