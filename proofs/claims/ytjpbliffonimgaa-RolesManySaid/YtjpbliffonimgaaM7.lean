import Derived.JoinedOf
import Derived.Laws.IdiomArrays
import Derived.Test.YtjpbliffonimgaaRows
import Derived.Test.YtjpbliffonimgaaM5
import Derived.Test.YtjpbliffonimgaaM6
set_option linter.unusedSimpArgs false
set_option linter.unnecessarySimpa false
set_option linter.unusedSectionVars false
namespace GP
open Go Go.Proofs
set_option maxRecDepth 100000
variable [HasG Try.prog]
def entsP (f : Nm → Int) (P : List Nm) : List (D × D × Nat) := P.zipIdx.map fun p => (keyD p.1, .int .i64 (f p.1), p.2)
theorem entsP_snoc (f : Nm → Int) (P : List Nm) (p : Nm) : entsP f (P ++ [p]) = entsP f P ++ [(keyD p, .int .i64 (f p), P.length)] := by
  simp [entsP, List.zipIdx_append]
theorem entsP_keys (f : Nm → Int) (P : List Nm) : (entsP f P).map (fun e => e.1) = P.map keyD := by
  unfold entsP
  rw [List.map_map]
  have : ((fun e : D × D × Nat => e.1) ∘ fun p : Nm × Nat => (keyD p.1, D.int .i64 (f p.1), p.2)) = keyD ∘ Prod.fst := rfl
  rw [this, ← List.map_map]; simp
theorem entsP_get (f : Nm → Int) (P : List Nm) (i : Nat) : (entsP f P)[i]? = (P[i]?).map fun p => (keyD p, .int .i64 (f p), i) := by
  unfold entsP
  rw [List.getElem?_map, List.getElem?_zipIdx]
  cases P[i]? <;> simp
theorem entsP_len (f : Nm → Int) (P : List Nm) : (entsP f P).length = P.length := by simp [entsP]
theorem entsP_mem {f : Nm → Int} {P : List Nm} {e : D × D × Nat} (h : e ∈ entsP f P) : ∃ i p, P[i]? = some p ∧ e = (keyD p, .int .i64 (f p), i) := by
  obtain ⟨i, hi, he⟩ := List.getElem_of_mem h
  have := entsP_get f P i
  rw [List.getElem?_eq_getElem hi, he] at this
  cases hp : P[i]? with
  | none => rw [hp] at this; cases this
  | some p => rw [hp] at this; injection this with this; exact ⟨i, p, hp, this⟩
def prs (l m : List Sb) : List Nm := (l.map fun a => m.map fun b => (a, b)).flatten
theorem prs_take {l m : List Sb} {i : Nat} {a : Sb} (h : l[i]? = some a) : prs (l.take (i + 1)) m = prs (l.take i) m ++ m.map fun b => (a, b) := by
  unfold prs; rw [List.take_add_one, h]; simp
theorem prs_mem {l m : List Sb} {p : Nm} : p ∈ prs l m ↔ p.1 ∈ l ∧ p.2 ∈ m := by
  obtain ⟨a, b⟩ := p
  unfold prs
  simp only [List.mem_flatten, List.mem_map]
  constructor
  · rintro ⟨_, ⟨x, hx, rfl⟩, h⟩
    obtain ⟨y, hy, e⟩ := List.mem_map.1 h
    injection e with e1 e2
    subst e1; subst e2
    exact ⟨hx, hy⟩
  · rintro ⟨h1, h2⟩
    exact ⟨_, ⟨a, h1, rfl⟩, List.mem_map.2 ⟨b, h2, rfl⟩⟩
theorem prs_new {l : List Sb} (hn : l.Nodup) {i k : Nat} {a b : Sb} (ha : l[i]? = some a) (hb : l[k]? = some b) : (a, b) ∉ prs (l.take i) l ++ (l.take k).map fun b => (a, b) := by
  have key : ∀ {j : Nat} {x : Sb}, l[j]? = some x → x ∉ l.take j := fun {j x} hx hm => by
    obtain ⟨j', hj', e⟩ := List.getElem_of_mem hm
    rw [List.length_take] at hj'
    rw [List.getElem_take] at e
    have hj : j < l.length := by
      rcases Nat.lt_or_ge j l.length with h' | h'
      · exact h'
      · rw [List.getElem?_eq_none h'] at hx; cases hx
    rw [List.getElem?_eq_getElem hj] at hx
    injection hx with hx
    have h1 := hn.idxOf_getElem j' (by omega)
    have h2 := hn.idxOf_getElem j hj
    rw [e] at h1; rw [hx] at h2
    omega
  rw [List.mem_append]
  rintro (h | h)
  · exact key ha (prs_mem.1 h).1
  · obtain ⟨y, hy, e⟩ := List.mem_map.1 h
    injection e with _ e2
    subst e2
    exact key hb hy
theorem entD_at {B : Hp} {o m : Nat} {since : Nat} {seen : List Nat} {P : List Nm} {f : Nm → Int} {i : Nat} {p : Nm} (hi : B[o]? = some (.iter (some m) since (seen ++ [i]) P.length)) (hm : B[m]? = some (.map (entsP f P) P.length)) (hp : P[i]? = some p) : entD B (.ptr o 0) = some (.tup [keyD p, .int .i64 (f p)]) := by
  have hf : (entsP f P).find? (fun e => e.2.2 == i) = some (keyD p, .int .i64 (f p), i) := by
    have hip : i < (entsP f P).length := by
      rw [entsP_len]
      rcases Nat.lt_or_ge i P.length with h' | h'
      · exact h'
      · rw [List.getElem?_eq_none h'] at hp; cases hp
    have hg : (entsP f P)[i] = (keyD p, .int .i64 (f p), i) := by
      have := entsP_get f P i
      rw [List.getElem?_eq_getElem hip, hp] at this
      injection this
    rw [List.find?_eq_some_iff_getElem]
    refine ⟨by simp, i, hip, hg, fun j hj => ?_⟩
    have := entsP_get f P j
    rw [List.getElem?_eq_getElem (by omega)] at this
    cases hpj : P[j]? with
    | none => rw [hpj] at this; cases this
    | some q => rw [hpj] at this; injection this with this; rw [this]; simp; omega
  simp only [entD, hi, hm]
  simp [hf]
end GP
namespace GP
open Go Go.Proofs
set_option maxRecDepth 100000
variable [HasG Try.prog]
theorem txs_at {B : Hp} {o cap : Nat} {l : List Sb} {X : List D} (ho : B[o]? = some (.row (l.map D.str ++ X))) {i : Nat} {s : Sb} (hs : l[i]? = some s) (k : IntKind) : ia 1 (.ms false 1 o 0 l.length cap) (.int k (i : Int)) = some (.ptr o i) ∧ ∃ Y, rdAt B (.ptr o i) = some (.str s :: Y) := by
  have hi : i < l.length := by
    rcases Nat.lt_or_ge i l.length with h' | h'
    · exact h'
    · rw [List.getElem?_eq_none h'] at hs; cases hs
  refine ⟨?_, (l.drop (i + 1)).map D.str ++ X, ?_⟩
  · simp only [ia]
    rw [if_pos ⟨by omega, by omega, trivial⟩]; simp
  · simp only [rdAt, ho]
    have e1 : l = l.take i ++ s :: l.drop (i + 1) := by
      rw [List.getElem?_eq_getElem hi] at hs; injection hs with hs
      rw [← hs, ← List.drop_eq_getElem_cons hi, List.take_append_drop]
    have e2 : l.map D.str ++ X = (l.take i).map D.str ++ (.str s :: ((l.drop (i + 1)).map D.str ++ X)) := by
      conv => lhs; rw [e1]
      simp
    rw [e2, List.drop_left']
    simp; omega
theorem mputK_new {K : D → S → Prop} {t : Nat → D} {B : Hp} {U : Tk} {o clk : Nat} {es : List (D × D × Nat)} {p : Nm} {v : D} (hk : okNm p) (hv : pu v = true) (ho : B[o]? = some (.map es clk)) (hf : fnd kSS (keyD p) es 0 = some none)
    (h : K .top ⟨t, B.set o (.map (es ++ [(keyD p, v, clk)]) (clk + 1)), U⟩) : mputK kSS K ⟨t, B, U⟩ (.mp o) (keyD p) v := by
  refine ⟨kok_key hk, hv, ?_⟩
  simp only [ho, hf]
  exact h
structure Added (H : Hp) (w : Nat) (es : List (D × D × Nat)) (g : Nm → Int) (B : Hp) : Prop where
  fr : ∀ o, o < H.length → o ≠ w → B[o]? = H[o]?
  len : H.length ≤ B.length
  mp : ∃ es' clk' ks, B[w]? = some (.map es' clk') ∧ MpS ks es' clk' ∧ ∀ p, mval es' p = mval es p + g p
theorem Added.push {H B : Hp} {w : Nat} {es : List (D × D × Nat)} {g : Nm → Int} (h : Added H w es g B) (hw : w < H.length) (X : Hp) : Added H w es g (B ++ X) := by
  obtain ⟨h1, h2, es', clk', ks, h3, h4, h5⟩ := h
  refine ⟨fun o ho hne => ?_, by rw [List.length_append]; omega, es', clk', ks, ?_, h4, h5⟩
  · rw [List.getElem?_append_left (by omega)]; exact h1 o ho hne
  · rw [List.getElem?_append_left (by omega)]; exact h3
theorem Added.set {H B : Hp} {w : Nat} {es : List (D × D × Nat)} {g : Nm → Int} (h : Added H w es g B) (hw : w < H.length) {o : Nat} (ho : H.length ≤ o) (x : Ob) : Added H w es g (B.set o x) := by
  obtain ⟨h1, h2, es', clk', ks, h3, h4, h5⟩ := h
  refine ⟨fun o' ho' hne => ?_, by rw [List.length_set]; omega, es', clk', ks, ?_, h4, h5⟩
  · rw [List.getElem?_set_ne (by omega)]; exact h1 o' ho' hne
  · rw [List.getElem?_set_ne (by omega)]; exact h3
theorem rngK_mp {K : D → S → Prop} {t : Nat → D} {B : Hp} {U : Tk} {o clk : Nat} {es : List (D × D × Nat)} (ho : B[o]? = some (.map es clk)) : rngK K ⟨t, B, U⟩ (.mp o) = K (.ptr B.length 0) ⟨t, B ++ [.iter (some o) clk [] clk], U⟩ := by
  simp only [rngK, ho]
theorem nxtK_of {K : D → S → Prop} {t : Nat → D} {B : Hp} {U : Tk} {o m : Nat} {seen : List Nat} {f : Nm → Int} {P : List Nm} (ho : B[o]? = some (.iter (some m) P.length seen P.length)) (hm : B[m]? = some (.map (entsP f P) P.length))
    (h0 : (∀ i < P.length, i ∈ seen) → K (.tup [.bool false]) ⟨t, B, U⟩) (h1 : ∀ i p, P[i]? = some p → i ∉ seen → K (.tup [.bool true, keyD p, .int .i64 (f p)]) ⟨t, B.set o (.iter (some m) P.length (seen ++ [i]) P.length), U⟩) : nxtK K ⟨t, B, U⟩ (.ptr o 0) := by
  have lt : ∀ {i : Nat} {p : Nm}, P[i]? = some p → i < P.length := fun {i p} h => by
    rcases Nat.lt_or_ge i P.length with h' | h'
    · exact h'
    · rw [List.getElem?_eq_none h'] at h; cases h
  simp only [nxtK, ho, hm]
  refine ⟨fun e he => ?_, Nat.le_refl _, fun h => h0 fun i hi => ?_, fun e he hn => ?_⟩
  · obtain ⟨i, p, h, rfl⟩ := entsP_mem he; exact lt h
  · have := entsP_get f P i
    rw [List.getElem?_eq_getElem hi] at this
    exact h _ (List.mem_of_getElem? this)
  · obtain ⟨i, p, h, rfl⟩ := entsP_mem he
    exact h1 i p h hn
theorem nodupN_le : ∀ {n : Nat} {l : List Nat}, l.Nodup → (∀ x ∈ l, x < n) → l.length ≤ n
  | 0, l, _, h => by
    cases l with
    | nil => simp
    | cons x l => exact absurd (h x (by simp)) (by omega)
  | n + 1, l, hn, h => by
    by_cases hm : n ∈ l
    · have h1 := nodupN_le (n := n) (hn.erase n) fun x hx => by
        have h2 := (List.Nodup.mem_erase_iff hn).1 hx
        have := h x h2.2
        have := h2.1
        omega
      rw [List.length_erase_of_mem hm] at h1
      omega
    · have := nodupN_le (n := n) hn fun x hx => by
        have := h x hx
        have : x ≠ n := fun e => hm (e ▸ hx)
        omega
      omega
def gSeen (f : Nm → Int) (P : List Nm) (sg : Int) (seen : List Nat) (p : Nm) : Int := if ∃ i ∈ seen, P[i]? = some p then sg * f p else 0
theorem gSeen_next {f : Nm → Int} {P : List Nm} {sg : Int} {seen : List Nat} (hP : P.Nodup) {i : Nat} {p : Nm} (hp : P[i]? = some p) (hi : i ∉ seen) (q : Nm) : gSeen f P sg (seen ++ [i]) q = gSeen f P sg seen q + if q = p then sg * f p else 0 := by
  have lt : ∀ {i : Nat} {p : Nm}, P[i]? = some p → i < P.length := fun {i p} h => by
    rcases Nat.lt_or_ge i P.length with h' | h'
    · exact h'
    · rw [List.getElem?_eq_none h'] at h; cases h
  unfold gSeen
  by_cases hq : q = p
  · subst hq
    have h1 : ∃ k ∈ seen ++ [i], P[k]? = some q := ⟨i, by simp, hp⟩
    have h2 : ¬ ∃ k ∈ seen, P[k]? = some q := by
      rintro ⟨k, hk, e⟩
      have a1 := hP.idxOf_getElem i (lt hp)
      have a2 := hP.idxOf_getElem k (lt e)
      rw [List.getElem?_eq_getElem (lt hp)] at hp
      rw [List.getElem?_eq_getElem (lt e)] at e
      injection hp with hp; injection e with e
      rw [hp] at a1; rw [e] at a2
      exact hi (by rw [← a1, a2]; exact hk)
    rw [if_pos h1, if_neg h2, if_pos rfl]; omega
  · rw [if_neg hq, Int.add_zero]
    have : (∃ k ∈ seen ++ [i], P[k]? = some q) ↔ ∃ k ∈ seen, P[k]? = some q := by
      constructor
      · rintro ⟨k, hk, e⟩
        rcases List.mem_append.1 hk with hk | hk
        · exact ⟨k, hk, e⟩
        · rw [List.mem_singleton] at hk; subst hk
          rw [hp] at e; injection e with e; exact absurd e.symm hq
      · rintro ⟨k, hk, e⟩; exact ⟨k, by simp [hk], e⟩
    simp only [this]
theorem Added.congr {H B : Hp} {w : Nat} {es : List (D × D × Nat)} {g g' : Nm → Int} (h : Added H w es g B) (e : ∀ p, g p = g' p) : Added H w es g' B := by
  obtain ⟨h1, h2, es', clk', ks, h3, h4, h5⟩ := h
  exact ⟨h1, h2, es', clk', ks, h3, h4, fun p => by rw [h5, e]⟩
set_option maxHeartbeats 4000000 in
theorem add_snd {w o cap clk : Nat} {es : List (D × D × Nat)} {ks : List Nm} {s j : Sb} {sg : Int} {l : List Sb} {X : List D} {H : Hp} {T : Tk} {Q : Post} (hw : H[w]? = some (.map es clk)) (hM : MpS ks es clk) (ho : H[o]? = some (.row (l.map D.str ++ X)))
    (hn : l.Nodup) (hl : l.length ≤ 1000) (hs : s.length ≤ 1000) (hj : j.length ≤ 1000) (hx : ∀ x ∈ l, x.length ≤ 1000) (hsg : sg = 1 ∨ sg = -1)
    (hb : ∀ a ∈ l, ∀ b ∈ l, 0 ≤ cntM es a s * cntM es j b ∧ cntM es a s * cntM es j b ≤ 2 ^ 61 ∧ 0 ≤ mval es (a, b) ∧ mval es (a, b) ≤ 2 ^ 61)
    (kQ : ∀ L U, Added H w es (fun p => if p.1 ∈ l ∧ p.2 ∈ l then sg * (cntM es p.1 s * cntM es j p.2) else 0) L → Q (.tup []) L (T ++ U)) :
    Snd Try.prog 70 [.mp w, .agg [.str s, .str j], .int .i64 sg, .ms false 1 o 0 l.length cap] H T Q := by
  have hM71 : MonoH [(71, φ71)] := .cons φ71_mono .nil
  have hX := XG_mono (P := Try.prog) [] [] [(71, φ71)] [] []
  refine call_of fn70 (by simp) (W_mono (X := XG Try.prog [] [] [(71, φ71)] [] []) (XG.X .nil (.cons ok71 .nil) .nil .nil) (fun _ _ h => h) ?_)
  have hlt : ∀ {i : Nat} {x : Ob}, H[i]? = some x → i < H.length := fun {i x} h => by
    rcases Nat.lt_or_ge i H.length with h' | h'
    · exact h'
    · rw [List.getElem?_eq_none h'] at h; cases h
  obtain ⟨f, hf⟩ : ∃ f : Nm → Int, f = fun p => cntM es p.1 s * cntM es j p.2 := ⟨_, rfl⟩
  simp +contextual (maxSteps := 10000000) only [c70, go_sem, W_draw]
  refine W_for (fun i s' => s'.t 0 = .mp w ∧ s'.t 2 = .int .i64 sg ∧ s'.t 3 = .ms false 1 o 0 l.length cap ∧ s'.t 5 = .ptr H.length 0 ∧ s'.t 8 = .mp (H.length + 1) ∧ s'.t 16 = .ms false 1 o 0 l.length cap ∧ s'.t 17 = .int .i64 (l.length : Int) ∧ s'.t 18 = .int .i64 (i : Int) ∧ s'.H = H ++ [.row [.str s, .str j], .map (entsP f (prs (l.take i) l)) (prs (l.take i) l).length] ∧ s'.T = T ∧ i ≤ l.length) l.length
    ⟨0, ?_⟩ (fun i s h => h.2.2.2.2.2.2.2.2.2.2) ?_ hX
  · simp [upd, argT, prs, entsP]
  rintro i ⟨t, B, T'⟩ ⟨r0, r2, r3, r5, r8, r16, r17, r18, rfl, rfl, hi⟩
  simp only at r0 r2 r3 r5 r8 r16 r17 r18
  by_cases ha : i < l.length
  · have d1 : decide ((i : Int) < l.length) = true := by simpa using ha
    have ea : l[i]? = some l[i] := by simp [ha]
    obtain ⟨a, hae⟩ : ∃ x, l[i] = x := ⟨_, rfl⟩
    have ham : a ∈ l := by rw [← hae]; exact List.getElem_mem ha
    rw [hae] at ea
    obtain ⟨P0, hP0⟩ : ∃ P, prs (l.take i) l = P := ⟨_, rfl⟩
    rw [hP0]
    obtain ⟨q1, Y, q2⟩ := txs_at (cap := cap) ((Ext.of H [.row [.str s, .str j], .map (entsP f P0) P0.length]).get ho) ea .i64
    simp +contextual (maxSteps := 10000000) only [r0, r2, r3, r5, r8, r16, r17, r18, d1, q1, q2, ld, List.head?_cons, go_sem, W_draw]
    refine W_for (fun k s' => s'.t 0 = .mp w ∧ s'.t 2 = .int .i64 sg ∧ s'.t 3 = .ms false 1 o 0 l.length cap ∧ s'.t 5 = .ptr H.length 0 ∧ s'.t 8 = .mp (H.length + 1) ∧ s'.t 16 = .ms false 1 o 0 l.length cap ∧ s'.t 17 = .int .i64 (l.length : Int) ∧ s'.t 18 = .int .i64 (i : Int) ∧ s'.t 10 = .str a ∧ s'.t 22 = .ms false 1 o 0 l.length cap ∧ s'.t 23 = .int .i64 (l.length : Int) ∧ s'.t 24 = .int .i64 (k : Int) ∧
        s'.H = H ++ [.row [.str s, .str j], .map (entsP f (P0 ++ (l.take k).map fun b => (a, b))) (P0 ++ (l.take k).map fun b => (a, b)).length] ∧ s'.T = T' ∧ k ≤ l.length) l.length
      ⟨0, ?_⟩ (fun i s h => h.2.2.2.2.2.2.2.2.2.2.2.2.2.2) ?_ hX
    · simp [upd, r0, r2, r3, r5, r8, r16, r17, r18]
    clear r0 r2 r3 r5 r8 r16 r17 r18 q1 q2
    rintro k ⟨t, B, T'⟩ ⟨r0, r2, r3, r5, r8, r16, r17, r18, r10, r22, r23, r24, rfl, rfl, hk⟩
    simp only at r0 r2 r3 r5 r8 r16 r17 r18 r10 r22 r23 r24
    by_cases hb' : k < l.length
    · have d2 : decide ((k : Int) < l.length) = true := by simpa using hb'
      have eb : l[k]? = some l[k] := by simp [hb']
      obtain ⟨b, hbe⟩ : ∃ x, l[k] = x := ⟨_, rfl⟩
      have hbm : b ∈ l := by rw [← hbe]; exact List.getElem_mem hb'
      rw [hbe] at eb
      have hnew := prs_new hn ea eb
      rw [hP0] at hnew
      have enext : P0 ++ (l.take (k + 1)).map (fun b => (a, b)) = P0 ++ (l.take k).map (fun b => (a, b)) ++ [(a, b)] := by rw [List.take_add_one, eb]; simp
      rw [enext]
      obtain ⟨P1, hP1⟩ : ∃ P, P0 ++ (l.take k).map (fun b => (a, b)) = P := ⟨_, rfl⟩
      rw [hP1] at hnew ⊢
      have hon : okNm (a, b) := ⟨by have := hx a ham; simp only; omega, by have := hx b hbm; simp only; omega⟩
      obtain ⟨R, hR⟩ : ∃ R : Hp, R = [.row [.str s, .str j], .map (entsP f P1) P1.length] := ⟨_, rfl⟩
      rw [← hR]
      have hwB : (H ++ R)[w]? = some (.map es clk) := (Ext.of H R).get hw
      obtain ⟨q1, Y, q2⟩ := txs_at (cap := cap) ((Ext.of H R).get ho) eb .i64
      have p1 := p71 hwB hM (a := a) (b := s) ⟨hon.1, by simp only; omega⟩
      have p2 := p71 hwB hM (a := j) (b := b) ⟨by simp only; omega, hon.2⟩
      have g5 : rdAt (H ++ R) (.ptr H.length 0) = some [.str s, .str j] := by simp [rdAt, hR]
      have g51 : rdAt (H ++ R) (.ptr H.length 1) = some [.str j] := by simp [rdAt, hR]
      have hbb := hb a ham b hbm
      have hwr : IntKind.i64.wrap (cntM es a s * cntM es j b) = f (a, b) := by rw [hf]; exact wrap_inY (by omega) (by omega)
      have hm8 : (H ++ R)[H.length + 1]? = some (.map (entsP f P1) P1.length) := by simp [hR]
      simp +contextual (maxSteps := 10000000) only [r0, r2, r3, r5, r8, r16, r17, r18, r10, r22, r23, r24, d2, q1, q2, g5, g51, p1, p2, hwr, ld, List.head?_cons, pcallG hM71, lookH_cons, lookH_nil, orK_n, go_sem, W_draw]
      refine mputK_new (p := (a, b)) (v := .int .i64 (f (a, b))) hon rfl hm8 (fnd_no 0 (entsP_keys f P1) hnew) ?_
      simp +contextual (maxSteps := 10000000) only [r0, r2, r3, r5, r8, r16, r17, r18, r10, r22, r23, r24, wrap_natY k (by omega), go_sem, W_draw]
      refine ⟨?_, by omega⟩
      rw [hR, List.set_append_right _ _ (by omega)]
      have e1 : H.length + 1 - H.length = 1 := by omega
      rw [e1, entsP_snoc]
      rfl
    · have d2 : decide ((k : Int) < l.length) = false := by simpa using hb'
      have hkl : l.take k = l := List.take_of_length_le (by omega)
      rw [hkl]
      have hnx : P0 ++ l.map (fun b => (a, b)) = prs (l.take (i + 1)) l := by rw [prs_take ea, hP0]
      simp +contextual (maxSteps := 10000000) only [r0, r2, r3, r5, r8, r16, r17, r18, r10, r22, r23, r24, d2, hnx, wrap_natY i (by omega), go_sem, W_draw]
      omega
  · have d1 : decide ((i : Int) < l.length) = false := by simpa using ha
    have hil : l.take i = l := List.take_of_length_le (by omega)
    rw [hil]
    obtain ⟨P, hP⟩ : ∃ P, prs l l = P := ⟨_, rfl⟩
    rw [hP]
    have hPn : P.Nodup := by
      rw [← hP]
      have key : ∀ (m : List Sb), m.Nodup → (prs m l).Nodup := by
        intro m
        induction m with
        | nil => intro _; simp [prs]
        | cons a m ih =>
          intro hm
          rw [List.nodup_cons] at hm
          have : prs (a :: m) l = l.map (fun b => (a, b)) ++ prs m l := by simp [prs]
          rw [this, List.nodup_append]
          refine ⟨?_, ih hm.2, fun x hx y hy e => ?_⟩
          · exact List.pairwise_map.2 (hn.imp fun h e => h (by injection e))
          · subst e
            obtain ⟨z, _, rfl⟩ := List.mem_map.1 hx
            exact hm.1 (prs_mem.1 hy).1
      exact key l hn
    have hPm : ∀ p, p ∈ P ↔ p.1 ∈ l ∧ p.2 ∈ l := fun p => by rw [← hP]; exact prs_mem
    obtain ⟨R, hR⟩ : ∃ R : Hp, R = [.row [.str s, .str j], .map (entsP f P) P.length] := ⟨_, rfl⟩
    rw [← hR]
    have hm8 : (H ++ R)[H.length + 1]? = some (.map (entsP f P) P.length) := by simp [hR]
    have hwl := hlt hw
    have hA0 : Added H w es (gSeen f P sg []) (H ++ R) := ⟨fun o ho _ => by rw [List.getElem?_append_left ho], by simp, es, clk, ks, by rw [List.getElem?_append_left hwl]; exact hw, hM, fun p => by simp [gSeen]⟩
    have hRl : (H ++ R).length = H.length + 2 := by simp [hR]
    simp +contextual (maxSteps := 10000000) only [r0, r2, r3, r5, r8, r16, r17, r18, d1, rngK_mp hm8, hRl, go_sem, W_draw]
    clear hi ha d1 r3 r5 r16 r17 r18
    refine W_for (fun i s' => s'.t 0 = .mp w ∧ s'.t 2 = .int .i64 sg ∧ s'.t 46 = .ptr (H.length + 2) 0 ∧ ∃ seen, Added H w es (gSeen f P sg seen) s'.H ∧ s'.H[H.length + 1]? = some (.map (entsP f P) P.length) ∧ s'.H[H.length + 2]? = some (.iter (some (H.length + 1)) P.length seen P.length) ∧ seen.Nodup ∧ (∀ x ∈ seen, x < P.length) ∧ seen.length = i ∧ s'.T = T') P.length
      ⟨0, ?_⟩ (fun i s h => ?_) ?_ hX
    · refine ⟨by simp [upd, r0], by simp [upd, r2], by simp [upd], [], ?_, ?_, ?_, by simp, by simp, rfl, rfl⟩
      all_goals simp only
      all_goals rw [← List.append_assoc]
      · exact hA0.push hwl _
      · rw [List.getElem?_append_left (by omega)]; exact hm8
      · rw [List.getElem?_append_right (by omega), hRl]; simp
    · obtain ⟨_, _, _, seen, _, _, _, h1, h2, rfl, _⟩ := h
      have := nodupN_le h1 h2
      exact this
    rintro i ⟨t, B, T2⟩ ⟨r0, r2, r46, seen, hA, hm, hit, hsn, hsl, rfl, rfl⟩
    simp only at r0 r2 r46 hA hm hit
    simp +contextual (maxSteps := 10000000) only [r0, r2, r46, go_sem, W_draw]
    refine nxtK_of hit hm (fun hall => ?_) (fun i p hp hi => ?_)
    · simp +contextual (maxSteps := 10000000) only [go_sem, W_draw]
      refine kQ B [] ?_ |> fun h => by simpa using h
      refine hA.congr fun p => ?_
      unfold gSeen
      by_cases hp : p.1 ∈ l ∧ p.2 ∈ l
      · obtain ⟨k, hk, hkp⟩ := List.getElem_of_mem ((hPm p).2 hp)
        rw [if_pos hp, if_pos ⟨k, hall k hk, by rw [List.getElem?_eq_getElem hk, hkp]⟩, hf]
      · rw [if_neg hp, if_neg]
        rintro ⟨k, _, e⟩
        exact hp ((hPm p).1 (List.mem_of_getElem? e))
    · have hpm := (hPm p).1 (List.mem_of_getElem? hp)
      have hon : okNm p := ⟨by have := hx _ hpm.1; omega, by have := hx _ hpm.2; omega⟩
      have hbb := hb p.1 hpm.1 p.2 hpm.2
      have hfp : f p = cntM es p.1 s * cntM es j p.2 := by rw [hf]
      rw [← hfp] at hbb
      have hiP : i < P.length := by
        rcases Nat.lt_or_ge i P.length with h' | h'
        · exact h'
        · rw [List.getElem?_eq_none h'] at hp; cases hp
      have hlB : H.length + 2 < B.length := by
        rcases Nat.lt_or_ge (H.length + 2) B.length with h' | h'
        · exact h'
        · rw [List.getElem?_eq_none h'] at hit; cases hit
      have hg := gSeen_next (f := f) (sg := sg) hPn hp hi
      have hsn2 : (seen ++ [i]).Nodup := List.nodup_append.2 ⟨hsn, by simp, fun a ha b hb e => by rw [List.mem_singleton] at hb; subst hb; subst e; exact hi ha⟩
      have hsl2 : ∀ x ∈ seen ++ [i], x < P.length := fun x hx => by
        rcases List.mem_append.1 hx with hx | hx
        · exact hsl x hx
        · rw [List.mem_singleton] at hx; subst hx; exact hiP
      have hA2 := hA.set hwl (o := H.length + 2) (by omega) (.iter (some (H.length + 1)) P.length (seen ++ [i]) P.length)
      obtain ⟨B2, hB2⟩ : ∃ B2, B.set (H.length + 2) (.iter (some (H.length + 1)) P.length (seen ++ [i]) P.length) = B2 := ⟨_, rfl⟩
      have hm2 : B2[H.length + 1]? = some (.map (entsP f P) P.length) := by rw [← hB2, List.getElem?_set_ne (by omega)]; exact hm
      have hit2 : B2[H.length + 2]? = some (.iter (some (H.length + 1)) P.length (seen ++ [i]) P.length) := by rw [← hB2, List.getElem?_set_self hlB]
      rw [hB2] at hA2 ⊢
      have hent := entD_at hit2 hm2 hp
      have hlB2 : H.length + 2 < B2.length := by rw [← hB2, List.length_set]; exact hlB
      have hA3 := hA2.push hwl [.row [.str p.1, .str p.2]]
      have hm3 : (B2 ++ [Ob.row [.str p.1, .str p.2]])[H.length + 1]? = some (.map (entsP f P) P.length) := by rw [List.getElem?_append_left (by omega)]; exact hm2
      have hit3 : (B2 ++ [Ob.row [.str p.1, .str p.2]])[H.length + 2]? = some (.iter (some (H.length + 1)) P.length (seen ++ [i]) P.length) := by rw [List.getElem?_append_left (by omega)]; exact hit2
      clear hA hA2 hm hit hB2 hlB
      have kd : keyD p = .agg [.str p.1, .str p.2] := rfl
      by_cases hz : f p = 0
      · have d1 : ((0 : Int) != 0) = false := by decide
        simp +contextual (maxSteps := 10000000) only [r0, r2, r46, hent, kd, hz, d1, go_sem, W_draw]
        refine ⟨seen ++ [i], hA3.congr fun q => ?_, hm3, hit3, hsn2, hsl2, by simp⟩
        rw [hg q]; split
        · rw [hz]; omega
        · omega
      · have d1 : (f p != 0) = true := by simpa using hz
        obtain ⟨fr3, len3, es3, clk3, ks3, hw3, hM3, hv3⟩ := hA3
        obtain ⟨B3, hB3⟩ : ∃ B3, B2 ++ [Ob.row [.str p.1, .str p.2]] = B3 := ⟨_, rfl⟩
        have g13 : rdAt B3 (.ptr B2.length 0) = some [.str p.1, .str p.2] := by rw [← hB3]; simp [rdAt]
        have hset13 : B2 ++ [Ob.row [.str p.1, .str p.2]] = B3 := hB3
        have hp0 : pu (D.int .i64 0) = true := rfl
        have hgp : gSeen f P sg seen p = 0 := by
          have h1 := hg p
          rw [if_pos rfl] at h1
          have h2 : gSeen f P sg (seen ++ [i]) p = sg * f p := if_pos ⟨i, by simp, hp⟩
          omega
        have hvp := hv3 p
        rw [hgp, Int.add_zero] at hvp
        have hpp : mval es p = mval es (p.1, p.2) := rfl
        have hsw : IntKind.i64.wrap (sg * f p) = sg * f p := by rcases hsg with h | h <;> rw [h] <;> exact wrap_inY (by omega) (by omega)
        have hsw2 : IntKind.i64.wrap (mval es3 p + sg * f p) = mval es3 p + sg * f p := by rw [hvp]; rcases hsg with h | h <;> rw [h] <;> exact wrap_inY (by omega) (by omega)
        rw [hB3] at fr3 len3 hw3 hm3 hit3
        have hwl3 : w < B3.length := by omega
        have fin : ∀ es4 clk4 ks4, MpS ks4 es4 clk4 → (∀ q, mval es4 q = if q = p then mval es3 p + sg * f p else mval es3 q) → Added H w es (gSeen f P sg (seen ++ [i])) (B3.set w (.map es4 clk4)) := fun es4 clk4 ks4 h1 h2 =>
          ⟨fun o ho hne => by rw [List.getElem?_set_ne (Ne.symm hne)]; exact fr3 o ho hne, by rw [List.length_set]; exact len3, es4, clk4, ks4, List.getElem?_set_self hwl3, h1, fun q => by
            rw [h2 q, hg q]
            split
            · rename_i e; subst e; rw [hvp, hgp]; omega
            · rw [hv3 q]; omega⟩
        have hm4 : ∀ y, (B3.set w y)[H.length + 1]? = some (.map (entsP f P) P.length) := fun y => by rw [List.getElem?_set_ne (by omega)]; exact hm3
        have hit4 : ∀ y, (B3.set w y)[H.length + 2]? = some (.iter (some (H.length + 1)) P.length (seen ++ [i]) P.length) := fun y => by rw [List.getElem?_set_ne (by omega)]; exact hit3
        rcases fnd_ps p hM3 with ⟨hpk, h1, h2⟩ | ⟨q, v, h1, h3, h2, h4, _⟩
        · have hmg := mget_eq hon hw3 h1
          simp only at hmg
          have hM4 := hM3.push p 0
          have hf4 := fnd_push (p := p) (v := .int .i64 0) (b := clk3) 0 hM3.k hpk
          have hw4 : (B3.set w (.map (es3 ++ [(keyD p, .int .i64 0, clk3)]) (clk3 + 1)))[w]? = some (.map (es3 ++ [(keyD p, .int .i64 0, clk3)]) (clk3 + 1)) := List.getElem?_set_self hwl3
          have hmg4 := mget_eq hon hw4 hf4
          simp only at hmg4
          have hcl := hM3.c
          have hidx := born_idx hM4.b (i := clk3) (by simp; omega)
          have hlast : (es3 ++ [(keyD p, D.int .i64 0, clk3)])[clk3]? = some (keyD p, .int .i64 0, clk3) := by
            rw [List.getElem?_append_right (by omega), hcl]; simp
          rw [h2] at hsw2
          simp +contextual (maxSteps := 10000000) only [r0, r2, r46, hent, kd, d1, hset13, g13, hp0, hmg, hsw, hsw2, go_sem, W_draw]
          refine mentK_eq (zv := .int .i64 0) (kok_key hon) rfl hw3 h1 ?_
          simp only
          obtain ⟨B4, hB4⟩ : ∃ B4, B3.set w (.map (es3 ++ [(keyD p, .int .i64 0, clk3)]) (clk3 + 1)) = B4 := ⟨_, rfl⟩
          have hB4' : B3.set w (.map (es3 ++ [(.agg [.str p.1, .str p.2], .int .i64 0, clk3)]) (clk3 + 1)) = B4 := hB4
          rw [hB4] at hmg4 hw4
          rw [hB4']
          simp +contextual (maxSteps := 10000000) only [r0, r2, r46, hp0, hmg4, go_sem, W_draw]
          refine mstK_eq rfl hw4 hidx hlast ?_
          have hset4 : ∀ y, B4.set w y = B3.set w y := fun y => by rw [← hB4, List.set_set]
          rw [hset4]
          simp +contextual (maxSteps := 10000000) only [r0, r2, r46, go_sem, W_draw]
          refine ⟨seen ++ [i], fin _ _ _ (hM4.set hlast _) fun q => ?_, hm4 _, hit4 _, hsn2, hsl2, by simp⟩
          have := mval_set hM4 (p := p) (j := clk3) (v := 0) (by rw [hf4]; congr 3; omega) hlast (0 + sg * f p) q
          rw [h2, this]
          split
          · rfl
          · exact mval_push hM3 hpk 0 clk3 q |>.trans (if_neg (by assumption))
        · have hmg := mget_eq hon hw3 h1
          simp only at hmg
          rw [h2] at hsw2
          simp +contextual (maxSteps := 10000000) only [r0, r2, r46, hent, kd, d1, hset13, g13, hp0, hmg, hsw, hsw2, go_sem, W_draw]
          refine mentK_eq (zv := .int .i64 0) (kok_key hon) rfl hw3 h1 ?_
          simp only
          have h3' : es3[q]? = some (D.agg [.str p.1, .str p.2], .int .i64 v, q) := h3
          rw [setSm h3', setSm hw3]
          simp +contextual (maxSteps := 10000000) only [r0, r2, r46, hp0, hmg, go_sem, W_draw]
          refine mstK_eq rfl hw3 (born_idx hM3.b h4) h3 ?_
          simp +contextual (maxSteps := 10000000) only [r0, r2, r46, go_sem, W_draw]
          refine ⟨seen ++ [i], fin _ _ _ (hM3.set h3 _) fun q' => ?_, hm4 _, hit4 _, hsn2, hsl2, by simp⟩
          rw [h2]
          exact mval_set hM3 h1 h3 _ q'
end GP
namespace GP
open Go Go.Proofs
set_option maxRecDepth 100000
variable [HasG Try.prog]
def φCon (H : Hp) : List D → Option D
  | [d, .agg [.str a, .str b]] => match edsM H d with
    | some l => if l.length ≤ 2 ^ 40 then some (.bool (l.contains (a, b))) else none
    | none => none
  | _ => none
theorem φCon_mono : Mo φCon := by
  intro H H' args r hl h
  unfold φCon at h ⊢
  split at h
  · rename_i d a b
    split at h
    · rename_i l hL
      simp only [edsM_mono hl hL]; exact h
    · cases h
  · cases h
theorem idxE_ge (l : List Ed) (e : Ed) : decide ((0 : Int) ≤ idxE l e) = l.contains e := by
  unfold idxE
  cases h : l.contains e with
  | true => simp
  | false => rw [if_neg (by simp)]; rfl
def conC2 (g : FuncId) : C :=
  (.seq (.reg [⟨(some 3), none, .box (.t 1)⟩, ⟨(some 4), none, .mv (.k (.bool false))⟩])
  (.seq (.reg [⟨(some 5), none, .mv (.t 0)⟩, ⟨(some 6), none, .load true 2 (.t 3)⟩, ⟨(some 7), none, .pcall (.k (.fn g [] [])) [(.t 5), (.t 6)]⟩, ⟨(some 8), none, .bin .geq (.t 7) (.k (.int .i64 0))⟩, ⟨(some 4), none, .mv (.t 8)⟩])
  .ret))
theorem okConE {N M : FuncId} (hi : OkAtH Try.prog M φIdx) (hf : Fn Try.prog N 9 [.inl 4] (conC2 M)) : OkAtH Try.prog N φCon := by
  have hM : MonoH [(M, φIdx)] := .cons φIdx_mono .nil
  refine okH_of (l := []) (m := [(M, φIdx)]) .nil (.cons hi .nil) hf fun H args r h => ?_
  unfold φCon at h
  split at h
  · rename_i d a b
    split at h
    · rename_i l hL
      split at h
      · rename_i hl
        injection h with h; subst h
        refine ⟨by simp, by simp [D.cl], fun T => ?_⟩
        have her := edsM_er hL
        have p : φIdx (H ++ [Ob.row [.str a, .str b]]) [d, .agg [.str a, .str b]] = some (.int .i64 (idxE l (a, b))) := by
          simp only [φIdx, edsM_mono (hle_ext (Ext.of H _)) hL]
          rw [if_pos hl]
        have q := idxE_ge l (a, b)
        simp +contextual (maxSteps := 10000000) only [conC2, her, p, q, pcallH hM, lookH_cons, lookH_nil, orK_n, eq_self, go_sem, W_draw]
      · cases h
    · cases h
  · cases h
theorem ok69 : OkAtH Try.prog 69 φCon := okConE ok110 fn69
def φ34 (H : Hp) : List D → Option D
  | [.ptr p 0, .str a, .str b] => if a.length ≤ 2 ^ 40 ∧ b.length ≤ 2 ^ 40 then
      (if nmB a && nmB b then (match rdAt H (.ptr p 2) with
        | some [.mp w] => (match φ71 H [.mp w, .str a, .str b] with
          | some (.int .i64 v) => some (.bool (decide (0 < v)))
          | _ => none)
        | _ => none)
      else some (.bool false)) else none
  | _ => none
theorem φ34_mono : Mo φ34 := by
  intro H H' args r hl h
  unfold φ34 at h ⊢
  split at h
  · rename_i p a b
    split at h
    · rename_i hc
      rw [if_pos hc]
      split at h
      · rename_i hn
        rw [if_pos hn]
        split at h
        · rename_i w hw
          have : rdAt H' (.ptr p 2) = some [.mp w] := by
            simp only [rdAt] at hw ⊢
            split at hw
            · rename_i cs ho; rw [hl _ _ ho rfl]; exact hw
            · cases hw
          rw [this]
          simp only
          split at h
          · rename_i v hv
            rw [φ71_mono H H' _ _ hl hv]; exact h
          · cases h
        · cases h
      · rename_i hn; rw [if_neg hn]; exact h
    · cases h
  · cases h
theorem ok34 : OkAtH Try.prog 34 φ34 := by
  have hM : MonoH [(71, φ71)] := .cons φ71_mono .nil
  refine okH_of (l := [(68, φ68)]) (m := [(71, φ71)]) (.cons ok68 .nil) (.cons ok71 .nil) fn34 fun H args r h => ?_
  unfold φ34 at h
  split at h
  · rename_i p a b
    split at h
    · rename_i hc
      have p1 : φ68 [.sl none [.str a, .str b]] = some (.bool (nmB a && nmB b)) := by
        simp only [φ68, strsD, Option.map_some]
        rw [if_pos ⟨by simp, by simp [hc.1, hc.2]⟩]
        simp [namedB]
      split at h
      · rename_i hn
        split at h
        · rename_i w hw
          split at h
          · rename_i v hv
            injection h with h; subst h
            refine ⟨by simp, by simp [D.cl], fun T => ?_⟩
            rw [hn] at p1
            simp +contextual (maxSteps := 10000000) only [c34, p1, hw, hv, nilc_ptr, ld, List.head?_cons, pcallH hM, lookH_cons, lookH_nil, orK_n, orK_s, eq_self, go_sem, W_draw]
          · cases h
        · cases h
      · rename_i hn
        injection h with h; subst h
        refine ⟨by simp, by simp [D.cl], fun T => ?_⟩
        have hn : (nmB a && nmB b) = false := by simpa using hn
        rw [hn] at p1
        simp +contextual (maxSteps := 10000000) only [c34, p1, pcallH hM, lookH_cons, lookH_nil, orK_n, orK_s, eq_self, go_sem, W_draw]
    · cases h
  · cases h
def Sl (H : Hp) (o : Nat) (d : D) (l : List Ed) : Prop := (d = .nils ∧ l = []) ∨ ∃ cap X, d = .ms true 2 o 0 l.length cap ∧ H[o]? = some (.row (flE l ++ X)) ∧ (flE l ++ X).length = cap * 2
theorem Sl.eds {H : Hp} {o : Nat} {d : D} {l : List Ed} (h : Sl H o d l) : edsM H d = some l := by
  rcases h with ⟨rfl, rfl⟩ | ⟨cap, X, rfl, h1, h2⟩
  · rfl
  · exact edsM_ms h1
theorem Sl.mono {H H' : Hp} {o : Nat} {d : D} {l : List Ed} (h : Sl H o d l) (e : d ≠ .nils → H'[o]? = H[o]?) : Sl H' o d l := by
  rcases h with h | ⟨cap, X, rfl, h1, h2⟩
  · exact .inl h
  · exact .inr ⟨cap, X, rfl, by rw [e (by simp)]; exact h1, h2⟩
structure RosD (H : Hp) (p oe om w : Nat) (es ms : List Ed) (eD mD : D) (ents : List (D × D × Nat)) (clk : Nat) (ks : List Nm) (c : Sb → Sb → Int) (r : Sb → Nat) : Prop where
  row : H[p]? = some (.row [eD, mD, .mp w])
  e : Sl H oe eD es
  m : Sl H om mD ms
  ne : eD = .nils ∨ mD = .nils ∨ oe ≠ om
  mp : H[w]? = some (.map ents clk)
  ks : MpS ks ents clk
  cnt : Cnt es c r
  val : ∀ a b, mval ents (a, b) = if a = b then 0 else c a b
  en : es.Nodup
  mn : ms.Nodup
  eok : ∀ x ∈ es, nmB x.1 = true ∧ nmB x.2 = true
  mok : ∀ x ∈ ms, nmB x.1 = true ∧ nmB x.2 = true
  el : es.length ≤ 60
  ml : ms.length ≤ 100
def Ros (H : Hp) (p oe om w : Nat) (es ms : List Ed) : Prop := ∃ eD mD ents clk ks c r, RosD H p oe om w es ms eD mD ents clk ks c r
theorem nm_len {s : Sb} (h : nmB s = true) : s.length ≤ 64 := by
  unfold nmB at h; simp only [Bool.and_eq_true, decide_eq_true_eq] at h; exact h.2
theorem RosD.cntM {H : Hp} {p oe om w : Nat} {es ms : List Ed} {eD mD : D} {ents : List (D × D × Nat)} {clk : Nat} {ks : List Nm} {c : Sb → Sb → Int} {r : Sb → Nat} (h : RosD H p oe om w es ms eD mD ents clk ks c r) (a b : Sb) : cntM ents a b = c a b := by
  unfold GP.cntM
  split
  · rename_i e; subst e; exact (h.cnt.self a).symm
  · rename_i e; rw [h.val a b, if_neg e]
theorem RosD.reach {H : Hp} {p oe om w : Nat} {es ms : List Ed} {eD mD : D} {ents : List (D × D × Nat)} {clk : Nat} {ks : List Nm} {c : Sb → Sb → Int} {r : Sb → Nat} (h : RosD H p oe om w es ms eD mD ents clk ks c r) (a b : Sb) : decide (0 < c a b) = (reachL es a).contains b := by
  have h1 := reached h.cnt a (by have := h.el; omega) b
  have h2 := h.cnt.pos a b
  rw [Bool.eq_iff_iff, decide_eq_true_eq, List.contains_iff_mem]
  unfold reachL
  rw [h1]
  omega
theorem p34 {H : Hp} {p oe om w : Nat} {es ms : List Ed} (h : Ros H p oe om w es ms) {a b : Sb} (ha : a.length ≤ 1000) (hb : b.length ≤ 1000) : φ34 H [.ptr p 0, .str a, .str b] = some (.bool (reachB es a b)) := by
  obtain ⟨eD, mD, ents, clk, ks, c, r, h⟩ := h
  simp only [φ34]
  rw [if_pos ⟨by omega, by omega⟩]
  unfold reachB
  split
  · rename_i hn
    have e1 : rdAt H (.ptr p 2) = some [.mp w] := by simp [rdAt, h.row]
    rw [e1]
    simp only
    rw [p71 h.mp h.ks ⟨by simp only; omega, by simp only; omega⟩]
    simp only
    rw [h.cntM, h.reach, hn, Bool.true_and]
  · rename_i hn
    have hn : (nmB a && nmB b) = false := by simpa using hn
    rw [hn]; rfl
end GP
namespace GP
open Go Go.Proofs
set_option maxRecDepth 100000
variable [HasG Try.prog]
theorem snd_er {P : Program} [HasG P] {f : FuncId} {args args' : List D} {H : Hp} {T : Tk} {Q : Post} (he : D.eraseL args' = args) (h : Snd P f args H T Q) : Snd P f args' H T Q := fun c w vs hg k1 k2 k3 =>
  h c w vs hg k1 k2 (by rw [← he]; exact k3.erase)
theorem lt_get {H : Hp} {i : Nat} {x : Ob} (h : H[i]? = some x) : i < H.length := by
  rcases Nat.lt_or_ge i H.length with h' | h'
  · exact h'
  · rw [List.getElem?_eq_none h'] at h; cases h
def Fr (S : List Nat) (H B : Hp) : Prop := H.length ≤ B.length ∧ ∀ o, o < H.length → o ∉ S → B[o]? = H[o]?
theorem Fr.refl (S : List Nat) (H : Hp) : Fr S H H := ⟨Nat.le_refl _, fun _ _ _ => rfl⟩
theorem Fr.ext (S : List Nat) {H B : Hp} (h : Ext H B) : Fr S H B := by
  obtain ⟨L, rfl⟩ := h
  exact ⟨by simp, fun o ho _ => List.getElem?_append_left ho⟩
theorem Fr.trans {S S' : List Nat} {A B C : Hp} (h : Fr S A B) (k : Fr S' B C) (hs : ∀ o ∈ S', o ∈ S ∨ A.length ≤ o) : Fr S A C :=
  ⟨Nat.le_trans h.1 k.1, fun o ho hn => by
    rw [k.2 o (Nat.lt_of_lt_of_le ho h.1) fun hm => by
      rcases hs o hm with h' | h'
      · exact hn h'
      · omega]
    exact h.2 o ho hn⟩
variable {H B : Hp} {p oe om w : Nat} {es ms : List Ed} {eD mD : D} {ents : List (D × D × Nat)} {clk : Nat} {ks : List Nm} {c : Sb → Sb → Int} {r : Sb → Nat}
theorem RosD.lts (h : RosD H p oe om w es ms eD mD ents clk ks c r) : p < H.length ∧ w < H.length ∧ p ≠ w ∧ (eD ≠ .nils → oe < H.length ∧ oe ≠ p ∧ oe ≠ w) ∧ (mD ≠ .nils → om < H.length ∧ om ≠ p ∧ om ≠ w) := by
  have key : ∀ {o : Nat} {d : D} {l : List Ed}, Sl H o d l → d ≠ .nils → o < H.length ∧ o ≠ p ∧ o ≠ w := fun {o d l} hs hd => by
    rcases hs with ⟨rfl, _⟩ | ⟨cap, X, rfl, h1, h2⟩
    · exact absurd rfl hd
    · refine ⟨lt_get h1, fun e => ?_, fun e => ?_⟩
      · subst e
        have := h.row
        rw [h1] at this
        injection this with this; injection this with this
        rw [this] at h2; simp at h2; omega
      · subst e
        have := h.mp
        rw [h1] at this; cases this
  refine ⟨lt_get h.row, lt_get h.mp, fun e => ?_, key h.e, key h.m⟩
  have h1 := h.row
  rw [e, h.mp] at h1; cases h1
theorem RosD.mono (h : RosD H p oe om w es ms eD mD ents clk ks c r) (e1 : B[p]? = H[p]?) (e2 : eD ≠ .nils → B[oe]? = H[oe]?) (e3 : mD ≠ .nils → B[om]? = H[om]?) (e4 : B[w]? = H[w]?) : RosD B p oe om w es ms eD mD ents clk ks c r :=
  { h with row := by rw [e1]; exact h.row, e := h.e.mono e2, m := h.m.mono e3, mp := by rw [e4]; exact h.mp }
theorem RosD.fr {S : List Nat} (h : RosD H p oe om w es ms eD mD ents clk ks c r) (hf : Fr S H B) (h1 : p ∉ S) (h2 : oe ∉ S) (h3 : om ∉ S) (h4 : w ∉ S) : RosD B p oe om w es ms eD mD ents clk ks c r := by
  obtain ⟨l1, l2, _, l3, l4⟩ := h.lts
  exact h.mono (hf.2 p l1 h1) (fun h => hf.2 oe (l3 h).1 h2) (fun h => hf.2 om (l4 h).1 h3) (hf.2 w l2 h4)
theorem RosD.ext (h : RosD H p oe om w es ms eD mD ents clk ks c r) (hE : Ext H B) : RosD B p oe om w es ms eD mD ents clk ks c r := h.fr (Fr.ext [] hE) (by simp) (by simp) (by simp) (by simp)
theorem Ros.fr {S : List Nat} (h : Ros H p oe om w es ms) (hf : Fr S H B) (h1 : p ∉ S) (h2 : oe ∉ S) (h3 : om ∉ S) (h4 : w ∉ S) : Ros B p oe om w es ms := by
  obtain ⟨eD, mD, ents, clk, ks, c, r, h⟩ := h
  exact ⟨eD, mD, ents, clk, ks, c, r, h.fr hf h1 h2 h3 h4⟩
@[go_sem] theorem okc_mp (o : Nat) : (D.mp o).okc = true := rfl
@[go_sem] theorem cells_mp (o : Nat) : (D.mp o).cells = [.mp o] := rfl
def nlB : D → Bool
  | .nils => true
  | _ => false
theorem new_snd {T : Tk} {Q : Post} (k : ∀ B p w, Ext H B → H.length ≤ p → H.length ≤ w → Ros B p p p w [] [] → Q (.ptr p 0) B T) : Snd Try.prog 31 [] H T Q := by
  refine call_of fn31 (by simp) (W_mono (X := XL []) (Ok.X .nil) (fun _ _ h => h) ?_)
  simp +contextual (maxSteps := 10000000) only [c31, go_sem, W_draw]
  refine k _ (H.length + 1) H.length (Ext.of _ _) (by omega) (Nat.le_refl _) ⟨.nils, .nils, [], 0, [], fun a b => if a = b then 1 else 0, fun _ => 0, ?_⟩
  exact { row := by simp, e := .inl ⟨rfl, rfl⟩, m := .inl ⟨rfl, rfl⟩, ne := .inl rfl, mp := by simp, ks := MpS.nil, cnt := ⟨by simp, fun a b => by simp [ecnt]⟩, val := fun a b => by simp [mval, fnd], en := by simp, mn := by simp, eok := by simp, mok := by simp, el := by simp, ml := by simp }
theorem appE {K : D → S → Prop} {t : Nat → D} {U : Tk} {o : Nat} {d : D} {l : List Ed} (h : Sl B o d l) (e : Ed) (hl : l.length ≤ 1000) (k : ∀ B' o' d', Sl B' o' d' (l ++ [e]) → d' ≠ .nils → (o' = o ∧ d ≠ .nils ∨ o' = B.length) → Fr (if nlB d then [] else [o]) B B' → K d' ⟨t, B', U⟩) :
    appmK true 2 32 K ⟨t, B, U⟩ d (some [.agg [.str e.1, .str e.2]]) := by
  refine ⟨rfl, ?_⟩
  rcases h with ⟨rfl, rfl⟩ | ⟨cap, X, rfl, h1, h2⟩
  · simp only
    rw [if_neg (by simp)]
    refine ⟨by simp, by simp, k _ B.length _ (.inr ⟨1, [], rfl, by simp [flE, flatD, D.cells], by simp [flE]⟩) (by simp) (.inr rfl) (Fr.ext _ (Ext.of _ _))⟩
  · have hcl : l.length ≤ cap := by rw [List.length_append, flE_len] at h2; omega
    have hlo := lt_get h1
    simp only [h1]
    refine ⟨trivial, ?_⟩
    simp only [List.length_cons, List.length_nil, Nat.zero_add]
    by_cases hc : l.length + 1 ≤ cap
    · rw [if_pos hc]
      refine ⟨by omega, ?_⟩
      have e1 : (flE l ++ X).take (l.length * 2) ++ flatD [.agg [.str e.1, .str e.2]] ++ (flE l ++ X).drop ((l.length + 1) * 2) = flE (l ++ [e]) ++ X.drop 2 := by
        rw [List.take_left' (flE_len l), flE_app, show (l.length + 1) * 2 = l.length * 2 + 2 by omega, ← List.drop_drop, List.drop_left' (flE_len l)]
        simp [flE, flatD, D.cells]
      rw [e1]
      refine k _ o _ (.inr ⟨cap, X.drop 2, by simp, by simp [hlo], ?_⟩) (by simp) (.inl ⟨rfl, by simp⟩) ⟨by simp, fun o' _ hn => ?_⟩
      · rw [List.length_append, flE_len] at h2 ⊢; simp; omega
      · simp only [nlB, Bool.false_eq_true, if_false, List.mem_singleton] at hn
        rw [List.getElem?_set_ne (Ne.symm hn)]
    · rw [if_neg hc]
      have hX : X = [] := by
        rw [List.length_append, flE_len] at h2
        exact List.eq_nil_of_length_eq_zero (by omega)
      subst hX
      refine ⟨trivial, by simp [flE_len], by omega, by omega, ?_⟩
      refine k _ B.length _ (.inr ⟨l.length + 1, [], by simp, ?_, by simp [flE_len]⟩) (by simp) (.inr rfl) ⟨by simp, fun o' ho hn => ?_⟩
      · rw [List.getElem?_append_right (by simp)]; simp [flE, flatD, D.cells]
      · simp only [nlB, Bool.false_eq_true, if_false, List.mem_singleton] at hn
        rw [List.getElem?_append_left (by simpa using ho), List.getElem?_set_ne (Ne.symm hn)]
theorem Cnt.prod0 {E : List Ed} (h : Cnt E c r) {s j : Sb} (hjs : c j s = 0) (a : Sb) : c a s * c j a = 0 := by
  by_cases h1 : c a s = 0
  · rw [h1]; simp
  · by_cases h2 : c j a = 0
    · rw [h2]; simp
    · exact absurd hjs (h.trans h2 h1)
theorem pow_le60 {n : Nat} (h : n ≤ 60) : (2 : Int) ^ n ≤ 2 ^ 60 := by
  have := Nat.pow_le_pow_right (n := 2) (by omega) h
  exact_mod_cast this
theorem cntR_names (es ms : List Ed) (more : List Sb) : (namesS (n3 more es ms)).length = cntR es ms more := by
  obtain ⟨h1, h2⟩ := once_spec (n3 more es ms) [] (by simp)
  exact names_len h1 fun x => by rw [h2 x]; simp
end GP
namespace GP
open Go Go.Proofs
set_option maxRecDepth 100000
variable [HasG Try.prog]
theorem Sl.cell {H : Hp} {o : Nat} {d : D} {l : List Ed} (h : Sl H o d l) (hn : d ≠ .nils) : d.okc = true ∧ d.cells = [d] := by
  rcases h with ⟨rfl, _⟩ | ⟨cap, X, rfl, _⟩
  · exact absurd rfl hn
  · exact ⟨rfl, rfl⟩
theorem Ext.ln {H B : Hp} (h : Ext H B) : H.length ≤ B.length := by obtain ⟨L, rfl⟩ := h; simp
def RosS (H : Hp) (p : Nat) (S : List Nat) (es ms : List Ed) : Prop := (∀ o ∈ S, o < H.length) ∧ ∃ oe om w, p ∈ S ∧ oe ∈ S ∧ om ∈ S ∧ w ∈ S ∧ Ros H p oe om w es ms
def Stp (H B : Hp) (p : Nat) (S : List Nat) (es ms : List Ed) : Prop := ∃ S', RosS B p S' es ms ∧ Fr S H B ∧ ∀ o ∈ S', o ∈ S ∨ H.length ≤ o
variable {H B : Hp} {p oe om w : Nat} {S : List Nat} {es ms : List Ed} {eD mD : D} {ents : List (D × D × Nat)} {clk : Nat} {ks : List Nm} {c : Sb → Sb → Int} {r : Sb → Nat}
theorem RosS.fr {S2 : List Nat} (h : RosS H p S es ms) (hf : Fr S2 H B) (hd : ∀ o ∈ S, o ∉ S2) : RosS B p S es ms := by
  obtain ⟨h1, oe, om, w, k1, k2, k3, k4, k⟩ := h
  exact ⟨fun o ho => Nat.lt_of_lt_of_le (h1 o ho) hf.1, oe, om, w, k1, k2, k3, k4, k.fr hf (hd _ k1) (hd _ k2) (hd _ k3) (hd _ k4)⟩
theorem RosS.stay (h : RosS H p S es ms) (hE : Ext H B) : Stp H B p S es ms := ⟨S, h.fr (Fr.ext [] hE) (by simp), Fr.ext S hE, fun o ho => .inl ho⟩
theorem Stp.trans {C : Hp} {S : List Nat} {es ms : List Ed} (h : Fr S H B) (hs : ∀ o ∈ S, o < H.length) {S' : List Nat} (h2 : ∀ o ∈ S', o ∈ S ∨ H.length ≤ o) (k : Stp B C p S' es ms) : Stp H C p S es ms := by
  obtain ⟨S2, k1, k2, k3⟩ := k
  refine ⟨S2, k1, h.trans k2 h2, fun o ho => ?_⟩
  rcases k3 o ho with h' | h'
  · exact h2 o h'
  · exact .inr (Nat.le_trans h.1 h')
theorem RosS.make (h : RosD B p oe om w es ms eD mD ents clk ks c r) (hf : Fr S H B) (hp : p ∈ S) (hw : w ∈ S) (he : eD ≠ .nils → oe ∈ S ∨ H.length ≤ oe) (hm : mD ≠ .nils → om ∈ S ∨ H.length ≤ om) (hS : ∀ o ∈ S, o < H.length) : Stp H B p S es ms := by
  obtain ⟨l1, l2, l3, l4, l5⟩ := h.lts
  refine ⟨[p, w, if nlB eD then p else oe, if nlB mD then p else om], ⟨?_, if nlB eD then p else oe, if nlB mD then p else om, w, by simp, by simp, by simp, by simp, eD, mD, ents, clk, ks, c, r, ?_⟩, hf, ?_⟩
  · intro o ho
    simp only [List.mem_cons, List.not_mem_nil, or_false] at ho
    rcases ho with rfl | rfl | rfl | rfl
    · exact l1
    · exact l2
    · split
      · exact l1
      · rename_i hn; exact (l4 (by rintro rfl; exact hn rfl)).1
    · split
      · exact l1
      · rename_i hn; exact (l5 (by rintro rfl; exact hn rfl)).1
  · refine { h with e := ?_, m := ?_, ne := ?_ }
    · split
      · rename_i hn
        rcases h.e with ⟨rfl, rfl⟩ | ⟨cap, X, rfl, _⟩
        · exact .inl ⟨rfl, rfl⟩
        · simp [nlB] at hn
      · exact h.e
    · split
      · rename_i hn
        rcases h.m with ⟨rfl, rfl⟩ | ⟨cap, X, rfl, _⟩
        · exact .inl ⟨rfl, rfl⟩
        · simp [nlB] at hn
      · exact h.m
    · rcases h.e with ⟨rfl, _⟩ | ⟨cap, X, rfl, _⟩
      · exact .inl rfl
      · rcases h.m with ⟨rfl, _⟩ | ⟨cap', X', rfl, _⟩
        · exact .inr (.inl rfl)
        · simpa [nlB] using h.ne
  · intro o ho
    simp only [List.mem_cons, List.not_mem_nil, or_false] at ho
    rcases ho with rfl | rfl | rfl | rfl
    · exact .inl hp
    · exact .inl hw
    · split
      · exact .inl hp
      · rename_i hn; exact he (by rintro rfl; exact hn rfl)
    · split
      · exact .inl hp
      · rename_i hn; exact hm (by rintro rfl; exact hn rfl)
theorem tf' (b : Bool) : b = false ∨ b = true := by cases b <;> simp
theorem n3_ne {s j : Sb} : n3 [s, j] es ms ≠ [] := by simp [n3]
theorem names_nm {l : List Sb} {x : Sb} : x ∈ namesS (n3 l es ms) ↔ x ∈ l ∨ (∃ e ∈ es, x = e.1 ∨ x = e.2) ∨ x ∈ ms.map (·.2) := by
  rw [names_mem]
  simp only [n3, heldL, List.mem_append, ends, List.mem_flatten, List.mem_map]
  constructor
  · rintro ((h | ⟨m, ⟨e, he, rfl⟩, hx⟩) | h)
    · exact .inl h
    · simp only [List.mem_cons, List.not_mem_nil, or_false] at hx
      exact .inr (.inl ⟨e, he, hx⟩)
    · exact .inr (.inr h)
  · rintro (h | ⟨e, he, hx⟩ | h)
    · exact .inl (.inl h)
    · exact .inl (.inr ⟨_, ⟨e, he, rfl⟩, by simpa using hx⟩)
    · exact .inr h
theorem Cnt.out0 (h : Cnt es c r) {L : List Sb} (hL : ∀ e ∈ es, e.1 ∈ L ∧ e.2 ∈ L) {s j a b : Sb} (hs : s ∈ L) (hj : j ∈ L) (hab : ¬ (a ∈ L ∧ b ∈ L)) : c a s * c j b = 0 := by
  by_cases ha : a ∈ L
  · have hb : b ∉ L := fun h => hab ⟨ha, h⟩
    have : c j b = 0 := h.noin (fun e he e' => hb (by rw [← e']; exact (hL e he).2)) _ j (Nat.lt_succ_self _) (fun e' => hb (by rw [← e']; exact hj))
    rw [this]; simp
  · have : c a s = 0 := h.noout (fun e he e' => ha (by rw [← e']; exact (hL e he).1)) (fun e' => ha (by rw [e']; exact hs))
    rw [this]; simp
theorem errR_0 (E M : List Ed) (a b : Sb) : errR E M 0 a b = if nmB a && nmB b then (if E.contains (a, b) then 9 else if reachB E b a then 10 else if decide (24 < cntR E M [a, b]) then 13 else 0) else 1 := rfl
theorem pN {a b : Sb} (ha : a.length ≤ 1000) (hb : b.length ≤ 1000) : φ68 [.sl none [.str a, .str b]] = some (.bool (nmB a && nmB b)) := by
  simp only [φ68, strsD, Option.map_some]
  rw [if_pos ⟨by simp, by simp; omega⟩]
  simp [namedB]
theorem pC {d : D} {l : List Ed} (h : edsM H d = some l) (hl : l.length ≤ 1000) (a b : Sb) : φCon H [d, .agg [.str a, .str b]] = some (.bool (l.contains (a, b))) := by
  simp only [φCon, h]
  rw [if_pos (by omega)]
theorem RosD.nmlen (h : RosD H p oe om w es ms eD mD ents clk ks c r) {l : List Sb} (hl : ∀ x ∈ l, x.length ≤ 1000) : ∀ x ∈ namesS (n3 l es ms), x.length ≤ 1000 := fun x hx => by
  rcases names_nm.1 hx with h' | ⟨e, he, h'⟩ | h'
  · exact hl x h'
  · have := h.eok e he
    rcases h' with rfl | rfl
    · have := nm_len this.1; omega
    · have := nm_len this.2; omega
  · obtain ⟨e, he, rfl⟩ := List.mem_map.1 h'
    have := nm_len (h.mok e he).2; omega
theorem RosD.nmn (h : RosD H p oe om w es ms eD mD ents clk ks c r) {l : List Sb} (hl : l.length ≤ 10) : (namesS (n3 l es ms)).length ≤ 1000 := by
  have h1 := cntR_names es ms l
  have h2 := once_len (n3 l es ms)
  have h3 := n3_len l es ms
  have := h.el
  have := h.ml
  unfold cntR at h1
  omega
theorem RosD.nmends (_h : RosD H p oe om w es ms eD mD ents clk ks c r) (l : List Sb) : ∀ e ∈ es, e.1 ∈ namesS (n3 l es ms) ∧ e.2 ∈ namesS (n3 l es ms) := fun e he => ⟨names_nm.2 (.inr (.inl ⟨e, he, .inl rfl⟩)), names_nm.2 (.inr (.inl ⟨e, he, .inr rfl⟩))⟩
theorem RosD.mv0 (h : RosD H p oe om w es ms eD mD ents clk ks c r) (a b : Sb) : 0 ≤ mval ents (a, b) ∧ mval ents (a, b) ≤ 2 ^ 60 := by
  rw [h.val]
  split
  · exact ⟨Int.le_refl _, by decide⟩
  · exact ⟨h.cnt.pos a b, Int.le_trans (h.cnt.le a b) (pow_le60 h.el)⟩
set_option maxHeartbeats 4000000 in
theorem join_snd {s j : Sb} {T : Tk} {Q : Post} (h : RosS H p S es ms) (hl : es.length < 60) (hs : s.length ≤ 1000) (hj : j.length ≤ 1000)
    (k : ∀ B U, Stp H B p S (if errR es ms 0 s j = 0 then es ++ [(s, j)] else es) ms → Q (.int .i64 (errR es ms 0 s j)) B (T ++ U)) :
    Snd Try.prog 32 [.ptr p 0, .agg [.str s, .str j]] H T Q := by
  have hr := h
  obtain ⟨hS, oe, om, w, k1, k2, k3, k4, eD, mD, ents, clk, ks, c, r, h⟩ := h
  have hM : MonoH [(69, φCon), (34, φ34)] := .cons φCon_mono (.cons φ34_mono .nil)
  refine call_of fn32 (by simp) (W_mono (X := XG Try.prog [67, 70] [(68, φ68)] [(69, φCon), (34, φ34)] [] []) (XG.X (.cons ok68 .nil) (.cons ok69 (.cons ok34 .nil)) .nil .nil) (fun _ _ h => h) ?_)
  simp +contextual (maxSteps := 10000000) only [c32, XG_eq, go_sem, W_draw]
  have hp1 := (Ext.of H [Ob.row [.str s, .str j]]).get h.row
  have hE1 : Ext H (H ++ [Ob.row [.str s, .str j]]) := Ext.of _ _
  refine snd_er (by rfl) (names_snd (more := [s, j]) (hE1.get h.row) (edsM_mono (hle_ext hE1) h.e.eds) (edsM_mono (hle_ext hE1) h.m.eds) (by have := h.el; omega) (by have := h.ml; omega) (by simp) (fun e => absurd e n3_ne) fun _ L U o cap X ho hor => ?_)
  have hE : Ext H (H ++ [Ob.row [.str s, .str j]] ++ L) := by rw [List.append_assoc]; exact Ext.of _ _
  have g0 : rdAt (H ++ [Ob.row [.str s, .str j]] ++ L) (.ptr H.length 0) = some [.str s, .str j] := by simp [rdAt]
  have g1 : rdAt (H ++ [Ob.row [.str s, .str j]] ++ L) (.ptr H.length 1) = some [.str j] := by simp [rdAt]
  obtain ⟨B, hB⟩ : ∃ B, H ++ [Ob.row [.str s, .str j]] ++ L = B := ⟨_, rfl⟩
  rw [hB] at hor hE g0 g1 ⊢
  have h2 := h.ext hE
  have gp0 : rdAt B (.ptr p 0) = some [eD, mD, .mp w] := by simp [rdAt, h2.row]
  have gp2 : rdAt B (.ptr p 2) = some [.mp w] := by simp [rdAt, h2.row]
  have p1 := pN hs hj
  have p2 := pC h2.e.eds (by have := h.el; omega) s j
  have p3 := p34 (H := B) (a := j) (b := s) ⟨eD, mD, ents, clk, ks, c, r, h2⟩ hj hs
  have her := edsM_er h2.e.eds
  have kk := k
  rw [errR_0] at k
  rcases tf' (nmB s && nmB j) with c1 | c1
  · rw [c1] at p1 k
    simp +contextual (maxSteps := 10000000) only [g0, g1, p1, pcallG hM, lookH_cons, lookH_nil, orK_n, nilc_ptr, ld, List.head?_cons, go_sem, W_draw]
    exact k _ _ (hr.stay hE)
  rw [c1] at p1 k
  simp only [if_true] at k
  rcases tf (es.contains (s, j)) with c2 | c2
  · rw [c2] at p2 k
    simp +contextual (maxSteps := 10000000) only [g0, g1, gp0, p1, p2, her, pcallG hM, lookH_cons, lookH_nil, orK_n, nilc_ptr, ld, List.head?_cons, go_sem, W_draw]
    exact k _ _ (hr.stay hE)
  rw [c2] at p2 k
  simp only [Bool.false_eq_true, if_false] at k
  rcases tf (reachB es j s) with c3 | c3
  · rw [c3] at p3 k
    simp +contextual (maxSteps := 10000000) only [g0, g1, gp0, p1, p2, p3, her, pcallG hM, lookH_cons, lookH_nil, orK_n, nilc_ptr, ld, List.head?_cons, go_sem, W_draw]
    exact k _ _ (hr.stay hE)
  rw [c3] at p3 k
  simp only [Bool.false_eq_true, if_false] at k
  have hcr := cntR_names es ms [s, j]
  have q4 : decide (((namesS (n3 [s, j] es ms)).length : Int) > 24) = decide (24 < cntR es ms [s, j]) := by
    rw [hcr]; rw [Bool.eq_iff_iff, decide_eq_true_eq, decide_eq_true_eq]; omega
  rcases tf (decide (24 < cntR es ms [s, j])) with c4 | c4
  · rw [c4] at q4 k
    simp +contextual (maxSteps := 10000000) only [g0, g1, gp0, p1, p2, p3, q4, her, pcallG hM, lookH_cons, lookH_nil, orK_n, nilc_ptr, ld, List.head?_cons, go_sem, W_draw]
    exact k _ _ (hr.stay hE)
  rw [c4] at q4 k
  simp +contextual (maxSteps := 10000000) only [g0, g1, gp0, gp2, p1, p2, p3, q4, her, pcallG hM, lookH_cons, lookH_nil, orK_n, nilc_ptr, ld, List.head?_cons, XG_eq, go_sem, W_draw]
  have hjs : c j s = 0 := by
    have h1 := h.reach j s
    have h3 := h.cnt.pos j s
    have : (reachL es j).contains s = false := by
      unfold reachB at c3
      rw [Bool.and_comm (nmB s)] at c1
      rw [c1] at c3; simpa using c3
    rw [this, decide_eq_false_iff_not] at h1
    omega
  obtain ⟨r', hc'⟩ := h.cnt.add hjs
  have hpr : ∀ a b, 0 ≤ c a s * c j b ∧ c a s * c j b ≤ 2 ^ 60 := fun a b => by
    have h1 := h.cnt.pos a s
    have h2 := h.cnt.pos j b
    have h3 := h.cnt.pos a b
    have h4 : c a b + c a s * c j b ≤ 2 ^ (es ++ [(s, j)]).length := hc'.le a b
    have h5 := pow_le60 (n := (es ++ [(s, j)]).length) (by simp; omega)
    exact ⟨Int.mul_nonneg h1 h2, by omega⟩
  have hnm := n3_ne (es := es) (ms := ms) (s := s) (j := j)
  obtain ⟨N, hN⟩ : ∃ N, namesS (n3 [s, j] es ms) = N := ⟨_, rfl⟩
  have n1 := names_nodup (n3 [s, j] es ms)
  have n2 := h.nmn (l := [s, j]) (by simp)
  have n3' := h.nmlen (l := [s, j]) (by simp [hs, hj])
  have n4 := h.nmends [s, j]
  have n5 : s ∈ namesS (n3 [s, j] es ms) := names_nm.2 (.inl (by simp))
  have n6 : j ∈ namesS (n3 [s, j] es ms) := names_nm.2 (.inl (by simp))
  rw [hN] at n1 n2 n3' n4 n5 n6 hor ⊢
  refine add_snd h2.mp h2.ks hor n1 n2 hs hj n3' (.inl rfl) (fun a _ b _ => ?_) fun B2 U2 hA => ?_
  · rw [h2.cntM, h2.cntM]
    have q1 := hpr a b
    have q2 := h2.mv0 a b
    exact ⟨q1.1, by omega, q2.1, by omega⟩
  have hpB := lt_get h2.row
  have hw' : w < H.length := (h.lts).2.1
  obtain ⟨l1, l2, l3, l4, l5⟩ := h2.lts
  have m0 : rdAt B2 (.ptr H.length 0) = some [.str s, .str j] := by
    simp only [rdAt] at g0 ⊢
    rw [hA.fr H.length (by rw [← hB]; simp) (by omega)]; exact g0
  have mp : B2[p]? = some (.row [eD, mD, .mp w]) := by rw [hA.fr p hpB l3]; exact h2.row
  have mp0 : rdAt B2 (.ptr p 0) = some [eD, mD, .mp w] := by simp [rdAt, mp]
  have me : Sl B2 oe eD es := h2.e.mono fun hn => hA.fr oe (l4 hn).1 (l4 hn).2.2
  have mm : Sl B2 om mD ms := h2.m.mono fun hn => hA.fr om (l5 hn).1 (l5 hn).2.2
  simp +contextual (maxSteps := 10000000) only [m0, mp0, nilc_ptr, ld, List.head?_cons, go_sem, W_draw]
  refine appE me (s, j) (by omega) fun B3 oe' d' hd hdn ho' hF => ?_
  have lB := hA.len
  have hoe : eD ≠ .nils → oe ≠ p ∧ oe ≠ w ∧ oe < B.length := fun hn => ⟨(l4 hn).2.1, (l4 hn).2.2, (l4 hn).1⟩
  have hoe' : oe' ≠ p ∧ oe' ≠ w := by
    rcases ho' with ⟨rfl, hn⟩ | rfl
    · exact ⟨(hoe hn).1, (hoe hn).2.1⟩
    · exact ⟨by omega, by omega⟩
  have nin : ∀ x, x < B2.length → (eD ≠ .nils → x ≠ oe) → B3[x]? = B2[x]? := fun x hx hn => hF.2 x hx fun hm => by
    split at hm
    · simp at hm
    · rename_i hb
      rw [List.mem_singleton] at hm
      exact hn (by rintro rfl; exact hb rfl) hm
  have mp3 : B3[p]? = some (.row [eD, mD, .mp w]) := by rw [nin p (by omega) fun hn => Ne.symm (hoe hn).1]; exact mp
  obtain ⟨ents', clk', ks', hm, hk, hv⟩ := hA.mp
  have mw3 : B3[w]? = some (.map ents' clk') := by rw [nin w (by omega) fun hn => Ne.symm (hoe hn).2.1]; exact hm
  have lp3 := lt_get mp3
  obtain ⟨o1, o2⟩ := hd.cell hdn
  simp +contextual (maxSteps := 10000000) only [storeK_E mp3, o1, o2, List.take_zero, List.nil_append, List.drop_succ_cons, List.drop_zero, go_sem, W_draw]
  have e0 : errR es ms 0 s j = 0 := by rw [errR_0, c1, c2, c3, c4]; rfl
  rw [e0, if_pos rfl] at kk
  refine kk _ _ (RosS.make (oe := oe') (om := om) (eD := d') (mD := mD) (w := w) (r := r') { row := ?_, e := hd.mono fun _ => ?_, m := mm.mono fun hn => ?_, ne := ?_, mp := ?_, ks := hk, cnt := hc', val := fun a b => ?_, en := ?_, mn := h.mn, eok := fun x hx => ?_, mok := h.mok, el := by simp; omega, ml := h.ml } ⟨?_, fun x hx hn => ?_⟩ k1 k4 (fun _ => ?_) (fun _ => .inl k3) hS)
  · simp [lp3]
  · rw [List.getElem?_set_ne (Ne.symm hoe'.1)]
  · rw [List.getElem?_set_ne (Ne.symm (l5 hn).2.1)]
    refine nin om (by have := (l5 hn).1; omega) fun he => ?_
    rcases h.ne with h' | h' | h'
    · exact absurd h' he
    · exact absurd h' hn
    · exact Ne.symm h'
  · rcases h.ne with h' | h' | h'
    · rcases ho' with ⟨_, hn⟩ | rfl
      · exact absurd h' hn
      · by_cases hn : mD = .nils
        · exact .inr (.inl hn)
        · exact .inr (.inr (by have := (l5 hn).1; omega))
    · exact .inr (.inl h')
    · rcases ho' with ⟨rfl, hn⟩ | rfl
      · exact .inr (.inr h')
      · by_cases hn : mD = .nils
        · exact .inr (.inl hn)
        · exact .inr (.inr (by have := (l5 hn).1; omega))
  · rw [List.getElem?_set_ne l3]; exact mw3
  · rw [hv, h2.val, h2.cntM, h2.cntM]
    by_cases hab : a = b
    · subst hab
      simp [h.cnt.prod0 hjs]
    · rw [if_neg hab, if_neg hab]
      by_cases hin : a ∈ N ∧ b ∈ N
      · simp [hin]
      · simp only [hin, if_false, h.cnt.out0 n4 n5 n6 hin]
  · refine List.nodup_append.2 ⟨h.en, by simp, fun x hx y hy e => ?_⟩
    rw [List.mem_singleton] at hy
    subst hy; subst e
    rw [List.contains_iff_mem.2 hx] at c2; cases c2
  · rcases List.mem_append.1 hx with hx | hx
    · exact h.eok x hx
    · rw [List.mem_singleton] at hx; subst hx
      simpa [Bool.and_eq_true] using c1
  · have := hE.ln; have := hF.1; simp; omega
  · have lh := hE.ln
    rw [List.getElem?_set_ne (fun e => hn (by rw [← e]; exact k1)), nin x (by omega) (fun _ e => hn (by rw [e]; exact k2)), hA.fr x (by omega) (fun e => hn (by rw [e]; exact k4))]
    obtain ⟨Y, hY⟩ := hE
    rw [hY, List.getElem?_append_left hx]
  · rcases ho' with ⟨rfl, _⟩ | rfl
    · exact .inl k2
    · exact .inr (by have := hE.ln; omega)
end GP
namespace GP
open Go Go.Proofs
set_option maxRecDepth 100000
variable [HasG Try.prog]
variable {H B : Hp} {p : Nat} {S : List Nat} {es ms : List Ed}
abbrev St := Int × Sb × Sb
def stD (e : St) : D := .agg [.int .u8 e.1, .str e.2.1, .str e.2.2]
def stS (n : Bool) (l : List St) : D := sliceD n (l.map stD)
theorem stL_erase (l : List St) : D.eraseL (l.map stD) = l.map stD := eraseL_id fun x hx => by
  obtain ⟨e, _, rfl⟩ := List.mem_map.1 hx; rfl
@[go_sem] theorem stS_erase (n : Bool) (l : List St) : (stS n l).erase = stS n l := by unfold stS; rw [erase_sliceD, stL_erase]
@[go_sem] theorem stS_len (n : Bool) (l : List St) : lenD (stS n l) = some l.length := by
  unfold stS; rcases sliceD_cases n (l.map stD) with ⟨e, h⟩ | e <;> rw [e] <;> simp [lenD]
  have : l = [] := by simpa using h
  subst this; rfl
@[go_sem high] theorem stS_ia (n : Bool) (l : List St) (k : IntKind) (i : Nat) : ia 3 (stS n l) (.int k (i : Int)) = (l[i]?).map fun e => .el [.int .u8 e.1, .str e.2.1, .str e.2.2] := by
  unfold stS
  rw [iab_nat]
  simp only [List.getElem?_map]
  cases l[i]? <;> rfl
theorem byteD_isByte (l : List UInt8) : (byteD l).all isByte = true := List.all_eq_true.2 fun x hx => by
  obtain ⟨b, _, rfl⟩ := List.mem_map.1 hx
  have := b.toNat_lt
  simp [isByte]; try omega
theorem byteD_un (l : List UInt8) : (byteD l).map unbyte = l := by
  induction l with
  | nil => rfl
  | cons b l ih =>
    have : unbyte (.int .u8 (b.toNat : Int)) = b := by simp [unbyte]
    simp only [byteD, List.map_cons] at ih ⊢
    rw [this, ih]
theorem b2s_byteD (t : Option Nat) (l : List UInt8) : b2sD (.sl t (byteD l)) = some (.str l) := by
  simp only [b2sD, byteD_isByte, if_true, byteD_un]
theorem wrap_u8' {i : Int} (h0 : 0 ≤ i) (h1 : i ≤ 255) : IntKind.u8.wrap i = i := by
  have : IntKind.u8.wrap i = i % 2 ^ 8 := by simp [IntKind.wrap, IntKind.bits, IntKind.signed]
  rw [this]; omega
def nameR (n : Nat) : Sb := [114, UInt8.ofNat (97 + n)]
def φ33 : List D → Option D
  | [.int .i64 n] => if 0 ≤ n ∧ n ≤ 100 then some (.str (nameR n.toNat)) else none
  | _ => none
theorem ok33 : OkAt Try.prog 33 φ33 := by
  refine ok_of (l := []) .nil fn33 fun args r h => ?_
  unfold φ33 at h
  split at h
  · rename_i n
    split at h
    · rename_i hn
      injection h with h; subst h
      refine ⟨by simp, by simp [D.cl, nameR], fun H T => ?_⟩
      obtain ⟨m, rfl⟩ : ∃ m : Nat, n = m := ⟨n.toNat, by omega⟩
      have hm : m ≤ 100 := by omega
      have w1 : IntKind.i64.wrap (97 + (m : Int)) = ((97 + m : Nat) : Int) := by rw [wrap_inY (by omega) (by omega)]; simp
      have hb : ∀ t : Option Nat, b2sD (.sl t [.int .u8 114, .int .u8 (IntKind.u8.wrap ((97 + m : Nat) : Int))]) = some (.str (nameR m)) := fun t => by
        have e1 : (UInt8.ofNat (97 + m)).toNat = 97 + m := by rw [UInt8.toNat_ofNat']; omega
        have e2 : IntKind.u8.wrap ((97 + m : Nat) : Int) = ((97 + m : Nat) : Int) := wrap_u8' (by omega) (by omega)
        have := b2s_byteD t (nameR m)
        rw [e2]
        simp only [byteD, nameR, List.map_cons, List.map_nil, e1] at this
        exact this
      simp +contextual (maxSteps := 10000000) only [c33, w1, hb, go_sem, W_draw]
      simp
    · cases h
  · cases h
theorem edges_snd {T : Tk} {Q : Post} (h : RosS H p S es ms) (k : ∀ d L, edsM (H ++ L) d = some es → Q d (H ++ L) T) : Snd Try.prog 35 [.ptr p 0] H T Q := by
  obtain ⟨hS, oe, om, w, k1, k2, k3, k4, eD, mD, ents, clk, ks, c, r, h⟩ := h
  refine call_of fn35 (by simp) (W_mono (X := XG Try.prog [72] [] [] [] []) (XG.X .nil .nil .nil .nil) (fun _ _ h => h) ?_)
  have g0 : rdAt H (.ptr p 0) = some [eD, mD, .mp w] := by simp only [rdAt, h.row]; rfl
  simp +contextual (maxSteps := 10000000) only [c35, XG_eq, g0, nilc_ptr, ld, List.head?_cons, go_sem, W_draw]
  refine cloneE_snd fn72c h.e.eds (by have := h.el; omega) (fun e => ?_) fun L o h1 h2 => ?_
  · simp +contextual (maxSteps := 10000000) only [go_sem, W_draw]
    have := k .nils []
    rw [List.append_nil] at this
    have he := h.e.eds
    rw [e] at he
    exact this he
  · simp +contextual (maxSteps := 10000000) only [go_sem, W_draw]
    refine k _ _ ?_
    have := edsM_ms (cap := es.length) (X := []) (l := es) (H := H ++ L) (o := o) (by rw [List.append_nil]; exact h2)
    exact this
end GP
namespace GP
open Go Go.Proofs
set_option maxRecDepth 100000
variable [HasG Try.prog]
variable {H B : Hp} {p : Nat} {S : List Nat} {es ms : List Ed}
theorem RosS.ext (h : RosS H p S es ms) (hE : Ext H B) : RosS B p S es ms := h.fr (Fr.ext [] hE) (by simp)
theorem RosS.new {H B : Hp} {p w : Nat} (h : Ros B p p p w [] []) : RosS B p [p, w] [] [] := by
  obtain ⟨eD, mD, ents, clk, ks, c, r, k⟩ := h
  obtain ⟨l1, l2, _⟩ := k.lts
  exact ⟨fun o ho => by simp at ho; rcases ho with rfl | rfl <;> assumption, p, p, w, by simp, by simp, by simp, by simp, eD, mD, ents, clk, ks, c, r, k⟩
theorem new_S {T : Tk} {Q : Post} (k : ∀ B p S, Ext H B → H.length ≤ p → (∀ o ∈ S, H.length ≤ o) → RosS B p S [] [] → Q (.ptr p 0) B T) : Snd Try.prog 31 [] H T Q :=
  new_snd fun B p w h1 h2 h3 h4 => k B p [p, w] h1 h2 (by simp [h2, h3]) (RosS.new (H := H) h4)
theorem RosS.ros {p : Nat} {S : List Nat} {es ms : List Ed} (h : RosS H p S es ms) {a b : Sb} (ha : a.length ≤ 1000) (hb : b.length ≤ 1000) : φ34 H [.ptr p 0, .str a, .str b] = some (.bool (reachB es a b)) := by
  obtain ⟨_, oe, om, w, _, _, _, _, h⟩ := h
  exact p34 h ha hb
theorem fr_of_new {S : List Nat} {A C : Hp} (hE : Ext H A) (h : ∀ o ∈ S, H.length ≤ o) (hF : Fr S A C) : Ext H C := by
  have hlen := Nat.le_trans hE.ln hF.1
  refine ⟨C.drop H.length, ?_⟩
  refine List.ext_getElem? fun i => ?_
  by_cases hi : i < H.length
  · rw [List.getElem?_append_left hi, hF.2 i (Nat.lt_of_lt_of_le hi hE.ln) (fun hm => by have := h i hm; omega)]
    obtain ⟨L, rfl⟩ := hE
    rw [List.getElem?_append_left hi]
  · rw [List.getElem?_append_right (by omega), List.getElem?_drop]
    congr 1; omega
theorem awake_snd {T : Tk} {Q : Post} (k : ∀ L U, Q (.bool true) (H ++ L) (T ++ U)) : Snd Try.prog 30 [] H T Q := by
  have hM : MonoH [(34, φ34)] := .cons φ34_mono .nil
  refine call_of fn30 (by simp) (W_mono (X := XG Try.prog [31, 32] [] [(34, φ34)] [] []) (XG.X .nil (.cons ok34 .nil) .nil .nil) (fun _ _ h => h) ?_)
  simp +contextual (maxSteps := 10000000) only [c30, XG_eq, go_sem, W_draw]
  refine new_S fun A p S hE hp hS h => ?_
  simp +contextual (maxSteps := 10000000) only [XG_eq, go_sem, W_draw]
  refine join_snd h (by simp) (by simp) (by simp) fun C U hs => ?_
  have e0 : errR [] [] 0 [97] [98] = 0 := by decide
  rw [e0, if_pos rfl] at hs
  obtain ⟨S', h2, hF, hS'⟩ := hs
  have p1 := h2.ros (a := [97]) (b := [98]) (by simp) (by simp)
  have p2 := h2.ros (a := [98]) (b := [97]) (by simp) (by simp)
  have b1 : reachB ([] ++ [([97], [98])]) [97] [98] = true := by decide
  have b2 : reachB ([] ++ [([97], [98])]) [98] [97] = false := by decide
  rw [b1] at p1; rw [b2] at p2
  obtain ⟨L, rfl⟩ := fr_of_new hE hS hF
  rw [e0]
  simp +contextual (maxSteps := 10000000) only [p1, p2, pcallG hM, lookH_cons, lookH_nil, orK_n, go_sem, W_draw]
  exact k _ _
end GP
namespace GP
open Go Go.Proofs
set_option maxRecDepth 100000
variable [HasG Try.prog]
variable {H B : Hp} {p : Nat} {S : List Nat} {es ms : List Ed}
theorem RosS.rs (h : RosS H p S es ms) : es.Nodup ∧ ms.Nodup ∧ es.length ≤ 60 ∧ ms.length ≤ 100 ∧ ∃ c r, Cnt es c r ∧ ∀ a b, reachB es a b = (nmB a && nmB b && decide (0 < c a b)) := by
  obtain ⟨_, oe, om, w, _, _, _, _, eD, mD, ents, clk, ks, c, r, h⟩ := h
  refine ⟨h.en, h.mn, h.el, h.ml, c, r, h.cnt, fun a b => ?_⟩
  rw [h.reach]; rfl
def Liv (H B : Hp) (T U : Tk) (p : Nat) (S : List Nat) (es ms : List Ed) : Prop := RosS B p S es ms ∧ Ext H B ∧ (∀ o ∈ S, H.length ≤ o) ∧ ExtT T U
theorem Liv.step {T U : Tk} {C : Hp} {U' : Tk} {es' ms' : List Ed} (h : Liv H B T U p S es ms) (hs : Stp B C p S es' ms') : ∃ S', Liv H C T (U ++ U') p S' es' ms' ∧ Fr S B C ∧ ∀ o ∈ S', o ∈ S ∨ B.length ≤ o := by
  obtain ⟨h1, h2, h3, h4⟩ := h
  obtain ⟨S', k1, k2, k3⟩ := hs
  refine ⟨S', ⟨k1, fr_of_new h2 h3 k2, fun o ho => ?_, h4.app U'⟩, k2, k3⟩
  rcases k3 o ho with h' | h'
  · exact h3 o h'
  · exact Nat.le_trans h2.ln h'
theorem tmod_lt {x : Int} {n : Nat} (h0 : 0 ≤ x) (hn : 0 < n) : ∃ i : Nat, x.tmod (n : Int) = (i : Int) ∧ i < n := by
  refine ⟨(x.tmod n).toNat, ?_, ?_⟩
  · have := Int.tmod_nonneg (n : Int) h0; omega
  · have := Int.tmod_lt_of_pos x (b := (n : Int)) (by omega)
    have := Int.tmod_nonneg (n : Int) h0; omega
end GP
namespace GP
open Go Go.Proofs Go.Proofs.Ytjpbliffonimgaa
open Go.ChangeShapes Go.WideShapes Go.ChangeAt Go.RowKit
set_option maxRecDepth 100000
instance instG : HasG Try.prog := ⟨fun _ _ => True, fun _ _ h => h⟩
theorem own6 : ownKnob Try.prog.godebug = none := by kernel_rfl
theorem laid6 : laidOutB Try.prog = true := by kernel_rfl
theorem rowed6 : mapsRowed Try.prog = true := by kernel_rfl
theorem full6 : ((List.range Try.prog.types.size).all fun t => match Try.prog.underlying t with | some (.slice e) => decide (0 < Try.prog.cellsOf e) | _ => true) = true := by kernel_rfl
theorem u8min : IntKind.u8.min = 0 := by decide
theorem u8max : IntKind.u8.max = 255 := by decide
theorem argU8 (W : World) : Arg Try.prog W 5 (fun x => ∃ n, x = .int .u8 n ∧ 0 ≤ n ∧ n ≤ 255) := by
  intro H enc v d ps base h1 h2 h3
  obtain ⟨x, k1, n, e, i1, i2⟩ := arg_one Try.underlying5 rfl (fun f => rds_int Try.underlying5 f) H enc v d ps base h1 h2 h3
  injection e with e
  rw [u8min] at i1; rw [u8max] at i2
  exact ⟨_, k1, n, e, i1, i2⟩
end GP
namespace GP
open Go Go.Proofs
set_option maxRecDepth 100000
variable [HasG Try.prog]
variable {H B : Hp} {p : Nat} {S : List Nat} {es ms : List Ed}
def chn (m : Nat) : List Ed := (List.range m).map fun i => (nameR i, nameR (i + 1))
theorem chn_succ (m : Nat) : chn (m + 1) = chn m ++ [(nameR m, nameR (m + 1))] := by simp [chn, List.range_succ]
theorem chn_len (m : Nat) : (chn m).length = m := by simp [chn]
theorem many_err : ∀ i < 30, errR (chn (min i 23)) [] 0 (nameR i) (nameR (i + 1)) = if 24 ≤ i + 1 then 13 else 0 := by decide +kernel
theorem many_reach : ∀ k < 30, reachB (chn (min k 23)) (nameR 0) (nameR (min k 23)) = true := by decide +kernel
set_option maxHeartbeats 4000000 in
theorem main7 {x : Int} (h0 : 0 ≤ x) (h1 : x ≤ 255) {H : Hp} {T : Tk} {Q : Post} (hQ : ∀ L U, Q (.bool true) (H ++ L) (T ++ U)) : W (Snd Try.prog) c7 (endQ [.inl 2] Q) ⟨argT [.int .u8 x], H, T⟩ := by
  have hM : MonoH [(34, φ34)] := .cons φ34_mono .nil
  have hX := XG_mono (P := Try.prog) [30, 31, 32, 35] [(33, φ33)] [(34, φ34)] [] []
  refine W_mono (X := XG Try.prog [30, 31, 32, 35] [(33, φ33)] [(34, φ34)] [] []) (XG.X (.cons ok33 .nil) (.cons ok34 .nil) .nil .nil) (fun _ _ h => h) ?_
  have hQ' : ∀ {B : Hp} {U : Tk}, Ext H B → ExtT T U → Q (.bool true) B U := fun h k => by
    obtain ⟨L, rfl⟩ := h; obtain ⟨M, rfl⟩ := k; exact hQ L M
  obtain ⟨k, hk, hk30⟩ := tmod_lt h0 (n := 30) (by omega)
  have hk : x.tmod 30 = (k : Int) := hk
  have w1 : IntKind.i64.wrap (k : Int) = k := wrap_inY (by omega) (by omega)
  simp +contextual (maxSteps := 10000000) only [c7, XG_eq, go_sem, W_draw]
  refine awake_snd fun L1 U1 => ?_
  simp +contextual (maxSteps := 10000000) only [XG_eq, go_sem, W_draw]
  have hE0 : Ext H (H ++ L1) := Ext.of _ _
  refine new_S fun A p S hE hp hS hros => ?_
  have hL : Liv H A T (T ++ U1) p S [] [] := ⟨hros, hE0.trans hE, fun o ho => Nat.le_trans hE0.ln (hS o ho), ⟨U1, rfl⟩⟩
  clear hros hE hp hS hE0
  simp +contextual (maxSteps := 10000000) only [hk, w1, go_sem, W_draw]
  refine W_for (fun i s' => s'.t 3 = .ptr p 0 ∧ s'.t 4 = .int .i64 (k : Int) ∧ s'.t 5 = .int .i64 ((i : Int) + 1) ∧ (∃ S, Liv H s'.H T s'.T p S (chn (min i 23)) []) ∧ i ≤ k) k
    ⟨0, ?_⟩ (fun i s h => h.2.2.2.2) ?_ hX
  · exact ⟨by simp [upd], by simp [upd], by simp [upd], ⟨S, hL⟩, by omega⟩
  clear hL
  rintro i ⟨t, B, U⟩ ⟨r3, r4, r5, ⟨S, hL⟩, hi⟩
  simp only at r3 r4 r5 hL
  by_cases ha : i < k
  · have d1 : decide ((i : Int) + 1 ≤ (k : Int)) = true := by simp; omega
    have p1 : φ33 [.int .i64 ((i : Int) + 1 - 1)] = some (.str (nameR i)) := by
      simp only [φ33]; rw [if_pos ⟨by omega, by omega⟩]; simp
    have p2 : φ33 [.int .i64 ((i : Int) + 1)] = some (.str (nameR (i + 1))) := by
      simp only [φ33]; rw [if_pos ⟨by omega, by omega⟩]; simp
    have w2 : IntKind.i64.wrap ((i : Int) + 1 - 1) = (i : Int) + 1 - 1 := wrap_inY (by omega) (by omega)
    have w3 : IntKind.i64.wrap ((i : Int) + 1 + 1) = ((i + 1 : Nat) : Int) + 1 := by rw [wrap_inY (by omega) (by omega)]; simp
    have he := many_err i (by omega)
    have hcl := chn_len (min i 23)
    by_cases h24 : 24 ≤ i + 1
    · have d2 : decide ((24 : Int) ≤ (i : Int) + 1) = true := by simp; omega
      simp +contextual (maxSteps := 10000000) only [r3, r4, r5, d1, d2, w2, p1, p2, XG_eq, pcallG hM, lookH_cons, lookH_nil, orK_n, orK_s, go_sem, W_draw]
      refine join_snd hL.1 (by omega) (by simp [nameR]) (by simp [nameR]) fun C U' hs => ?_
      rw [he, if_pos h24] at hs ⊢
      rw [if_neg (by decide)] at hs
      obtain ⟨S', hL', _, _⟩ := hL.step (U' := U') hs
      have e2 : min i 23 = min (i + 1) 23 := by omega
      rw [e2] at hL'
      simp +contextual (maxSteps := 10000000) only [r3, r4, r5, w3, go_sem, W_draw]
      exact ⟨⟨S', hL'⟩, by omega⟩
    · have d2 : decide ((24 : Int) ≤ (i : Int) + 1) = false := by simp; omega
      simp +contextual (maxSteps := 10000000) only [r3, r4, r5, d1, d2, w2, p1, p2, XG_eq, pcallG hM, lookH_cons, lookH_nil, orK_n, orK_s, go_sem, W_draw]
      refine join_snd hL.1 (by omega) (by simp [nameR]) (by simp [nameR]) fun C U' hs => ?_
      rw [he, if_neg h24] at hs ⊢
      rw [if_pos rfl] at hs
      obtain ⟨S', hL', _, _⟩ := hL.step (U' := U') hs
      have e2 : chn (min i 23) ++ [(nameR i, nameR (i + 1))] = chn (min (i + 1) 23) := by
        have e3 : min i 23 = i := by omega
        have e4 : min (i + 1) 23 = i + 1 := by omega
        rw [e3, e4, chn_succ]
      rw [e2] at hL'
      simp +contextual (maxSteps := 10000000) only [r3, r4, r5, w3, go_sem, W_draw]
      exact ⟨⟨S', hL'⟩, by omega⟩
  · have d1 : decide ((i : Int) + 1 ≤ (k : Int)) = false := by simp; omega
    have hik : i = k := by omega
    subst hik
    have p1 : φ33 [.int .i64 0] = some (.str (nameR 0)) := rfl
    have mn : (if (23 : Int) < (i : Int) then (23 : Int) else (i : Int)) = ((min i 23 : Nat) : Int) := by split <;> omega
    have p2 : φ33 [.int .i64 ((min i 23 : Nat) : Int)] = some (.str (nameR (min i 23))) := by
      simp only [φ33]; rw [if_pos ⟨by omega, by omega⟩]; simp
    have p3 := hL.1.ros (a := nameR 0) (b := nameR (min i 23)) (by simp [nameR]) (by simp [nameR])
    rw [many_reach i hk30] at p3
    simp +contextual (maxSteps := 10000000) only [r3, r4, r5, d1, p1, mn, p2, p3, XG_eq, pcallG hM, lookH_cons, lookH_nil, orK_n, orK_s, go_sem, W_draw]
    refine edges_snd hL.1 fun d L hd => ?_
    have q := edsM_len hd
    rw [chn_len] at q
    obtain ⟨hE, hT⟩ : Ext H B ∧ ExtT T U := ⟨hL.2.1, hL.2.2.2⟩
    simp +contextual (maxSteps := 10000000) only [r3, r4, r5, mn, q, go_sem, W_draw]
    exact hQ' (hE.app _) hT
end GP
