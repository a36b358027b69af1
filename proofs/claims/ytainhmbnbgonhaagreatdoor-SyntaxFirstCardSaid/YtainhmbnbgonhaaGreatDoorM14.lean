import Derived.Test.YtainhmbnbgonhaaGreatDoorM12
import Derived.Test.YtainhmbnbgonhaaGreatDoorM13
set_option linter.unusedSimpArgs false
namespace GP
open Go Go.Proofs Go.Proofs.YtainhmbnbgonhaaGreatDoor
open Go.ChangeShapes Go.WideShapes Go.ChangeAt Go.RowKit
set_option maxRecDepth 100000
theorem cells43 : Tryz.prog.cellsOf 43 = 3 := by kernel_rfl
theorem cells3 : Tryz.prog.cellsOf 3 = 1 := by kernel_rfl
theorem cells2 : Tryz.prog.cellsOf 2 = 1 := by kernel_rfl
theorem cells9 : Tryz.prog.cellsOf 9 = 1 := by kernel_rfl
theorem bytes43 : 1 ≤ Tryz.prog.bytesOf 43 := of_decide_eq_true (by kernel_rfl)
theorem i64min : IntKind.i64.min = -(2 ^ 63) := by decide
theorem i64max : IntKind.i64.max = 2 ^ 63 - 1 := by decide
def isLd (p : D → Prop) (ds : List D) : Prop := ∃ l, ds = [l] ∧ isLs p l
theorem isLd_of {mk : List D → D} {φ : List D → Prop} {p : D → Prop} {sz : Nat} (h : ∀ x, φ x → p (mk x)) {ds : List D} (hd : ds = [.nils] ∨ ∃ xs : List (List D), ds = [.sl none (xs.map mk)] ∧ xs.length ≤ 2 ^ 47 ∧ ∀ x ∈ xs, φ x ∧ x.length = sz) : isLd p ds := by
  rcases hd with rfl | ⟨xs, rfl, h1, h2⟩
  · exact ⟨_, rfl, isLs_nils _⟩
  · refine ⟨_, rfl, false, xs.map mk, rfl, by simpa using h1, fun x hx => ?_⟩
    obtain ⟨y, hy, rfl⟩ := List.mem_map.1 hx
    exact h _ (h2 y hy).1
def isTB (x : D) : Prop := tokB x = true
theorem tokB_mk' {k : Int} {s : List UInt8} {n : Int} (h : s.length ≤ 2 ^ 47) (hk : -(2 ^ 63) ≤ k ∧ k < 2 ^ 63) (hn : -(2 ^ 63) ≤ n ∧ n < 2 ^ 63) : tokB (.agg [.int .i64 k, .str s, .int .i64 n]) = true := by
  simp only [tokB, Bool.and_eq_true, decide_eq_true_eq]
  exact ⟨⟨h, hk⟩, hn⟩
theorem rdT (W : World) : ∀ fuel, Rds Tryz.prog W 43 (fun ds => isTB (D.agg ds)) fuel
  | 0 => fun _ _ _ _ _ h _ => by simp [DataW.trod] at h
  | fuel + 1 => by
    refine (rds_struct (P := Tryz.prog) (w := W) (φs := [fun ds => ∃ n, ds = [.int .i64 n] ∧ IntKind.i64.min ≤ n ∧ n ≤ IntKind.i64.max, fun ds => ∃ l, ds = [.str l] ∧ l.length ≤ 2 ^ 47, fun ds => ∃ n, ds = [.int .i64 n] ∧ IntKind.i64.min ≤ n ∧ n ≤ IntKind.i64.max]) Tryz.underlying43 rfl ?_ ?_ ?_).imp ?_
    · simp only [FldsOf, cells3, cells9, cells2, and_self, and_true, Nat.zero_add, Nat.reduceAdd]
    · simp only [List.map_cons, List.map_nil, cells3, cells9, cells2, cells43]; rfl
    · intro i f φ e1 e2
      match i with
      | 0 => simp at e1 e2; subst e1; subst e2; exact rds_int Tryz.underlying3 fuel
      | 1 => simp at e1 e2; subst e1; subst e2; exact rds_string Tryz.underlying9 fuel
      | 2 => simp at e1 e2; subst e1; subst e2; exact rds_int Tryz.underlying2 fuel
      | i + 3 => simp at e1
    · rintro ds ⟨x1, y1, rfl, ⟨k, rfl, k1, k2⟩, x2, y2, rfl, ⟨s, rfl, hs⟩, x3, y3, rfl, ⟨n, rfl, i1, i2⟩, rfl⟩
      rw [i64min] at i1 k1; rw [i64max] at i2 k2
      exact tokB_mk' hs ⟨k1, by omega⟩ ⟨i1, by omega⟩
theorem argTs (W : World) : Arg Tryz.prog W 26 (isLs isTB) := by
  have h : ∀ fuel, Rds Tryz.prog W 26 (isLd isTB) fuel := fun fuel => by
    cases fuel with
    | zero => exact fun _ _ _ _ _ h _ => by simp [DataW.trod] at h
    | succ fuel => exact (rds_slice (P := Tryz.prog) (w := W) (mk := D.agg) (fun _ => rfl) (sz := 3) (by decide) Tryz.underlying26 cells43 bytes43 (rdT W fuel)).imp fun ds hd => isLd_of (fun x hx => hx) hd
  intro H enc v d ps base h1 h2 h3
  obtain ⟨x, k1, l, e, k2⟩ := arg_one Tryz.underlying26 rfl h H enc v d ps base h1 h2 h3
  injection e with e
  exact ⟨_, k1, e ▸ k2⟩
theorem isTB_all {l : D} (h : isLs isTB l) : ∃ m xs, l = sliceD m xs ∧ xs.all tokB = true ∧ xs.length ≤ 2 ^ 47 := by
  obtain ⟨m, xs, rfl, h1, h2⟩ := h
  exact ⟨m, xs, rfl, List.all_eq_true.2 h2, h1⟩
end GP
set_option linter.unusedSimpArgs false
namespace GP
open Go Go.Proofs
set_option maxRecDepth 100000
structure Step (toks : List D) (st st2 : St) : Prop where
  ok : (st.2 = 0 ∨ st.2 = 2) ∧ st.1 ≤ toks.length → (st2.2 = 0 ∨ st2.2 = 2) ∧ st2.1 ≤ toks.length
  stuck : st.2 ≠ 0 → st2 = st
  adv : st.2 = 0 → st.1 ≤ st2.1
theorem Step.refl (toks : List D) (st : St) : Step toks st st := ⟨fun h => h, fun _ => rfl, fun _ => Nat.le_refl _⟩
theorem Step.trans {toks : List D} {a b c : St} (h : Step toks a b) (k : Step toks b c) : Step toks a c :=
  ⟨fun q => k.ok (h.ok q), fun q => by have := h.stuck q; rw [this] at k; rw [k.stuck q], fun q => by
    have h1 := h.adv q
    by_cases hb : b.2 = 0
    · exact Nat.le_trans h1 (k.adv hb)
    · rw [k.stuck hb]; exact h1⟩
theorem Step.e0 {toks : List D} {a b : St} (h : Step toks a b) (hb : b.2 = 0) : a.2 = 0 := by
  by_cases ha : a.2 = 0
  · exact ha
  · rw [h.stuck ha] at hb; exact hb
theorem step_may {toks : List D} {st : St} {w : List UInt8} (h : isP toks st w = true) : Step toks st (st.1 + 1, st.2) := by
  obtain ⟨h1, h2⟩ := isP_lt h
  exact ⟨fun q => ⟨q.1, by simp only; omega⟩, fun q => absurd h2 q, fun _ => by simp only; omega⟩
theorem step_now {toks : List D} {st : St} (h : tk (nowS toks st) ≠ 0) : Step toks st (st.1 + 1, st.2) := by
  obtain ⟨h1, h2⟩ := nowP_lt (toks := toks) (a := st.1) (e := st.2) h
  exact ⟨fun q => ⟨q.1, by simp only; omega⟩, fun q => absurd h2 q, fun _ => by simp only; omega⟩
theorem step_fail (toks : List D) (n : Nat) (st : St) (hn : st.1 ≤ toks.length → n ≤ toks.length) (ha : st.1 ≤ n) : Step toks st (failP n 2 st) := by
  unfold failP
  split
  · rename_i h
    have h0 : st.2 = 0 := by simpa using h
    exact ⟨fun q => ⟨.inr rfl, hn q.2⟩, fun q => absurd h0 q, fun _ => ha⟩
  · exact .refl _ _
theorem step_fail' (toks : List D) (st : St) : Step toks st (failP st.1 2 st) := step_fail toks _ st (fun h => h) (Nat.le_refl _)
theorem step_must (toks : List D) (w : List UInt8) (st : St) : Step toks st (mustP toks w st) := by
  unfold mustP
  split
  · rename_i h; exact step_may h
  · exact step_fail' toks st
theorem step_kind (toks : List D) {k : Int} (hk : k ≠ 0) (st : St) : Step toks st (kindP toks k st).2 := by
  unfold kindP
  split
  · exact step_fail' toks st
  · rename_i h
    have : tk (nowS toks st) = k := by simpa using h
    exact step_now (by omega)
theorem step_name (toks : List D) (st : St) : Step toks st (nameP toks st).2 := by
  unfold nameP
  split
  · exact step_fail' toks st
  · rename_i h
    simp only [Bool.or_eq_true, not_or, bne_iff_ne, ne_eq, Decidable.not_not] at h
    exact step_now (by omega)
theorem step_one (toks : List D) (ws : List (List UInt8)) (st : St) : Step toks st (oneP toks ws st).2 := by
  unfold oneP
  split
  · rename_i w h; exact step_may (firstP_is h)
  · exact step_fail' toks st
theorem step_attr (toks : List D) (st : St) : Step toks st (attrP toks st).2.2 := by
  unfold attrP
  exact ((step_one toks whoW st).trans (step_must toks [46] _)).trans (step_name toks _)
theorem step_lit (toks : List D) (st : St) : Step toks st (literalP toks st).2.2 := by
  unfold literalP
  split
  · rename_i h; have : tk (nowS toks st) = 2 := by simpa using h
    exact step_now (by omega)
  split
  · rename_i h; have : tk (nowS toks st) = 3 := by simpa using h
    exact step_now (by omega)
  split
  · rename_i h; have : tk (nowS toks st) = 4 := by simpa using h
    exact step_now (by omega)
  split
  · rename_i h
    simp only [Bool.or_eq_true] at h
    rcases h with h | h <;> exact step_may h
  · exact .refl _ _
theorem step_item (toks : List D) (st : St) : Step toks st (itemP toks st).2 := by
  unfold itemP
  split
  · rename_i h; exact (step_may h).trans (step_kind _ (by decide) _)
  split
  · exact step_lit _ _
  · exact (step_lit _ _).trans (step_fail' _ _)
theorem step_bagL (toks : List D) : ∀ (f : Nat) (out : List D) (st : St) (r : List D × St), bagL toks f out st = some r → Step toks st r.2
  | 0, _, _, _, h => by simp [bagL] at h
  | f + 1, out, st, r, h => by
    simp only [bagL] at h
    split at h
    · rename_i g
      exact ((step_may g).trans (step_item _ _)).trans (step_bagL toks f _ _ _ h)
    · injection h with h; subst h; exact .refl _ _
theorem step_bagP {toks : List D} {f fr : Nat} {st : St} {r : D × St} (h : bagP toks f fr st = some r) (hfr : fr ≤ st.1) :
    (((st.2 = 0 ∨ st.2 = 2) ∧ st.1 ≤ toks.length → (r.2.2 = 0 ∨ r.2.2 = 2) ∧ r.2.1 ≤ toks.length) ∧ (st.2 ≠ 0 → r.2 = st) ∧ (st.2 = 0 → fr ≤ r.2.1)) ∧ (r.2.2 = 0 → Step toks st r.2) := by
  unfold bagP at h
  split at h
  · cases h
  · rename_i out st1 hb
    have s1 := ((step_item toks st).trans (step_bagL toks f _ _ _ hb)).trans (step_must toks [93] st1)
    split at h
    · injection h with h; subst h
      exact ⟨⟨s1.ok, s1.stuck, fun q => Nat.le_trans hfr (s1.adv q)⟩, fun _ => s1⟩
    · rename_i hz
      have hz : (mustP toks [93] st1).2 = 0 := by simpa using hz
      injection h with h; subst h
      simp only
      split
      · have hst := s1.e0 hz
        have e1 : failP fr 2 (mustP toks [93] st1) = (fr, 2) := by unfold failP; rw [hz]; rfl
        rw [e1]
        exact ⟨⟨fun q => ⟨.inr rfl, by simp only; omega⟩, fun q => absurd hst q, fun _ => Nat.le_refl _⟩, fun q => absurd q (by simp)⟩
      · exact ⟨⟨s1.ok, s1.stuck, fun q => Nat.le_trans hfr (s1.adv q)⟩, fun _ => s1⟩
def partS (P : Part) : Prop := ∀ toks st r, P toks st = some r → Step toks st r.2
theorem rowL_S {P : Part} (hP : partS P) {toks : List D} {bs : List (List UInt8)} : ∀ (f : Nat) (x : D) (st : St) (r : D × St), rowL toks P bs f x st = some r → Step toks st r.2
  | 0, _, _, _, h => by simp [rowL] at h
  | f + 1, x, st, r, h => by
    simp only [rowL] at h
    split at h
    · injection h with h; subst h; exact .refl _ _
    · split at h
      · injection h with h; subst h; exact .refl _ _
      · rename_i w hw
        split at h
        · cases h
        · rename_i y st2 hy
          exact ((step_may (firstP_is hw)).trans (hP toks _ _ hy)).trans (rowL_S hP f _ st2 r h)
theorem rowP_S {P : Part} (hP : partS P) {toks : List D} {bs : List (List UInt8)} {f : Nat} {st : St} {r : D × St} (h : rowP toks P bs f st = some r) : Step toks st r.2 := by
  unfold rowP at h
  split at h
  · cases h
  · rename_i x st1 hx
    exact (hP toks _ _ hx).trans (rowL_S hP f x st1 r h)
theorem oneS_S {toks : List D} {st : St} {op : List UInt8} {z : Option (D × St)} {r : D × St} (hz : ∀ r, z = some r → Step toks st r.2) (h : oneS op z = some r) : Step toks st r.2 := by
  cases z with
  | none => cases h
  | some z =>
    obtain ⟨x, st1⟩ := z
    simp only [oneS, Option.some.injEq] at h; subst h
    exact hz (x, st1) rfl
theorem lv_S : ∀ (f : Nat) (lv : Lv), partS (pLv f lv)
  | 0, _, _, _, _, h => by cases h
  | f + 1, lv, toks, st, r, h => by
    cases lv with
    | expr => exact rowP_S (lv_S f .and) h
    | and => exact rowP_S (lv_S f .not) h
    | sum => exact rowP_S (lv_S f .prod) h
    | prod => exact rowP_S (lv_S f .unary) h
    | not =>
      simp only [pLv] at h
      split at h
      · rename_i g; exact oneS_S (fun r hr => (step_may g).trans (lv_S f .not toks _ r hr)) h
      · exact lv_S f .cmp toks st r h
    | unary =>
      simp only [pLv] at h
      split at h
      · rename_i g; exact oneS_S (fun r hr => (step_may g).trans (lv_S f .unary toks _ r hr)) h
      · exact lv_S f .plain toks st r h
    | cmp =>
      simp only [pLv] at h
      obtain ⟨z, hz⟩ : ∃ z, pLv f .sum toks st = z := ⟨_, rfl⟩
      rw [hz] at h
      cases z with
      | none => cases h
      | some z =>
        obtain ⟨x, st1⟩ := z
        have hx := lv_S f .sum toks _ _ hz
        simp only [cmpS2] at h
        split at h
        · injection h with h; subst h; exact hx
        · rename_i w hw
          split at h
          · cases h
          · rename_i y st2 hy
            injection h with h; subst h
            have k := lv_S f .sum toks _ (y, st2) hy
            exact (hx.trans (step_may (firstP_is hw))).trans k
    | inner =>
      simp only [pLv] at h
      obtain ⟨z, hz⟩ : ∃ z, pLv f .expr toks (mustP toks [40] st) = z := ⟨_, rfl⟩
      rw [hz] at h
      cases z with
      | none => cases h
      | some z =>
        obtain ⟨x, st1⟩ := z
        simp only [innS, Option.some.injEq] at h; subst h
        exact ((step_must toks [40] st).trans (lv_S f .expr toks _ (x, st1) hz)).trans (step_must toks [41] st1)
    | plain =>
      simp only [pLv, plainP] at h
      split at h
      · injection h with h; subst h; exact step_lit _ _
      split at h
      · rename_i g; injection h with h; subst h; exact step_may g
      split at h
      · exact lv_S f .inner toks st r h
      split at h
      · rename_i g
        have g0 := (isP_lt g).2
        obtain ⟨⟨b1, b2, b3⟩, _⟩ := step_bagP h (show st.1 ≤ st.1 + 1 by omega)
        exact ⟨fun q => b1 ((step_may g).ok q), fun q => absurd g0 q, fun _ => b3 g0⟩
      split at h
      · rename_i g; exact oneS_S (fun r hr => (step_may g).trans (lv_S f .inner toks _ r hr)) h
      split at h
      · rename_i g
        injection h with h; subst h
        exact (((step_may g).trans (step_must toks [40] _)).trans (step_kind toks (by decide) _)).trans (step_must toks [41] _)
      split at h
      · rename_i g
        injection h with h; subst h
        exact (((step_may g).trans (step_must toks [40] _)).trans (step_attr toks _)).trans (step_must toks [41] _)
      · injection h with h; subst h; exact step_attr _ _
theorem parseE_err (toks : List D) (h : toks.length ≤ 600) : (parseE toks).2.2 ≠ 0 → (parseE toks).1 = zeroE ∧ ((parseE toks).2.2 = 2 ∨ (parseE toks).2.2 = 11 ∧ (parseE toks).2.1 = 0) ∧ (parseE toks).2.1 ≤ toks.length := by
  obtain ⟨x, st, hp⟩ := expr_tot toks h
  have hs := (lv_S 10000 .expr toks (0, 0) _ hp).ok ⟨.inl rfl, Nat.zero_le _⟩
  simp only at hs
  have he : (endP toks st).2 = 0 ∨ (endP toks st).2 = 2 := by unfold endP; split <;> simp [hs.1]
  have hl : (endP toks st).1 ≤ toks.length := by unfold endP; split <;> simp [hs.2]
  unfold parseE
  rw [if_neg (by omega), hp]
  simp only
  split
  · rename_i g
    intro _
    have g : (endP toks st).2 ≠ 0 := by simpa using g
    exact ⟨rfl, .inl (he.resolve_left g), hl⟩
  · split
    · intro _; exact ⟨rfl, .inr ⟨rfl, rfl⟩, Nat.zero_le _⟩
    · intro q; exact absurd rfl q
end GP
set_option linter.unusedSimpArgs false
namespace GP
open Go Go.Proofs
set_option maxRecDepth 100000
def sbT (toks : List D) (a b : Nat) : List D := (toks.take b).drop a
def cnt2 (toks : List D) (a b : Nat) : Nat := cntP (sbT toks a b)
theorem cntP_app (l m : List D) : cntP (l ++ m) = cntP l + cntP m := by simp [cntP, List.filter_append]
theorem sbT_add {toks : List D} {a b c : Nat} (h1 : a ≤ b) (h2 : b ≤ c) : sbT toks a c = sbT toks a b ++ sbT toks b c := by
  unfold sbT
  have e : toks.take c = toks.take b ++ (toks.take c).drop b := by
    have := (List.take_append_drop b (toks.take c)).symm
    rwa [List.take_take, Nat.min_eq_left h2] at this
  rcases Nat.lt_or_ge (toks.take b).length a with hl | hl
  · have hb : toks.length < b := by
      rcases Nat.lt_or_ge toks.length b with h | h
      · exact h
      · rw [List.length_take, Nat.min_eq_left h] at hl; omega
    rw [List.drop_eq_nil_of_le (Nat.le_of_lt hl), List.take_of_length_le (by omega : toks.length ≤ c)]
    rw [List.length_take] at hl
    rw [List.drop_eq_nil_of_le (by omega), List.drop_eq_nil_of_le (by omega)]; rfl
  · conv => lhs; rw [e]
    rw [List.drop_append_of_le_length hl]
theorem cnt2_add {toks : List D} {a b c : Nat} (h1 : a ≤ b) (h2 : b ≤ c) : cnt2 toks a c = cnt2 toks a b + cnt2 toks b c := by
  unfold cnt2; rw [sbT_add h1 h2, cntP_app]
theorem cnt2_one {toks : List D} {a : Nat} {t : D} (h : toks[a]? = some t) : cnt2 toks a (a + 1) = if pkB t then 1 else 0 := by
  unfold cnt2 sbT
  have hl := lt_of_get h
  rw [List.take_add_one, h, List.drop_append_of_le_length (by rw [List.length_take]; omega), List.drop_eq_nil_of_le (by rw [List.length_take]; omega)]
  unfold cntP
  simp only [Option.toList_some, List.nil_append, List.filter_cons, List.filter_nil]
  split <;> rfl
theorem now_at {toks : List D} {st : St} (h : tk (nowS toks st) ≠ 0) : st.2 = 0 ∧ toks[st.1]? = some (nowS toks st) ∧ formT (nowS toks st) = true := by
  unfold nowS nowP at h ⊢
  split at h
  · exact absurd rfl h
  · rename_i he
    rw [if_neg he]
    split at h
    · rename_i t ht
      split at h
      · rename_i hf
        rw [if_pos hf]
        exact ⟨by simpa using he, ht, hf⟩
      · exact absurd rfl h
    · exact absurd rfl h
theorem is_at {toks : List D} {st : St} {w : List UInt8} (h : isP toks st w = true) : st.2 = 0 ∧ toks[st.1]? = some (nowS toks st) ∧ ts (nowS toks st) = w ∧ ((tk (nowS toks st) = 1 ∧ wordB w = true) ∨ (tk (nowS toks st) = 5 ∧ isSign w = true)) := by
  unfold isP at h
  simp only [Bool.and_eq_true, Bool.or_eq_true, beq_iff_eq] at h
  obtain ⟨h1, h2⟩ := h
  obtain ⟨a1, a2, a3⟩ := now_at (toks := toks) (st := st) (by omega)
  refine ⟨a1, a2, h2, ?_⟩
  unfold formT formI at a3
  rw [h2] at a3
  rcases h1 with h1 | h1
  · rw [h1] at a3
    simp only [beq_self_eq_true, if_true, Bool.and_eq_true] at a3
    exact .inl ⟨h1, a3.1⟩
  · rw [h1] at a3
    have : isSign w = true := by
      revert a3
      simp only [show ((5 : Int) == 1) = false from rfl, show ((5 : Int) == 2) = false from rfl, show ((5 : Int) == 3) = false from rfl, show ((5 : Int) == 4) = false from rfl, Bool.false_eq_true, if_false, beq_self_eq_true, if_true, Bool.and_eq_true]
      exact fun h => h.1
    exact .inr ⟨h1, this⟩
theorem pk_word {t : D} (h : tk t = 1) : pkB t = ((ts t != wTrue) && (ts t != wFalse)) := by
  unfold pkB; rw [h]; simp
theorem pk_sign {t : D} (h : tk t = 5) : pkB t = ((ts t == [46]) || (ts t == [43]) || (ts t == [42]) || (ts t == [60]) || (ts t == [91])) := by
  unfold pkB; rw [h]; simp
def pkW (w : List UInt8) : Nat := if isSign w then (if ((w == [46]) || (w == [43]) || (w == [42]) || (w == [60]) || (w == [91])) then 1 else 0) else (if (w != wTrue) && (w != wFalse) then 1 else 0)
theorem word_sign {w : List UInt8} (h : wordB w = true) : isSign w = false := by
  cases hs : isSign w with
  | false => rfl
  | true =>
    have : w ∈ signsR := by
      unfold isSign at hs
      obtain ⟨x, hx, he⟩ := List.any_eq_true.1 hs
      have : x = w := by simpa using he
      rw [← this]; exact hx
    have key : ∀ w ∈ signsR, wordB w = false := by decide
    rw [key w this] at h; cases h
theorem cnt_is {toks : List D} {st : St} {w : List UInt8} (h : isP toks st w = true) : cnt2 toks st.1 (st.1 + 1) = pkW w := by
  obtain ⟨_, h2, h3, h4⟩ := is_at h
  rw [cnt2_one h2]
  unfold pkW
  rcases h4 with ⟨h4, h5⟩ | ⟨h4, h5⟩
  · rw [pk_word h4, h3, word_sign h5]; rfl
  · rw [pk_sign h4, h3, h5]; rfl
end GP
set_option linter.unusedSimpArgs false
namespace GP
open Go Go.Proofs
set_option maxRecDepth 100000
theorem same_zero : sameB zeroV zeroV = true := by decide
theorem fmTop_z {e : D} (hV : eV e = zeroV) (hw : ewho e = []) (hn : ename e = []) (g1 : (eop e == sVal) = false) (g3 : (eop e == sAttr) = false) (g4 : (eop e == sHas) = false) : (eop e == sRole) = false → fmTop e = true := by
  intro g5
  unfold fmTop
  rw [if_neg (by rw [g1]; decide), hV, same_zero, if_neg (by decide), g3, g4, if_neg (by decide), if_neg (by rw [g5]; decide), hw, hn]
  rfl
theorem good_two {op : List UInt8} {a b : D} (ho : op.length ≤ 2 ^ 47) (h : isOp2 op) (ha : GoodE a) (hb : GoodE b) : GoodE (twoD op a b) := by
  obtain ⟨g1, g2, g3, g4, g5, g6, g7, g8⟩ := op2_not h
  refine goodE_mk ?_ ?_ ?_ ?_ (fmTop_z rfl rfl rfl g1 g3 g4 g5)
  · exact ⟨_, two_isE ho (isE_le (Nat.le_max_left _ _) ha.t.can) (isE_le (Nat.le_max_right _ _) hb.t.can)⟩
  · show 0 ≤ stI op
    unfold isOp2 at h; omega
  · show (([a, b] : List D).length : Int) = arN op
    rw [op2_ar h]; rfl
  · intro x hx
    have hx : x ∈ [a, b] := hx
    simp only [List.mem_cons, List.not_mem_nil, or_false] at hx
    rcases hx with rfl | rfl
    · exact ha
    · exact hb
theorem tk_twoD {full : Bool} {op : List UInt8} {a b : D} (ho : op.length ≤ 2 ^ 47) (h : isOp2 op) (ha : GoodE a) (hb : GoodE b) : tkC full (twoD op a b) = parW full (stI (eop a)) (lstS op) (tkC full a) ++ (opTok op :: parW full (stI (eop b)) (stI op + 1) (tkC full b)) :=
  tk_two (good_two ho h ha hb) h
theorem good_one {op : List UInt8} {a : D} (h : op = sSize ∨ op = sNot ∨ op = sNeg) (ha : GoodE a) : GoodE (oneD op a) := by
  have hl : op.length ≤ 2 ^ 47 := by rcases h with rfl | rfl | rfl <;> decide
  refine goodE_mk ⟨_, one_isE hl ha.t.can⟩ ?_ ?_ ?_ (fmTop_z rfl rfl rfl ?_ ?_ ?_ ?_)
  · show 0 ≤ stI op
    rcases h with rfl | rfl | rfl <;> decide
  · show (1 : Int) = arN op
    rcases h with rfl | rfl | rfl <;> decide
  · intro x hx
    have hx : x ∈ [a] := hx
    rw [List.mem_singleton] at hx; subst hx; exact ha
  · show (op == sVal) = false
    rcases h with rfl | rfl | rfl <;> decide
  · show (op == sAttr) = false
    rcases h with rfl | rfl | rfl <;> decide
  · show (op == sHas) = false
    rcases h with rfl | rfl | rfl <;> decide
  · show (op == sRole) = false
    rcases h with rfl | rfl | rfl <;> decide
structure Rdd (toks : List D) (s : Int) (x : D) (a b : Nat) : Prop where
  g : GoodE x
  c : cntP (tkC true x) = cnt2 toks a b
  m : (parW false (stI (eop x)) s (tkC false x)).length ≤ b - a
  l : a < b
theorem parW_f (s s' : Int) (l : List D) : parW false s s' l = if s' ≤ s then l else tP :: (l ++ [tQ]) := by
  unfold parW
  simp only [Bool.not_false, Bool.true_or, Bool.and_true, decide_eq_true_eq]
theorem parW_mono {s s1 s2 : Int} (h : s1 ≤ s2) (l : List D) : (parW false s s1 l).length ≤ (parW false s s2 l).length := by
  rw [parW_f, parW_f]
  split <;> split <;> simp <;> omega
theorem parW_own {s s' : Int} (h : s' ≤ s) (l : List D) : parW false s s' l = l := by rw [parW_f, if_pos h]
theorem cnt_par (full : Bool) (s s' : Int) (l : List D) : cntP (parW full s s' l) = cntP l := by
  unfold parW
  split
  · rfl
  · have e : tP :: (l ++ [tQ]) = [tP] ++ l ++ [tQ] := by simp
    rw [e, cntP_app, cntP_app]
    show 0 + cntP l + 0 = cntP l
    omega
theorem cntP_cons (t : D) (l : List D) : cntP (t :: l) = (if pkB t then 1 else 0) + cntP l := by
  unfold cntP
  rw [List.filter_cons]
  split
  · simp; omega
  · simp
theorem Rdd.up {toks : List D} {s s2 : Int} {x : D} {a b : Nat} (h : Rdd toks s2 x a b) (hs : s ≤ s2) : Rdd toks s x a b :=
  ⟨h.g, h.c, Nat.le_trans (parW_mono hs _) h.m, h.l⟩
def ops2 : List (List UInt8) := [wOr, wAnd, [61, 61], [33, 61], [60], [60, 61], [62], [62, 61], [105, 110], [43], [45], [42]]
theorem ops2_is {op : List UInt8} (h : op ∈ ops2) : isOp2 op ∧ op.length ≤ 2 ^ 47 ∧ (if pkB (opTok op) then 1 else 0) = pkW op := by
  have key : ∀ op ∈ ops2, (stI op = 0 ∨ stI op = 1 ∨ stI op = 3 ∨ stI op = 4 ∨ stI op = 5) ∧ op.length ≤ 2 ^ 47 ∧ (if pkB (opTok op) then 1 else 0) = pkW op := by decide
  exact key op h
theorem Rdd.two {toks : List D} {op : List UInt8} (h : op ∈ ops2) {x y : D} {a b c : Nat} {st : St} (hst : st.1 = b) (hp : isP toks st op = true) (hx : Rdd toks (lstS op) x a b) (hy : Rdd toks (stI op + 1) y (b + 1) c) : Rdd toks (stI op) (twoD op x y) a c := by
  obtain ⟨h2, hl, hk⟩ := ops2_is h
  have e1 := fun full => tk_twoD (full := full) hl h2 hx.g hy.g
  have hlx := hx.l
  have hly := hy.l
  refine ⟨good_two hl h2 hx.g hy.g, ?_, ?_, by omega⟩
  · rw [e1, cntP_app, cntP_cons, cnt_par, cnt_par, hx.c, hy.c, hk]
    have := cnt_is hp
    rw [hst] at this
    have q1 := cnt2_add (toks := toks) (a := a) (b := b) (c := c) (by omega) (by omega)
    have q2 := cnt2_add (toks := toks) (a := b) (b := b + 1) (c := c) (by omega) (by omega)
    omega
  · rw [parW_own (show stI op ≤ stI (eop (twoD op x y)) from Int.le_refl _), e1]
    simp only [List.length_append, List.length_cons]
    have m1 := hx.m
    have m2 := hy.m
    omega
theorem Rdd.not {toks : List D} {x : D} {st : St} {b : Nat} (hp : isP toks st wNot = true) (hx : Rdd toks 2 x (st.1 + 1) b) : Rdd toks 2 (oneD wNot x) st.1 b := by
  have hg := good_one (op := sNot) (.inr (.inl rfl)) hx.g
  have e1 := fun full => tk_not (full := full) hg rfl
  have hl := hx.l
  refine ⟨hg, ?_, ?_, by omega⟩
  · show cntP (tkC true (oneD sNot x)) = _
    rw [e1, cntP_cons, cnt_par, show sub0 (oneD sNot x) = x from rfl, hx.c]
    have q1 := cnt2_add (toks := toks) (a := st.1) (b := st.1 + 1) (c := b) (by omega) (by omega)
    rw [q1, cnt_is hp]
    rfl
  · show (parW false (stI sNot) 2 (tkC false (oneD sNot x))).length ≤ _
    rw [parW_own (by decide), e1, show sub0 (oneD sNot x) = x from rfl]
    have m1 := hx.m
    simp only [List.length_cons]; omega
theorem Rdd.neg {toks : List D} {x : D} {st : St} {b : Nat} (hp : isP toks st [45] = true) (hx : Rdd toks 6 x (st.1 + 1) b) : Rdd toks 6 (oneD wNeg x) st.1 b := by
  have hg := good_one (op := sNeg) (.inr (.inr rfl)) hx.g
  have e1 := fun full => tk_neg (full := full) hg rfl
  have hl := hx.l
  refine ⟨hg, ?_, ?_, by omega⟩
  · show cntP (tkC true (oneD sNeg x)) = _
    rw [e1, cntP_cons, cnt_par, show sub0 (oneD sNeg x) = x from rfl, hx.c]
    have q1 := cnt2_add (toks := toks) (a := st.1) (b := st.1 + 1) (c := b) (by omega) (by omega)
    rw [q1, cnt_is hp]
    rfl
  · show (parW false (stI sNeg) 6 (tkC false (oneD sNeg x))).length ≤ _
    rw [parW_own (by decide), e1, show sub0 (oneD sNeg x) = x from rfl]
    have m1 := hx.m
    simp only [List.length_cons]; omega
end GP
set_option linter.unusedSimpArgs false
namespace GP
open Go Go.Proofs
set_option maxRecDepth 100000
structure Itm (v : D) : Prop where
  b : litB v true = true
  o : one1 v = true
  l : leaf1 v = true
  r : isVr v
  c : cntP (litT1 v) = 0
end GP
set_option linter.unusedSimpArgs false
namespace GP
open Go Go.Proofs
set_option maxRecDepth 100000
def rgE : Nat → D → Prop
  | 0, _ => False
  | n + 1, e => (∀ x ∈ vl (eV e), -(2 ^ 63) ≤ vi x ∧ vi x < 2 ^ 63) ∧ ∀ x ∈ eps e, rgE n x
def rgC (e : D) : Prop := ∃ n, rgE n e
theorem rgC.v {e : D} (h : rgC e) : ∀ x ∈ vl (eV e), -(2 ^ 63) ≤ vi x ∧ vi x < 2 ^ 63 := by
  obtain ⟨n, hn⟩ := h
  cases n with
  | zero => exact hn.elim
  | succ n => exact hn.1
theorem rgC.p {e : D} (h : rgC e) : ∀ x ∈ eps e, rgC x := by
  obtain ⟨n, hn⟩ := h
  cases n with
  | zero => exact hn.elim
  | succ n => exact fun x hx => ⟨n, hn.2 x hx⟩
end GP
set_option linter.unusedSimpArgs false
namespace GP
open Go Go.Proofs
set_option maxRecDepth 100000
theorem awake18 : φtrueE [] = some (.bool true) := rfl
end GP
set_option linter.unusedSimpArgs false
namespace GP
open Go Go.Proofs
set_option maxRecDepth 100000
def Fin' (K : Nat) (st : St) : Prop := st.2 = 0 ∧ st.1 ≤ K ∨ st = (K, 2)
theorem fin_back {toks : List D} {K : Nat} {a b : St} (h : Step toks a b) (hb : Fin' K b) : Fin' K a := by
  by_cases ha : a.2 = 0
  · refine .inl ⟨ha, Nat.le_trans (h.adv ha) ?_⟩
    rcases hb with hb | hb
    · exact hb.2
    · rw [hb]; exact Nat.le_refl _
  · rw [← h.stuck ha]; exact hb
theorem fin_lt {K : Nat} {st : St} (h : Fin' K (st.1 + 1, st.2)) : st.1 < K := by
  rcases h with h | h
  · exact h.2
  · have := congrArg Prod.fst h; simp only at this; omega
theorem cut_same {toks : List D} {K : Nat} {st : St} (h : st.1 < K) : nowS (toks.take K) st = nowS toks st := by
  unfold nowS nowP
  rw [List.getElem?_take, if_pos h]
theorem cut_or (toks : List D) (K : Nat) (st : St) : nowS (toks.take K) st = nowS toks st ∨ nowS (toks.take K) st = zT := by
  rcases Nat.lt_or_ge st.1 K with h | h
  · exact .inl (cut_same h)
  · refine .inr ?_
    unfold nowS nowP
    simp only [List.getElem?_take, if_neg (Nat.not_lt.2 h)]
    split <;> rfl
theorem zT_k : tk zT = 0 := rfl
theorem is_cut {toks : List D} {K : Nat} {st : St} {w : List UInt8} (h : isP toks st w = false) : isP (toks.take K) st w = false := by
  unfold isP at h ⊢
  rcases cut_or toks K st with e | e
  · rw [e]; exact h
  · rw [e, zT_k]; rfl
theorem is_same {toks : List D} {K : Nat} {st : St} (w : List UInt8) (h : st.1 < K) : isP (toks.take K) st w = isP toks st w := by
  unfold isP; rw [cut_same h]
theorem tk_cut {toks : List D} {K : Nat} {st : St} {k : Int} (hk : (0 == k) = false) (h : (tk (nowS toks st) == k) = false) : (tk (nowS (toks.take K) st) == k) = false := by
  rcases cut_or toks K st with e | e
  · rw [e]; exact h
  · rw [e, zT_k]; exact hk
theorem first_cut {toks : List D} {K : Nat} {st : St} : ∀ {ws : List (List UInt8)}, firstP toks st ws = none → firstP (toks.take K) st ws = none
  | [], _ => rfl
  | w :: r, h => by
    simp only [firstP] at h ⊢
    split at h
    · cases h
    · rename_i g
      rw [is_cut (by simpa using g)]
      exact first_cut h
theorem first_same {toks : List D} {K : Nat} {st : St} (h : st.1 < K) : ∀ (ws : List (List UInt8)), firstP (toks.take K) st ws = firstP toks st ws
  | [] => rfl
  | w :: r => by simp only [firstP]; rw [is_same w h, first_same h r]
theorem must_cut {toks : List D} {K : Nat} {w : List UInt8} {st : St} (h : Fin' K (mustP toks w st)) : mustP (toks.take K) w st = mustP toks w st := by
  unfold mustP at h ⊢
  cases g : isP toks st w with
  | true => rw [g] at h; rw [is_same w (fin_lt h), g]
  | false => rw [is_cut g]
theorem kind_cut {toks : List D} {K : Nat} {k : Int} (hk : (0 == k) = false) {st : St} (h : Fin' K (kindP toks k st).2) : kindP (toks.take K) k st = kindP toks k st := by
  unfold kindP bne at h ⊢
  cases g : tk (nowS toks st) == k with
  | true => rw [g] at h; rw [cut_same (fin_lt h), g]
  | false => rw [tk_cut hk g]; rfl
theorem name_cut {toks : List D} {K : Nat} {st : St} (h : Fin' K (nameP toks st).2) : nameP (toks.take K) st = nameP toks st := by
  unfold nameP at h ⊢
  cases g : (tk (nowS toks st) != 1) || keptB (ts (nowS toks st)) with
  | false => rw [g] at h; rw [cut_same (fin_lt h), g]
  | true =>
    rcases cut_or toks K st with e | e
    · rw [e, g]
    · rw [e]; rfl
theorem one_cut {toks : List D} {K : Nat} {ws : List (List UInt8)} {st : St} (h : Fin' K (oneP toks ws st).2) : oneP (toks.take K) ws st = oneP toks ws st := by
  unfold oneP at h ⊢
  cases g : firstP toks st ws with
  | some w => rw [g] at h; rw [first_same (fin_lt h), g]
  | none => rw [first_cut g]
theorem attr_cut {toks : List D} {K : Nat} {st : St} (h : Fin' K (attrP toks st).2.2) : attrP (toks.take K) st = attrP toks st := by
  have s2 := step_name toks (mustP toks [46] (oneP toks whoW st).2)
  have s1 := step_must toks [46] (oneP toks whoW st).2
  have h1 := fin_back s2 h
  have h0 := fin_back s1 h1
  unfold attrP
  rw [one_cut h0, must_cut h1, name_cut h]
theorem lit_cut {toks : List D} {K : Nat} {st : St} (h : Fin' K (literalP toks st).2.2) : literalP (toks.take K) st = literalP toks st := by
  unfold literalP at h ⊢
  cases g1 : tk (nowS toks st) == 2 with
  | true => rw [g1] at h; rw [cut_same (fin_lt h), g1]; rfl
  | false =>
    rw [tk_cut rfl g1]; rw [g1] at h
    cases g2 : tk (nowS toks st) == 3 with
    | true => rw [g2] at h; rw [cut_same (fin_lt h), g2]; rfl
    | false =>
      rw [tk_cut rfl g2]; rw [g2] at h
      cases g3 : tk (nowS toks st) == 4 with
      | true => rw [g3] at h; rw [cut_same (fin_lt h), g3]; rfl
      | false =>
        rw [tk_cut rfl g3]; rw [g3] at h
        cases g4 : isP toks st wTrue || isP toks st wFalse with
        | true => rw [g4] at h; have hl := fin_lt h; rw [is_same _ hl, is_same _ hl, cut_same hl, g4]
        | false =>
          simp only [Bool.or_eq_false_iff] at g4
          rw [is_cut g4.1, is_cut g4.2]
          simp
theorem item_cut {toks : List D} {K : Nat} {st : St} (h : Fin' K (itemP toks st).2) : itemP (toks.take K) st = itemP toks st := by
  unfold itemP at h ⊢
  cases g : isP toks st [45] with
  | true =>
    rw [g] at h
    have hl := fin_lt (fin_back (step_kind toks (k := 2) (by decide) (st.1 + 1, st.2)) h)
    rw [is_same _ hl, g, kind_cut rfl h]; rfl
  | false =>
    rw [is_cut g]; rw [g] at h
    simp only [Bool.false_eq_true, if_false] at h ⊢
    have hL : Fin' K (literalP toks st).2.2 := by
      split at h
      · exact h
      · exact fin_back (step_fail' toks _) h
    rw [lit_cut hL]
theorem bagL_cut {toks : List D} {K : Nat} : ∀ (f : Nat) (out : List D) (st : St) (r : List D × St), bagL toks f out st = some r → Fin' K r.2 → bagL (toks.take K) f out st = some r
  | 0, _, _, _, h, _ => by simp [bagL] at h
  | f + 1, out, st, r, h, hr => by
    simp only [bagL] at h ⊢
    cases g : isP toks st [44] with
    | true =>
      rw [g] at h
      simp only [if_true] at h
      have s1 := step_bagL toks f _ _ _ h
      have f1 := fin_back s1 hr
      have f0 := fin_lt (fin_back (step_item toks (st.1 + 1, st.2)) f1)
      rw [is_same _ f0, g, item_cut f1]
      simp only [if_true]
      exact bagL_cut f _ _ r h hr
    | false => rw [is_cut g]; rw [g] at h; exact h
theorem bagP_cut {toks : List D} {K : Nat} (hK : isP toks (K, 0) [91] = false) {f : Nat} {st : St} {r : D × St} (g : isP toks st [91] = true) (h : bagP toks f st.1 (st.1 + 1, st.2) = some r) (hr : Fin' K r.2) : st.1 < K ∧ bagP (toks.take K) f st.1 (st.1 + 1, st.2) = some r := by
  have g0 := (isP_lt g).2
  unfold bagP at h ⊢
  split at h
  · cases h
  · rename_i out st1 hb
    have key : Fin' K (mustP toks [93] st1) := by
      split at h
      · injection h with h; subst h; exact hr
      · injection h with h; subst h
        simp only at hr
        rename_i hz
        have hz : (mustP toks [93] st1).2 = 0 := by simpa using hz
        split at hr
        · exfalso
          have e1 : failP st.1 2 (mustP toks [93] st1) = (st.1, 2) := by unfold failP; rw [hz]; rfl
          rw [e1] at hr
          rcases hr with hr | hr
          · exact absurd (show (2 : Int) = 0 from hr.1) (by decide)
          · have e : st.1 = K := congrArg Prod.fst hr
            have : st = (K, 0) := by rw [← e, ← g0]
            rw [this, hK] at g; cases g
        · exact hr
    have f1 := fin_back (step_must toks [93] st1) key
    have f2 := fin_back (step_bagL toks f _ _ _ hb) f1
    have f3 := fin_lt (fin_back (step_item toks (st.1 + 1, st.2)) f2)
    refine ⟨f3, ?_⟩
    rw [item_cut f2, bagL_cut f _ _ _ hb f1]
    simp only
    rw [must_cut key]
    exact h
def partC (K : Nat) (toks : List D) (P : Part) : Prop := ∀ st r, P toks st = some r → Fin' K r.2 → P (toks.take K) st = some r
theorem rowL_cut {K : Nat} {toks : List D} {P : Part} (hP : partC K toks P) (hS : partS P) {bs : List (List UInt8)} : ∀ (f : Nat) (x : D) (st : St) (r : D × St), rowL toks P bs f x st = some r → Fin' K r.2 → rowL (toks.take K) P bs f x st = some r
  | 0, _, _, _, h, _ => by simp [rowL] at h
  | f + 1, x, st, r, h, hr => by
    simp only [rowL] at h ⊢
    split at h
    · rename_i g; rw [if_pos g]; exact h
    · rename_i g; rw [if_neg g]
      split at h
      · rename_i gn; rw [first_cut gn]; exact h
      · rename_i w hw
        split at h
        · cases h
        · rename_i y st2 hy
          have f1 := fin_back (rowL_S hS f _ st2 r h) hr
          have f0 := fin_lt (fin_back (hS toks _ _ hy) f1)
          rw [first_same f0, hw]
          simp only
          rw [hP _ _ hy f1]
          exact rowL_cut hP hS f _ st2 r h hr
theorem rowP_cut {K : Nat} {toks : List D} {P : Part} (hP : partC K toks P) (hS : partS P) {bs : List (List UInt8)} {f : Nat} {st : St} {r : D × St} (h : rowP toks P bs f st = some r) (hr : Fin' K r.2) : rowP (toks.take K) P bs f st = some r := by
  unfold rowP at h ⊢
  split at h
  · cases h
  · rename_i x st1 hx
    rw [hP _ _ hx (fin_back (rowL_S hS f x st1 r h) hr)]
    exact rowL_cut hP hS f x st1 r h hr
theorem oneS_cut {K : Nat} {op : List UInt8} {z z' : Option (D × St)} {r : D × St} (hz : ∀ r, z = some r → Fin' K r.2 → z' = some r) (h : oneS op z = some r) (hr : Fin' K r.2) : oneS op z' = some r := by
  cases z with
  | none => cases h
  | some z =>
    obtain ⟨x, st1⟩ := z
    have : Fin' K st1 := by simp only [oneS, Option.some.injEq] at h; subst h; exact hr
    rw [hz _ rfl this]; exact h
theorem oneS_pos {K : Nat} {toks : List D} {st : St} {op : List UInt8} {z : Option (D × St)} {r : D × St} (hz : ∀ r, z = some r → Step toks st r.2) (h : oneS op z = some r) (hr : Fin' K r.2) : Fin' K st := fin_back (oneS_S hz h) hr
theorem lv_cut {K : Nat} {toks : List D} (hK : isP toks (K, 0) [91] = false) : ∀ (f : Nat) (lv : Lv), partC K toks (pLv f lv)
  | 0, _, _, _, h, _ => by cases h
  | f + 1, lv, st, r, h, hr => by
    cases lv with
    | expr => exact rowP_cut (lv_cut hK f .and) (lv_S f .and) h hr
    | and => exact rowP_cut (lv_cut hK f .not) (lv_S f .not) h hr
    | sum => exact rowP_cut (lv_cut hK f .prod) (lv_S f .prod) h hr
    | prod => exact rowP_cut (lv_cut hK f .unary) (lv_S f .unary) h hr
    | not =>
      simp only [pLv] at h ⊢
      cases g : isP toks st wNot with
      | true =>
        rw [g] at h; simp only [if_true] at h
        have f0 := fin_lt (oneS_pos (fun r hr => lv_S f .not toks _ r hr) h hr)
        rw [is_same _ f0, g]
        exact oneS_cut (fun r hz hr => lv_cut hK f .not _ r hz hr) h hr
      | false =>
        rw [g] at h; rw [is_cut g]
        exact lv_cut hK f .cmp st r h hr
    | unary =>
      simp only [pLv] at h ⊢
      cases g : isP toks st [45] with
      | true =>
        rw [g] at h; simp only [if_true] at h
        have f0 := fin_lt (oneS_pos (fun r hr => lv_S f .unary toks _ r hr) h hr)
        rw [is_same _ f0, g]
        exact oneS_cut (fun r hz hr => lv_cut hK f .unary _ r hz hr) h hr
      | false =>
        rw [g] at h; rw [is_cut g]
        exact lv_cut hK f .plain st r h hr
    | cmp =>
      simp only [pLv] at h ⊢
      obtain ⟨z, hz⟩ : ∃ z, pLv f .sum toks st = z := ⟨_, rfl⟩
      rw [hz] at h
      cases z with
      | none => cases h
      | some z =>
        obtain ⟨x, st1⟩ := z
        simp only [cmpS2] at h
        split at h
        · rename_i g
          injection h with h; subst h
          rw [lv_cut hK f .sum st _ hz hr]
          simp only [cmpS2]; rw [first_cut g]
        · rename_i w hw
          split at h
          · cases h
          · rename_i y st2 hy
            injection h with h; subst h
            have f1 : Fin' K (st1.1 + 1, st1.2) := fin_back (lv_S f .sum toks _ (y, st2) hy) hr
            have f0 := fin_back (step_may (firstP_is hw)) f1
            rw [lv_cut hK f .sum st _ hz f0]
            simp only [cmpS2]
            rw [first_same (fin_lt f1), hw]
            simp only
            rw [lv_cut hK f .sum _ _ hy hr]
    | inner =>
      simp only [pLv] at h ⊢
      obtain ⟨z, hz⟩ : ∃ z, pLv f .expr toks (mustP toks [40] st) = z := ⟨_, rfl⟩
      rw [hz] at h
      cases z with
      | none => cases h
      | some z =>
        obtain ⟨x, st1⟩ := z
        simp only [innS, Option.some.injEq] at h; subst h
        have f1 := fin_back (step_must toks [41] st1) hr
        have f0 := fin_back (lv_S f .expr toks _ (x, st1) hz) f1
        rw [must_cut f0, lv_cut hK f .expr _ _ hz f1]
        simp only [innS]
        rw [must_cut hr]
    | plain =>
      have hS := lv_S (f + 1) .plain toks st r h
      have f0 := fin_back hS hr
      simp only [pLv, plainP] at h ⊢
      cases g : (literalP toks st).2.1 with
      | true =>
        rw [g] at h; simp only [if_true, Option.some.injEq] at h; subst h
        rw [lit_cut hr, g]; rfl
      | false =>
        rw [g] at h; simp only [Bool.false_eq_true, if_false] at h
        have hL : Fin' K (literalP toks st).2.2 := by
          have : (literalP toks st).2.2 = st := by
            revert g; unfold literalP
            (repeat' split) <;> simp
          rw [this]; exact f0
        rw [lit_cut hL, g]
        simp only [Bool.false_eq_true, if_false]
        cases g : isP toks st wNow with
        | true =>
          rw [g] at h; simp only [if_true, Option.some.injEq] at h; subst h
          rw [is_same _ (fin_lt hr), g]; rfl
        | false =>
        rw [g] at h; rw [is_cut g]; simp only [Bool.false_eq_true, if_false] at h ⊢
        cases g : isP toks st [40] with
        | true =>
          rw [g] at h; simp only [if_true] at h
          have : st.1 < K := by
            cases f with
            | zero => cases h
            | succ f =>
              simp only [pLv] at h
              obtain ⟨z, hz⟩ : ∃ z, pLv f .expr toks (mustP toks [40] st) = z := ⟨_, rfl⟩
              rw [hz] at h
              cases z with
              | none => cases h
              | some z =>
                obtain ⟨x, st1⟩ := z
                simp only [innS, Option.some.injEq] at h; subst h
                have f1 := fin_back (step_must toks [41] st1) hr
                have f0 := fin_back (lv_S f .expr toks _ (x, st1) hz) f1
                unfold mustP at f0
                rw [g] at f0
                exact fin_lt f0
          rw [is_same _ this, g]
          exact lv_cut hK f .inner st r h hr
        | false =>
        rw [g] at h; rw [is_cut g]; simp only [Bool.false_eq_true, if_false] at h ⊢
        cases g : isP toks st [91] with
        | true =>
          rw [g] at h; simp only [if_true] at h
          obtain ⟨h1, h2⟩ := bagP_cut hK g h hr
          rw [is_same _ h1, g]
          exact h2
        | false =>
        rw [g] at h; rw [is_cut g]; simp only [Bool.false_eq_true, if_false] at h ⊢
        cases g : isP toks st wSize with
        | true =>
          rw [g] at h; simp only [if_true] at h
          have f0 := fin_lt (oneS_pos (fun r hr => lv_S f .inner toks _ r hr) h hr)
          rw [is_same _ f0, g]
          exact oneS_cut (fun r hz hr => lv_cut hK f .inner _ r hz hr) h hr
        | false =>
        rw [g] at h; rw [is_cut g]; simp only [Bool.false_eq_true, if_false] at h ⊢
        cases g : isP toks st wRole with
        | true =>
          rw [g] at h; simp only [if_true, Option.some.injEq] at h; subst h
          simp only at hr
          have a3 := fin_back (step_must toks [41] _) hr
          have a2 := fin_back (step_kind toks (k := 3) (by decide) _) a3
          have a1 := fin_lt (fin_back (step_must toks [40] _) a2)
          rw [is_same _ a1, g, must_cut a2, kind_cut rfl a3, must_cut hr]
          rfl
        | false =>
        rw [g] at h; rw [is_cut g]; simp only [Bool.false_eq_true, if_false] at h ⊢
        cases g : isP toks st wHas with
        | true =>
          rw [g] at h; simp only [if_true, Option.some.injEq] at h; subst h
          simp only at hr
          have a3 := fin_back (step_must toks [41] _) hr
          have a2 := fin_back (step_attr toks _) a3
          have a1 := fin_lt (fin_back (step_must toks [40] _) a2)
          rw [is_same _ a1, g, must_cut a2, attr_cut a3, must_cut hr]
          rfl
        | false =>
        rw [g] at h; rw [is_cut g]; simp only [Bool.false_eq_true, if_false, Option.some.injEq] at h ⊢
        subst h
        rw [attr_cut hr]
theorem first_law {toks : List D} (h : toks.length ≤ 600) (h2 : (parseE toks).2.2 = 2) (hb : isP toks ((parseE toks).2.1, 0) [91] = false) :
    (parseE (toks.take (parseE toks).2.1)).2.2 = 2 ∧ (parseE (toks.take (parseE toks).2.1)).2.1 = (parseE toks).2.1 ∨ (parseE (toks.take (parseE toks).2.1)).2.2 = 11 ∨ (parseE (toks.take (parseE toks).2.1)).2.2 = 0 := by
  obtain ⟨x, st, hp⟩ := expr_tot toks h
  have hs := (lv_S 10000 .expr toks (0, 0) _ hp).ok ⟨.inl rfl, Nat.zero_le _⟩
  simp only at hs
  obtain ⟨K, hKe⟩ : ∃ K, (parseE toks).2.1 = K := ⟨_, rfl⟩
  rw [hKe] at hb ⊢
  have hE : endP toks st = (K, 2) := by
    unfold parseE at h2 hKe
    rw [if_neg (by omega), hp] at h2 hKe
    simp only at h2 hKe
    split at h2
    · rename_i g
      rw [if_pos g] at hKe
      exact Prod.ext hKe h2
    · split at h2 <;> cases h2
  have hF : Fin' K st := by
    unfold endP at hE
    split at hE
    · rename_i g
      simp only [Bool.and_eq_true, beq_iff_eq] at g
      exact .inl ⟨g.1, by have := congrArg Prod.fst hE; simp only at this; omega⟩
    · exact .inr hE
  have hq := lv_cut hb 10000 .expr (0, 0) _ hp hF
  have hq' : pLv 10000 .expr (List.take K toks) (0, 0) = some (x, st) := hq
  unfold parseE
  rw [if_neg (by rw [List.length_take]; omega), hq']
  simp only
  split
  · rename_i g
    refine .inl ?_
    have g : (endP (toks.take K) st).2 ≠ 0 := by simpa using g
    rcases hF with hF | hF
    · exfalso
      apply g
      unfold endP
      rw [if_neg]
      · exact hF.1
      · simp only [Bool.and_eq_true, beq_iff_eq, decide_eq_true_eq, not_and, Nat.not_lt]
        intro _
        rw [List.length_take]
        have e : st.1 = K ∨ st.1 < K := by omega
        rcases e with e | e
        · omega
        · exfalso
          unfold endP at hE
          split at hE
          · have := congrArg Prod.fst hE; simp only at this; omega
          · rw [hE] at hF; exact absurd (show (2 : Int) = 0 from hF.1) (by decide)
    · rw [hF]; exact ⟨rfl, rfl⟩
  · split
    · exact .inr (.inl rfl)
    · exact .inr (.inr rfl)
end GP
set_option linter.unusedSimpArgs false
namespace GP
open Go Go.Proofs
set_option maxRecDepth 100000
theorem slc_sliceD {sz : Nat} {m : Bool} {xs : List D} {K : Nat} (hK : K ≤ xs.length) (hc : xs.all (fun d => d.cells.length == sz) = true) :
    slc sz (some 0) (some ((K : Nat) : Int)) (sliceD m xs) = some (sliceD (m && xs.isEmpty) (xs.take K)) := by
  unfold sliceD
  cases hx : (m && xs.isEmpty) with
  | true =>
    simp only [Bool.and_eq_true, List.isEmpty_iff] at hx
    obtain ⟨rfl, rfl⟩ := hx
    simp only [List.length_nil, Nat.le_zero_eq] at hK
    subst hK
    rfl
  | false =>
    simp only [Bool.false_eq_true, if_false, Bool.false_and]
    rw [slc_sl, if_pos ⟨by omega, by omega, by omega, hc⟩]
    simp [subList]
theorem tok_cells {xs : List D} (ht : xs.all tokB = true) : xs.all (fun d => d.cells.length == 3) = true := by
  rw [List.all_eq_true] at ht ⊢
  intro x hx
  obtain ⟨k, s, n, e, _⟩ := tokB_elim (ht x hx)
  rw [e]; rfl
theorem take_tok {xs : List D} (ht : xs.all tokB = true) (K : Nat) : (xs.take K).all tokB = true := by
  rw [List.all_eq_true] at ht ⊢
  exact fun x hx => ht x (List.mem_of_mem_take hx)
theorem φparse_of {m : Bool} {xs : List D} (ht : xs.all tokB = true) (hl : xs.length ≤ 2 ^ 40) : φparse [sliceD m xs] = some (.tup [(parseE xs).1, .int .i64 ((parseE xs).2.1 : Nat), .int .i64 (parseE xs).2.2]) := by
  have hsl : (isSl (sliceD m xs) && (elems (sliceD m xs)).all tokB && decide ((elems (sliceD m xs)).length ≤ 2 ^ 40)) = true := by
    simp only [isSl_sliceD, elems_sliceD, ht, Bool.true_and, decide_eq_true_eq]; exact hl
  simp only [φparse]; rw [if_pos hsl, elems_sliceD]
theorem parse_ex8 {xs : List D} (ht : xs.all tokB = true) : ex8 (parseE xs).1 := by
  have hz : ex8 zeroE := ⟨⟨_, _, _, _, _, _, _, _, rfl⟩, rfl, rfl⟩
  unfold parseE
  split
  · exact hz
  · split
    · exact hz
    · rename_i x st hp
      have hx8 := lv_ex8 10000 .expr xs (0, 0) _ ht hp
      split
      · exact hz
      · split
        · exact hz
        · exact hx8
set_option maxHeartbeats 8000000 in
theorem main5 {m : Bool} {xs : List D} (ht : xs.all tokB = true) (hlen0 : xs.length ≤ 2 ^ 47) (H : Hp) (T : Tk) : W (Snd Tryz.prog) c5 (endQ [.inl 2] (fun r _ _ => r = .bool true)) ⟨argT [sliceD m xs], H, T⟩ := by
  refine W_mono (X := XL [(18, φtrueE), (19, φparse)]) (Ok.X (.cons ok18 (.cons ok19 .nil))) (fun _ _ h => h) ?_
  have p0 := awake18
  rcases tf (decide ((80 : Int) < xs.length)) with g | g
  · simp (config := { contextual := true, maxSteps := 10000000 }) only [c5, p0, g, go_sem, Nat.reduceAdd, Nat.reduceSub, Nat.reduceMul, Nat.reduceEqDiff, Nat.reduceLeDiff, Nat.reduceLT, Int.reduceToNat, Int.reduceLE, Int.reduceLT, Int.reduceEq, Int.reduceNe, Int.reduceBEq, Int.reduceBNe, Nat.reduceBEq, Nat.reduceBNe, ↓reduceIte, reduceCtorEq, ↓reduceDIte, W_draw]
  · have hl : xs.length ≤ 80 := by simp only [decide_eq_false_iff_not] at g; omega
    have pp := φparse_of (m := m) ht (by omega)
    have hte := toksB_erase ht
    obtain ⟨⟨a0, a1, a2, a3, a4, a5, a6, a7, ea⟩, ex, ex2⟩ := parse_ex8 ht
    rw [ea] at ex ex2 pp
    by_cases h2 : (parseE xs).2.2 = 2
    · obtain ⟨_, _, hle⟩ := parseE_err xs (by omega) (by rw [h2]; decide)
      have law := first_law (by omega : xs.length ≤ 600) h2
      rw [h2] at pp
      obtain ⟨K, hK⟩ : ∃ K, (parseE xs).2.1 = K := ⟨_, rfl⟩
      rw [hK] at pp hle law
      have s1 := slc_sliceD (sz := 3) (m := m) hle (tok_cells ht)
      have ht2 := take_tok ht K
      have pq := φparse_of (m := m && xs.isEmpty) ht2 (by rw [List.length_take]; omega)
      have hte2 := toksB_erase ht2
      obtain ⟨⟨b0, b1, b2, b3, b4, b5, b6, b7, eb⟩, _, _⟩ := parse_ex8 ht2
      rw [eb] at pq
      obtain ⟨P, hP⟩ : ∃ P, parseE (xs.take K) = P := ⟨_, rfl⟩
      rw [hP] at pq law
      obtain ⟨px, pa, pf⟩ := P
      simp only at pq law
      obtain ⟨Y, hY⟩ : ∃ Y, xs.take K = Y := ⟨_, rfl⟩
      rw [hY] at s1 hte2 pq
      have d0 : decide ((((K : Nat) : Int)) < 0) = false := by simp only [decide_eq_false_iff_not]; omega
      have d1 : decide ((xs.length : Int) < ((K : Nat) : Int)) = false := by simp only [decide_eq_false_iff_not]; omega
      have z2 : ((2 : Int) != 2) = false := rfl
      have fin : isP xs (K, 0) [91] = false → ((pf == 2) && ((pa : Int) == (K : Nat)) || (pf == 11) || (pf == 0)) = true := fun hb => by
        rcases law hb with ⟨e1, e2⟩ | e | e
        · rw [e1, e2]; simp
        · rw [e]; simp
        · rw [e]; simp
      by_cases hlt : K < xs.length
      · have d2 : decide (((K : Nat) : Int) < xs.length) = true := by simp only [decide_eq_true_eq]; omega
        obtain ⟨k, s, n, e1, hs'⟩ := tokB_elim (List.all_eq_true.1 ht _ (List.getElem_mem hlt))
        have eK : xs[K]? = some (mkT k s n) := by rw [List.getElem?_eq_getElem hlt, e1]
        simp only [mkT] at eK
        rcases tf (k == 5) with k5 | k5
        · rcases tf (s == [91]) with a1 | a1
          · simp (config := { contextual := true, maxSteps := 10000000 }) only [c5, p0, g, pp, hte, d0, d1, z2, s1, pq, hte2, d2, eK, k5, a1, go_sem, Nat.reduceAdd, Nat.reduceSub, Nat.reduceMul, Nat.reduceEqDiff, Nat.reduceLeDiff, Nat.reduceLT, Int.reduceToNat, Int.reduceLE, Int.reduceLT, Int.reduceEq, Int.reduceNe, Int.reduceBEq, Int.reduceBNe, Nat.reduceBEq, Nat.reduceBNe, ↓reduceIte, reduceCtorEq, ↓reduceDIte, W_draw]
          · have hb : isP xs (K, 0) [91] = false := by
              cases hb : isP xs (K, 0) [91] with
              | false => rfl
              | true =>
                obtain ⟨_, q2, q3, _⟩ := is_at hb
                rw [eK] at q2
                injection q2 with q2
                rw [← q2] at q3
                have : s = [91] := q3
                rw [this] at a1; cases a1
            have ff := fin hb
            simp (config := { contextual := true, maxSteps := 10000000 }) only [c5, p0, g, pp, hte, d0, d1, z2, s1, pq, hte2, d2, eK, k5, a1, ff, go_sem, Nat.reduceAdd, Nat.reduceSub, Nat.reduceMul, Nat.reduceEqDiff, Nat.reduceLeDiff, Nat.reduceLT, Int.reduceToNat, Int.reduceLE, Int.reduceLT, Int.reduceEq, Int.reduceNe, Int.reduceBEq, Int.reduceBNe, Nat.reduceBEq, Nat.reduceBNe, ↓reduceIte, reduceCtorEq, ↓reduceDIte, W_draw]
            exact ⟨fun q1 q2 q3 => by rw [q1, q2, q3] at ff; rw [show (pf == 0) = true from ff], fun q1 q3 => by rw [q1, q3] at ff; rw [show (pf == 0) = true from ff]⟩
        · have hb : isP xs (K, 0) [91] = false := by
            cases hb : isP xs (K, 0) [91] with
            | false => rfl
            | true =>
              obtain ⟨_, q2, q3, q4⟩ := is_at hb
              rw [eK] at q2
              injection q2 with q2
              rw [← q2] at q3 q4
              have q3 : s = [91] := q3
              subst q3
              rcases q4 with ⟨_, q4⟩ | ⟨q4, _⟩
              · exact absurd q4 (by decide)
              · have : k = 5 := q4
                rw [this] at k5; cases k5
          have ff := fin hb
          simp (config := { contextual := true, maxSteps := 10000000 }) only [c5, p0, g, pp, hte, d0, d1, z2, s1, pq, hte2, d2, eK, k5, ff, go_sem, Nat.reduceAdd, Nat.reduceSub, Nat.reduceMul, Nat.reduceEqDiff, Nat.reduceLeDiff, Nat.reduceLT, Int.reduceToNat, Int.reduceLE, Int.reduceLT, Int.reduceEq, Int.reduceNe, Int.reduceBEq, Int.reduceBNe, Nat.reduceBEq, Nat.reduceBNe, ↓reduceIte, reduceCtorEq, ↓reduceDIte, W_draw]
          exact ⟨fun q1 q2 q3 => by rw [q1, q2, q3] at ff; rw [show (pf == 0) = true from ff], fun q1 q3 => by rw [q1, q3] at ff; rw [show (pf == 0) = true from ff]⟩
      · have d2 : decide (((K : Nat) : Int) < xs.length) = false := by simp only [decide_eq_false_iff_not]; omega
        have hb : isP xs (K, 0) [91] = false := by
          cases hb : isP xs (K, 0) [91] with
          | false => rfl
          | true => exact absurd (isP_lt hb).1 hlt
        have ff := fin hb
        simp (config := { contextual := true, maxSteps := 10000000 }) only [c5, p0, g, pp, hte, d0, d1, z2, s1, pq, hte2, d2, ff, go_sem, Nat.reduceAdd, Nat.reduceSub, Nat.reduceMul, Nat.reduceEqDiff, Nat.reduceLeDiff, Nat.reduceLT, Int.reduceToNat, Int.reduceLE, Int.reduceLT, Int.reduceEq, Int.reduceNe, Int.reduceBEq, Int.reduceBNe, Nat.reduceBEq, Nat.reduceBNe, ↓reduceIte, reduceCtorEq, ↓reduceDIte, W_draw]
        exact ⟨fun q1 q2 q3 => by rw [q1, q2, q3] at ff; rw [show (pf == 0) = true from ff], fun q1 q3 => by rw [q1, q3] at ff; rw [show (pf == 0) = true from ff]⟩
    · have z2 : ((parseE xs).2.2 != 2) = true := by simpa using h2
      obtain ⟨P, hP⟩ : ∃ P, parseE xs = P := ⟨_, rfl⟩
      rw [hP] at pp z2
      obtain ⟨px, pa, pf⟩ := P
      simp only at pp z2
      simp (config := { contextual := true, maxSteps := 10000000 }) only [c5, p0, g, pp, hte, z2, go_sem, Nat.reduceAdd, Nat.reduceSub, Nat.reduceMul, Nat.reduceEqDiff, Nat.reduceLeDiff, Nat.reduceLT, Int.reduceToNat, Int.reduceLE, Int.reduceLT, Int.reduceEq, Int.reduceNe, Int.reduceBEq, Int.reduceBNe, Nat.reduceBEq, Nat.reduceBNe, ↓reduceIte, reduceCtorEq, ↓reduceDIte, W_draw]
end GP
