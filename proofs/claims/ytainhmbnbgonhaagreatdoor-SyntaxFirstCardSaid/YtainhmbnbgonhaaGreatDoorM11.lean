import Derived.Test.YtainhmbnbgonhaaGreatDoorProg
import Derived.Test.YtainhmbnbgonhaaGreatDoorM4
import Derived.Test.YtainhmbnbgonhaaGreatDoorM8
import Derived.Test.YtainhmbnbgonhaaGreatDoorM10
set_option linter.unusedSimpArgs false
namespace GP
open Go Go.Proofs
set_option maxRecDepth 100000
inductive Lv where
  | expr | and | not | cmp | sum | prod | unary | plain | inner
def wOr : List UInt8 := [111, 114]
def wAnd : List UInt8 := [97, 110, 100]
def wNot : List UInt8 := [110, 111, 116]
def wNeg : List UInt8 := [110, 101, 103]
def wNow : List UInt8 := [110, 111, 119]
def wSize : List UInt8 := [115, 105, 122, 101]
def wRole : List UInt8 := [114, 111, 108, 101]
def wHas : List UInt8 := [104, 97, 115]
def wAttr : List UInt8 := [97, 116, 116, 114]
def cmpW : List (List UInt8) := [[61, 61], [33, 61], [60], [60, 61], [62], [62, 61], [105, 110]]
def oneD (op : List UInt8) (x : D) : D := .agg [.str op, .int .i64 0, .int .i64 0, .str [], .nils, .str [], .str [], .sl none [x]]
def leafD (op who name : List UInt8) : D := .agg [.str op, .int .i64 0, .int .i64 0, .str [], .nils, .str who, .str name, .nils]
def oneS (op : List UInt8) : Option (D × St) → Option (D × St)
  | none => none
  | some (x, st) => some (oneD op x, st)
def cmpS2 (toks : List D) (P : Part) : Option (D × St) → Option (D × St)
  | none => none
  | some (x, st1) => match firstP toks st1 cmpW with
    | none => some (x, st1)
    | some w => match P toks (st1.1 + 1, st1.2) with
      | none => none
      | some (y, st2) => some (twoD w x y, st2)
def innS (toks : List D) : Option (D × St) → Option (D × St)
  | none => none
  | some (x, st1) => some (x, mustP toks [41] st1)
def plainP (I : Part) (f : Nat) (toks : List D) (st : St) : Option (D × St) :=
  if (literalP toks st).2.1 then some (valE (literalP toks st).1, (literalP toks st).2.2) else
  if isP toks st wNow then some (leafD wNow [] [], (st.1 + 1, st.2)) else
  if isP toks st [40] then I toks st else
  if isP toks st [91] then bagP toks f st.1 (st.1 + 1, st.2) else
  if isP toks st wSize then oneS wSize (I toks (st.1 + 1, st.2)) else
  if isP toks st wRole then some (leafD wRole [] (ts (kindP toks 3 (mustP toks [40] (st.1 + 1, st.2))).1), mustP toks [41] (kindP toks 3 (mustP toks [40] (st.1 + 1, st.2))).2) else
  if isP toks st wHas then some (leafD wHas (attrP toks (mustP toks [40] (st.1 + 1, st.2))).1 (attrP toks (mustP toks [40] (st.1 + 1, st.2))).2.1, mustP toks [41] (attrP toks (mustP toks [40] (st.1 + 1, st.2))).2.2) else
  some (leafD wAttr (attrP toks st).1 (attrP toks st).2.1, (attrP toks st).2.2)
def pLv : Nat → Lv → Part
  | 0, _ => fun _ _ => none
  | f + 1, .expr => fun toks st => rowP toks (pLv f .and) [wOr] f st
  | f + 1, .and => fun toks st => rowP toks (pLv f .not) [wAnd] f st
  | f + 1, .not => fun toks st => if isP toks st wNot then oneS wNot (pLv f .not toks (st.1 + 1, st.2)) else pLv f .cmp toks st
  | f + 1, .cmp => fun toks st => cmpS2 toks (pLv f .sum) (pLv f .sum toks st)
  | f + 1, .sum => fun toks st => rowP toks (pLv f .prod) [[43], [45]] f st
  | f + 1, .prod => fun toks st => rowP toks (pLv f .unary) [[42]] f st
  | f + 1, .unary => fun toks st => if isP toks st [45] then oneS wNeg (pLv f .unary toks (st.1 + 1, st.2)) else pLv f .plain toks st
  | f + 1, .plain => fun toks st => plainP (pLv f .inner) f toks st
  | f + 1, .inner => fun toks st => innS toks (pLv f .expr toks (mustP toks [40] st))
theorem one_ex8 {op : List UInt8} {x : D} (hx : ex8 x) : ex8 (oneD op x) :=
  ⟨⟨_, _, _, _, _, _, _, _, rfl⟩, by simp [oneD, D.erase, D.eraseL, hx.2.1], by simp [oneD, D.cl, D.clL, hx.2.2]⟩
theorem leaf_ex8 (op who name : List UInt8) : ex8 (leafD op who name) := ⟨⟨_, _, _, _, _, _, _, _, rfl⟩, by simp [leafD, D.erase, D.eraseL], by simp [leafD, D.cl, D.clL]⟩
theorem oneS_ex8 {op : List UInt8} {z : Option (D × St)} {r : D × St} (hz : ∀ r, z = some r → ex8 r.1) (h : oneS op z = some r) : ex8 r.1 := by
  cases z with
  | none => simp [oneS] at h
  | some z =>
    obtain ⟨x, st⟩ := z
    simp only [oneS, Option.some.injEq] at h; subst h
    exact one_ex8 (hz _ rfl)
theorem val_ex8 {v : D} (h : val4 v) : ex8 (valE v) := by
  obtain ⟨k, i, s, rfl, _⟩ := h
  exact ⟨⟨_, _, _, _, _, _, _, _, rfl⟩, by simp [valE, D.cells, D.erase, D.eraseL], by simp [valE, D.cells, D.cl, D.clL]⟩
theorem bagP_ex8 {toks : List D} (ht : toks.all tokB = true) {f fr : Nat} {st : St} {r : D × St} (h : bagP toks f fr st = some r) : ex8 r.1 := by
  unfold bagP at h
  split at h
  · cases h
  · rename_i out st1 hb
    have hv := (bagL_val ht f _ _ _ (fun v hv => by rw [List.mem_singleton] at hv; subst hv; exact item_val ht st) hb).1
    split at h
    · injection h with h; subst h
      exact ⟨⟨_, _, _, _, _, _, _, _, rfl⟩, by simp [zeroE, D.erase, D.eraseL], by simp [zeroE, D.cl, D.clL]⟩
    · injection h with h; subst h
      have hc := bagV_cl hv
      obtain ⟨k, i, s, n, ys, e, _⟩ := bagV_shape out
      rw [e] at hc
      simp only [e]
      have h1 := hc.1
      have h2 := hc.2
      simp only [D.cl, D.clL, Bool.and_true, Bool.true_and] at h1
      simp only [D.erase, D.eraseL, D.agg.injEq, List.cons.injEq, true_and, and_true] at h2
      exact ⟨⟨_, _, _, _, _, _, _, _, rfl⟩, by simp [valE, D.cells, D.erase, D.eraseL, h2], by simp [valE, D.cells, D.cl, D.clL, h1]⟩
theorem lv_ex8 : ∀ (f : Nat) (lv : Lv), exPart (pLv f lv)
  | 0, _, _, _, _, _, h => by cases h
  | f + 1, lv, toks, st, r, ht, h => by
    cases lv with
    | expr => exact rowP_ex8 (lv_ex8 f .and) ht h
    | and => exact rowP_ex8 (lv_ex8 f .not) ht h
    | sum => exact rowP_ex8 (lv_ex8 f .prod) ht h
    | prod => exact rowP_ex8 (lv_ex8 f .unary) ht h
    | not =>
      simp only [pLv] at h
      split at h
      · exact oneS_ex8 (fun r hr => lv_ex8 f .not toks _ r ht hr) h
      · exact lv_ex8 f .cmp toks st r ht h
    | unary =>
      simp only [pLv] at h
      split at h
      · exact oneS_ex8 (fun r hr => lv_ex8 f .unary toks _ r ht hr) h
      · exact lv_ex8 f .plain toks st r ht h
    | cmp =>
      simp only [pLv] at h
      obtain ⟨z, hz⟩ : ∃ z, pLv f .sum toks st = z := ⟨_, rfl⟩
      rw [hz] at h
      cases z with
      | none => cases h
      | some z =>
        obtain ⟨x, st1⟩ := z
        have hx := lv_ex8 f .sum toks _ _ ht hz
        simp only [cmpS2] at h
        split at h
        · injection h with h; subst h; exact hx
        · split at h
          · cases h
          · rename_i y st2 hy
            injection h with h; subst h
            exact two_ex8 hx (lv_ex8 f .sum toks _ _ ht hy)
    | inner =>
      simp only [pLv] at h
      obtain ⟨z, hz⟩ : ∃ z, pLv f .expr toks (mustP toks [40] st) = z := ⟨_, rfl⟩
      rw [hz] at h
      cases z with
      | none => cases h
      | some z =>
        obtain ⟨x, st1⟩ := z
        simp only [innS, Option.some.injEq] at h; subst h
        show ex8 x
        exact lv_ex8 f .expr toks _ (x, st1) ht hz
    | plain =>
      simp only [pLv, plainP] at h
      split at h
      · injection h with h; subst h; exact val_ex8 (lit_val ht st)
      split at h
      · injection h with h; subst h; exact leaf_ex8 _ _ _
      split at h
      · exact lv_ex8 f .inner toks st r ht h
      split at h
      · exact bagP_ex8 ht h
      split at h
      · exact oneS_ex8 (fun r hr => lv_ex8 f .inner toks _ r ht hr) h
      split at h
      · injection h with h; subst h; exact leaf_ex8 _ _ _
      split at h
      · injection h with h; subst h; exact leaf_ex8 _ _ _
      · injection h with h; subst h; exact leaf_ex8 _ _ _
theorem okExpr (f : Nat) (h0 : OkAtE Tryz.prog 104 (φC (gOf (pLv f .and)))) : OkAtE Tryz.prog 49 (φC (gOf (pLv (f + 1) .expr))) := by
  have hM : MonoH [] := .nil
  refine okC_of (l := []) (m := []) (ee := [(103, φP (gRow 104 (pLv f .and) f))]) .nil .nil (.cons (okRow h0 (lv_ex8 f .and) (by decide) (by decide) f) .nil) fn49 fun H p n xs a e rest r a' e' hp htk hlen h => ?_
  unfold gOf at h
  split at h
  · have qa := (fun g rest a e L => φQ_at (n := n) hp htk hlen g rest a e L); have qa0 := (fun g rest a e => φQ_at0 (n := n) hp htk hlen g rest a e); have ca := (fun g rest a e L => φC_at (n := n) hp htk hlen g rest a e L); have ca0 := (fun g rest a e => φC_at0 (n := n) hp htk hlen g rest a e); have rc := (fun X L off => rd_cu (p := p) hp X L off); have rc0 := (fun X off => rd_cu0 (p := p) hp X off); have sc := (fun (K : D → S → Prop) X L t T n off v => st_cu (p := p) (K := K) hp X L t T n off v); have sc0 := (fun (K : D → S → Prop) X t T n off v => st_cu0 (p := p) (K := K) hp X t T n off v)
    have pa := (fun g rest a e L => φP_at (n := n) hp htk hlen g rest a e L)
    have hr8 : ex8 r := lv_ex8 (f + 1) .expr xs (a, e) (r, (a', e')) htk h
    have hg : gRow 104 (pLv f .and) f p [.fn 104 [.ptr p 0] [], .sl none [.str [111, 114]]] xs a e = some (r, a', e') := by
      simp only [gRow]
      rw [if_pos ⟨trivial, trivial, rfl, by simp, rfl⟩]
      exact h
    refine ⟨by simp, hr8.2.2, fun T => ?_⟩
    have hre := hr8.2.1
    obtain ⟨⟨c0, c1, c2, c3, c4, c5, c6, c7, rfl⟩, _, _⟩ := hr8
    simp (config := { contextual := true, maxSteps := 10000000 }) only [qa, qa0, ca, ca0, rc, rc0, sc, sc0, pa, c49, hg, go_sem, Nat.reduceAdd, Nat.reduceSub, Nat.reduceMul, Nat.reduceEqDiff, Nat.reduceLeDiff, Nat.reduceLT, Int.reduceToNat, Int.reduceLE, Int.reduceLT, Int.reduceEq, Int.reduceNe, Int.reduceBEq, Int.reduceBNe, Nat.reduceBEq, Nat.reduceBNe, ↓reduceIte, reduceCtorEq, ↓reduceDIte, W_draw]
    exact leavesE_mk hre ⟨_, rfl⟩ ⟨_, rfl⟩
  · cases h
theorem okAnd (f : Nat) (h0 : OkAtE Tryz.prog 170 (φC (gOf (pLv f .not)))) : OkAtE Tryz.prog 104 (φC (gOf (pLv (f + 1) .and))) := by
  have hM : MonoH [] := .nil
  refine okC_of (l := []) (m := []) (ee := [(103, φP (gRow 170 (pLv f .not) f))]) .nil .nil (.cons (okRow h0 (lv_ex8 f .not) (by decide) (by decide) f) .nil) fn104 fun H p n xs a e rest r a' e' hp htk hlen h => ?_
  unfold gOf at h
  split at h
  · have qa := (fun g rest a e L => φQ_at (n := n) hp htk hlen g rest a e L); have qa0 := (fun g rest a e => φQ_at0 (n := n) hp htk hlen g rest a e); have ca := (fun g rest a e L => φC_at (n := n) hp htk hlen g rest a e L); have ca0 := (fun g rest a e => φC_at0 (n := n) hp htk hlen g rest a e); have rc := (fun X L off => rd_cu (p := p) hp X L off); have rc0 := (fun X off => rd_cu0 (p := p) hp X off); have sc := (fun (K : D → S → Prop) X L t T n off v => st_cu (p := p) (K := K) hp X L t T n off v); have sc0 := (fun (K : D → S → Prop) X t T n off v => st_cu0 (p := p) (K := K) hp X t T n off v)
    have pa := (fun g rest a e L => φP_at (n := n) hp htk hlen g rest a e L)
    have hr8 : ex8 r := lv_ex8 (f + 1) .and xs (a, e) (r, (a', e')) htk h
    have hg : gRow 170 (pLv f .not) f p [.fn 170 [.ptr p 0] [], .sl none [.str [97, 110, 100]]] xs a e = some (r, a', e') := by
      simp only [gRow]
      rw [if_pos ⟨trivial, trivial, rfl, by simp, rfl⟩]
      exact h
    refine ⟨by simp, hr8.2.2, fun T => ?_⟩
    have hre := hr8.2.1
    obtain ⟨⟨c0, c1, c2, c3, c4, c5, c6, c7, rfl⟩, _, _⟩ := hr8
    simp (config := { contextual := true, maxSteps := 10000000 }) only [qa, qa0, ca, ca0, rc, rc0, sc, sc0, pa, c104, hg, go_sem, Nat.reduceAdd, Nat.reduceSub, Nat.reduceMul, Nat.reduceEqDiff, Nat.reduceLeDiff, Nat.reduceLT, Int.reduceToNat, Int.reduceLE, Int.reduceLT, Int.reduceEq, Int.reduceNe, Int.reduceBEq, Int.reduceBNe, Nat.reduceBEq, Nat.reduceBNe, ↓reduceIte, reduceCtorEq, ↓reduceDIte, W_draw]
    exact leavesE_mk hre ⟨_, rfl⟩ ⟨_, rfl⟩
  · cases h
theorem okSum (f : Nat) (h0 : OkAtE Tryz.prog 228 (φC (gOf (pLv f .prod)))) : OkAtE Tryz.prog 217 (φC (gOf (pLv (f + 1) .sum))) := by
  have hM : MonoH [] := .nil
  refine okC_of (l := []) (m := []) (ee := [(103, φP (gRow 228 (pLv f .prod) f))]) .nil .nil (.cons (okRow h0 (lv_ex8 f .prod) (by decide) (by decide) f) .nil) fn217 fun H p n xs a e rest r a' e' hp htk hlen h => ?_
  unfold gOf at h
  split at h
  · have qa := (fun g rest a e L => φQ_at (n := n) hp htk hlen g rest a e L); have qa0 := (fun g rest a e => φQ_at0 (n := n) hp htk hlen g rest a e); have ca := (fun g rest a e L => φC_at (n := n) hp htk hlen g rest a e L); have ca0 := (fun g rest a e => φC_at0 (n := n) hp htk hlen g rest a e); have rc := (fun X L off => rd_cu (p := p) hp X L off); have rc0 := (fun X off => rd_cu0 (p := p) hp X off); have sc := (fun (K : D → S → Prop) X L t T n off v => st_cu (p := p) (K := K) hp X L t T n off v); have sc0 := (fun (K : D → S → Prop) X t T n off v => st_cu0 (p := p) (K := K) hp X t T n off v)
    have pa := (fun g rest a e L => φP_at (n := n) hp htk hlen g rest a e L)
    have hr8 : ex8 r := lv_ex8 (f + 1) .sum xs (a, e) (r, (a', e')) htk h
    have hg : gRow 228 (pLv f .prod) f p [.fn 228 [.ptr p 0] [], .sl none [.str [43], .str [45]]] xs a e = some (r, a', e') := by
      simp only [gRow]
      rw [if_pos ⟨trivial, trivial, rfl, by simp, rfl⟩]
      exact h
    refine ⟨by simp, hr8.2.2, fun T => ?_⟩
    have hre := hr8.2.1
    obtain ⟨⟨c0, c1, c2, c3, c4, c5, c6, c7, rfl⟩, _, _⟩ := hr8
    simp (config := { contextual := true, maxSteps := 10000000 }) only [qa, qa0, ca, ca0, rc, rc0, sc, sc0, pa, c217, hg, go_sem, Nat.reduceAdd, Nat.reduceSub, Nat.reduceMul, Nat.reduceEqDiff, Nat.reduceLeDiff, Nat.reduceLT, Int.reduceToNat, Int.reduceLE, Int.reduceLT, Int.reduceEq, Int.reduceNe, Int.reduceBEq, Int.reduceBNe, Nat.reduceBEq, Nat.reduceBNe, ↓reduceIte, reduceCtorEq, ↓reduceDIte, W_draw]
    exact leavesE_mk hre ⟨_, rfl⟩ ⟨_, rfl⟩
  · cases h
theorem okProd (f : Nat) (h0 : OkAtE Tryz.prog 236 (φC (gOf (pLv f .unary)))) : OkAtE Tryz.prog 228 (φC (gOf (pLv (f + 1) .prod))) := by
  have hM : MonoH [] := .nil
  refine okC_of (l := []) (m := []) (ee := [(103, φP (gRow 236 (pLv f .unary) f))]) .nil .nil (.cons (okRow h0 (lv_ex8 f .unary) (by decide) (by decide) f) .nil) fn228 fun H p n xs a e rest r a' e' hp htk hlen h => ?_
  unfold gOf at h
  split at h
  · have qa := (fun g rest a e L => φQ_at (n := n) hp htk hlen g rest a e L); have qa0 := (fun g rest a e => φQ_at0 (n := n) hp htk hlen g rest a e); have ca := (fun g rest a e L => φC_at (n := n) hp htk hlen g rest a e L); have ca0 := (fun g rest a e => φC_at0 (n := n) hp htk hlen g rest a e); have rc := (fun X L off => rd_cu (p := p) hp X L off); have rc0 := (fun X off => rd_cu0 (p := p) hp X off); have sc := (fun (K : D → S → Prop) X L t T n off v => st_cu (p := p) (K := K) hp X L t T n off v); have sc0 := (fun (K : D → S → Prop) X t T n off v => st_cu0 (p := p) (K := K) hp X t T n off v)
    have pa := (fun g rest a e L => φP_at (n := n) hp htk hlen g rest a e L)
    have hr8 : ex8 r := lv_ex8 (f + 1) .prod xs (a, e) (r, (a', e')) htk h
    have hg : gRow 236 (pLv f .unary) f p [.fn 236 [.ptr p 0] [], .sl none [.str [42]]] xs a e = some (r, a', e') := by
      simp only [gRow]
      rw [if_pos ⟨trivial, trivial, rfl, by simp, rfl⟩]
      exact h
    refine ⟨by simp, hr8.2.2, fun T => ?_⟩
    have hre := hr8.2.1
    obtain ⟨⟨c0, c1, c2, c3, c4, c5, c6, c7, rfl⟩, _, _⟩ := hr8
    simp (config := { contextual := true, maxSteps := 10000000 }) only [qa, qa0, ca, ca0, rc, rc0, sc, sc0, pa, c228, hg, go_sem, Nat.reduceAdd, Nat.reduceSub, Nat.reduceMul, Nat.reduceEqDiff, Nat.reduceLeDiff, Nat.reduceLT, Int.reduceToNat, Int.reduceLE, Int.reduceLT, Int.reduceEq, Int.reduceNe, Int.reduceBEq, Int.reduceBNe, Nat.reduceBEq, Nat.reduceBNe, ↓reduceIte, reduceCtorEq, ↓reduceDIte, W_draw]
    exact leavesE_mk hre ⟨_, rfl⟩ ⟨_, rfl⟩
  · cases h
theorem okNot (f : Nat) (h0 : OkAtE Tryz.prog 170 (φC (gOf (pLv f .not)))) (h1 : OkAtE Tryz.prog 202 (φC (gOf (pLv f .cmp)))) : OkAtE Tryz.prog 170 (φC (gOf (pLv (f + 1) .not))) := by
  have hM : MonoH [] := .nil
  refine okC_of (l := []) (m := []) (ee := [(69, φC gMay), (170, φC (gOf (pLv f .not))), (202, φC (gOf (pLv f .cmp)))]) .nil .nil (.cons ok69 (.cons h0 (.cons h1 .nil))) fn170 fun H p n xs a e rest r a' e' hp htk hlen h => ?_
  unfold gOf at h
  split at h
  · have qa := (fun g rest a e L => φQ_at (n := n) hp htk hlen g rest a e L); have qa0 := (fun g rest a e => φQ_at0 (n := n) hp htk hlen g rest a e); have ca := (fun g rest a e L => φC_at (n := n) hp htk hlen g rest a e L); have ca0 := (fun g rest a e => φC_at0 (n := n) hp htk hlen g rest a e); have rc := (fun X L off => rd_cu (p := p) hp X L off); have rc0 := (fun X off => rd_cu0 (p := p) hp X off); have sc := (fun (K : D → S → Prop) X L t T n off v => st_cu (p := p) (K := K) hp X L t T n off v); have sc0 := (fun (K : D → S → Prop) X t T n off v => st_cu0 (p := p) (K := K) hp X t T n off v)
    have hr8 : ex8 r := lv_ex8 (f + 1) .not xs (a, e) (r, (a', e')) htk h
    refine ⟨by simp, hr8.2.2, fun T => ?_⟩
    simp only [pLv] at h
    rcases tf (isP xs (a, e) wNot) with g | g
    · rw [if_pos g] at h
      obtain ⟨z, hz⟩ : ∃ z, pLv f .not xs (a + 1, e) = z := ⟨_, rfl⟩
      rw [hz] at h
      cases z with
      | none => cases h
      | some z =>
        obtain ⟨x, a1, e1⟩ := z
        have hx8 : ex8 x := lv_ex8 f .not xs (a + 1, e) (x, (a1, e1)) htk hz
        have hg : gOf (pLv f .not) [] xs (a + 1) e = some (x, a1, e1) := hz
        simp only [oneS, Option.some.injEq, Prod.mk.injEq] at h
        obtain ⟨h1, h2, h3⟩ := h
        subst h1; subst h2; subst h3
        have hre := hr8.2.1
        have hxe := hx8.2.1
        obtain ⟨⟨c0, c1, c2, c3, c4, c5, c6, c7, rfl⟩, _, _⟩ := hx8
        have g' := g
        (try simp only [wNot] at g')
        simp only [oneD, wNot] at hre ⊢
        simp (config := { contextual := true, maxSteps := 10000000 }) only [qa, qa0, ca, ca0, rc, rc0, sc, sc0, c170, gMay, g', hg, go_sem, Nat.reduceAdd, Nat.reduceSub, Nat.reduceMul, Nat.reduceEqDiff, Nat.reduceLeDiff, Nat.reduceLT, Int.reduceToNat, Int.reduceLE, Int.reduceLT, Int.reduceEq, Int.reduceNe, Int.reduceBEq, Int.reduceBNe, Nat.reduceBEq, Nat.reduceBNe, ↓reduceIte, reduceCtorEq, ↓reduceDIte, W_draw]
        refine leavesE_mk ?_ ⟨_, rfl⟩ ⟨_, rfl⟩
        simp only [D.erase, D.eraseL, D.agg.injEq] at hxe ⊢
        rw [hxe]
    · rw [if_neg (by rw [g]; decide)] at h
      have hg : gOf (pLv f .cmp) [] xs a e = some (r, a', e') := h
      have hre := hr8.2.1
      obtain ⟨⟨c0, c1, c2, c3, c4, c5, c6, c7, rfl⟩, _, _⟩ := hr8
      have g' := g
      (try simp only [wNot] at g')
      simp (config := { contextual := true, maxSteps := 10000000 }) only [qa, qa0, ca, ca0, rc, rc0, sc, sc0, c170, gMay, g', hg, go_sem, Nat.reduceAdd, Nat.reduceSub, Nat.reduceMul, Nat.reduceEqDiff, Nat.reduceLeDiff, Nat.reduceLT, Int.reduceToNat, Int.reduceLE, Int.reduceLT, Int.reduceEq, Int.reduceNe, Int.reduceBEq, Int.reduceBNe, Nat.reduceBEq, Nat.reduceBNe, ↓reduceIte, reduceCtorEq, ↓reduceDIte, W_draw]
      exact leavesE_mk hre ⟨_, rfl⟩ (by first | exact ⟨_, rfl⟩ | (refine ⟨[], ?_⟩; simp; done))
  · cases h
theorem okUnary (f : Nat) (h0 : OkAtE Tryz.prog 236 (φC (gOf (pLv f .unary)))) (h1 : OkAtE Tryz.prog 238 (φC (gOf (pLv f .plain)))) : OkAtE Tryz.prog 236 (φC (gOf (pLv (f + 1) .unary))) := by
  have hM : MonoH [] := .nil
  refine okC_of (l := []) (m := []) (ee := [(69, φC gMay), (236, φC (gOf (pLv f .unary))), (238, φC (gOf (pLv f .plain)))]) .nil .nil (.cons ok69 (.cons h0 (.cons h1 .nil))) fn236 fun H p n xs a e rest r a' e' hp htk hlen h => ?_
  unfold gOf at h
  split at h
  · have qa := (fun g rest a e L => φQ_at (n := n) hp htk hlen g rest a e L); have qa0 := (fun g rest a e => φQ_at0 (n := n) hp htk hlen g rest a e); have ca := (fun g rest a e L => φC_at (n := n) hp htk hlen g rest a e L); have ca0 := (fun g rest a e => φC_at0 (n := n) hp htk hlen g rest a e); have rc := (fun X L off => rd_cu (p := p) hp X L off); have rc0 := (fun X off => rd_cu0 (p := p) hp X off); have sc := (fun (K : D → S → Prop) X L t T n off v => st_cu (p := p) (K := K) hp X L t T n off v); have sc0 := (fun (K : D → S → Prop) X t T n off v => st_cu0 (p := p) (K := K) hp X t T n off v)
    have hr8 : ex8 r := lv_ex8 (f + 1) .unary xs (a, e) (r, (a', e')) htk h
    refine ⟨by simp, hr8.2.2, fun T => ?_⟩
    simp only [pLv] at h
    rcases tf (isP xs (a, e) [45]) with g | g
    · rw [if_pos g] at h
      obtain ⟨z, hz⟩ : ∃ z, pLv f .unary xs (a + 1, e) = z := ⟨_, rfl⟩
      rw [hz] at h
      cases z with
      | none => cases h
      | some z =>
        obtain ⟨x, a1, e1⟩ := z
        have hx8 : ex8 x := lv_ex8 f .unary xs (a + 1, e) (x, (a1, e1)) htk hz
        have hg : gOf (pLv f .unary) [] xs (a + 1) e = some (x, a1, e1) := hz
        simp only [oneS, Option.some.injEq, Prod.mk.injEq] at h
        obtain ⟨h1, h2, h3⟩ := h
        subst h1; subst h2; subst h3
        have hre := hr8.2.1
        have hxe := hx8.2.1
        obtain ⟨⟨c0, c1, c2, c3, c4, c5, c6, c7, rfl⟩, _, _⟩ := hx8
        have g' := g
        (try simp only [wNeg] at g')
        simp only [oneD, wNeg] at hre ⊢
        simp (config := { contextual := true, maxSteps := 10000000 }) only [qa, qa0, ca, ca0, rc, rc0, sc, sc0, c236, gMay, g', hg, go_sem, Nat.reduceAdd, Nat.reduceSub, Nat.reduceMul, Nat.reduceEqDiff, Nat.reduceLeDiff, Nat.reduceLT, Int.reduceToNat, Int.reduceLE, Int.reduceLT, Int.reduceEq, Int.reduceNe, Int.reduceBEq, Int.reduceBNe, Nat.reduceBEq, Nat.reduceBNe, ↓reduceIte, reduceCtorEq, ↓reduceDIte, W_draw]
        refine leavesE_mk ?_ ⟨_, rfl⟩ ⟨_, rfl⟩
        simp only [D.erase, D.eraseL, D.agg.injEq] at hxe ⊢
        rw [hxe]
    · rw [if_neg (by rw [g]; decide)] at h
      have hg : gOf (pLv f .plain) [] xs a e = some (r, a', e') := h
      have hre := hr8.2.1
      obtain ⟨⟨c0, c1, c2, c3, c4, c5, c6, c7, rfl⟩, _, _⟩ := hr8
      have g' := g
      (try simp only [wNeg] at g')
      simp (config := { contextual := true, maxSteps := 10000000 }) only [qa, qa0, ca, ca0, rc, rc0, sc, sc0, c236, gMay, g', hg, go_sem, Nat.reduceAdd, Nat.reduceSub, Nat.reduceMul, Nat.reduceEqDiff, Nat.reduceLeDiff, Nat.reduceLT, Int.reduceToNat, Int.reduceLE, Int.reduceLT, Int.reduceEq, Int.reduceNe, Int.reduceBEq, Int.reduceBNe, Nat.reduceBEq, Nat.reduceBNe, ↓reduceIte, reduceCtorEq, ↓reduceDIte, W_draw]
      exact leavesE_mk hre ⟨_, rfl⟩ (by first | exact ⟨_, rfl⟩ | (refine ⟨[], ?_⟩; simp; done))
  · cases h
theorem okInner (f : Nat) (h0 : OkAtE Tryz.prog 49 (φC (gOf (pLv f .expr)))) : OkAtE Tryz.prog 240 (φC (gOf (pLv (f + 1) .inner))) := by
  have hM : MonoH [] := .nil
  refine okC_of (l := []) (m := []) (ee := [(71, φC gMust), (49, φC (gOf (pLv f .expr)))]) .nil .nil (.cons ok71 (.cons h0 .nil)) fn240 fun H p n xs a e rest r a' e' hp htk hlen h => ?_
  unfold gOf at h
  split at h
  · have qa := (fun g rest a e L => φQ_at (n := n) hp htk hlen g rest a e L); have qa0 := (fun g rest a e => φQ_at0 (n := n) hp htk hlen g rest a e); have ca := (fun g rest a e L => φC_at (n := n) hp htk hlen g rest a e L); have ca0 := (fun g rest a e => φC_at0 (n := n) hp htk hlen g rest a e); have rc := (fun X L off => rd_cu (p := p) hp X L off); have rc0 := (fun X off => rd_cu0 (p := p) hp X off); have sc := (fun (K : D → S → Prop) X L t T n off v => st_cu (p := p) (K := K) hp X L t T n off v); have sc0 := (fun (K : D → S → Prop) X t T n off v => st_cu0 (p := p) (K := K) hp X t T n off v)
    have hr8 : ex8 r := lv_ex8 (f + 1) .inner xs (a, e) (r, (a', e')) htk h
    refine ⟨by simp, hr8.2.2, fun T => ?_⟩
    simp only [pLv] at h
    obtain ⟨⟨a1, e1⟩, hm1⟩ : ∃ st, mustP xs [40] (a, e) = st := ⟨_, rfl⟩
    rw [hm1] at h
    have hg1 : gMust [.str [40]] xs a e = some (.tup [], a1, e1) := by simp only [gMust, hm1]
    obtain ⟨z, hz⟩ : ∃ z, pLv f .expr xs (a1, e1) = z := ⟨_, rfl⟩
    rw [hz] at h
    cases z with
    | none => cases h
    | some z =>
      obtain ⟨x, a2, e2⟩ := z
      have hg2 : gOf (pLv f .expr) [] xs a1 e1 = some (x, a2, e2) := hz
      obtain ⟨⟨a3, e3⟩, hm3⟩ : ∃ st, mustP xs [41] (a2, e2) = st := ⟨_, rfl⟩
      have hg3 : gMust [.str [41]] xs a2 e2 = some (.tup [], a3, e3) := by simp only [gMust, hm3]
      simp only [innS, hm3, Option.some.injEq, Prod.mk.injEq] at h
      obtain ⟨h1, h2, h3⟩ := h
      subst h1; subst h2; subst h3
      have hre := hr8.2.1
      obtain ⟨⟨c0, c1, c2, c3, c4, c5, c6, c7, rfl⟩, _, _⟩ := hr8
      simp (config := { contextual := true, maxSteps := 10000000 }) only [qa, qa0, ca, ca0, rc, rc0, sc, sc0, c240, hg1, hg2, hg3, go_sem, Nat.reduceAdd, Nat.reduceSub, Nat.reduceMul, Nat.reduceEqDiff, Nat.reduceLeDiff, Nat.reduceLT, Int.reduceToNat, Int.reduceLE, Int.reduceLT, Int.reduceEq, Int.reduceNe, Int.reduceBEq, Int.reduceBNe, Nat.reduceBEq, Nat.reduceBNe, ↓reduceIte, reduceCtorEq, ↓reduceDIte, W_draw]
      exact leavesE_mk hre ⟨_, rfl⟩ (by first | exact ⟨_, rfl⟩ | (refine ⟨[], ?_⟩; simp; done))
  · cases h
set_option maxHeartbeats 4000000 in
theorem okCmp (f : Nat) (h0 : OkAtE Tryz.prog 217 (φC (gOf (pLv f .sum)))) : OkAtE Tryz.prog 202 (φC (gOf (pLv (f + 1) .cmp))) := by
  have hM : MonoH [] := .nil
  refine okC_of (l := [(169, φtwoE)]) (m := []) (ee := [(69, φC gMay), (217, φC (gOf (pLv f .sum)))]) (.cons ok169 .nil) .nil (.cons ok69 (.cons h0 .nil)) fn202 fun H p n xs a e rest r a' e' hp htk hlen h => ?_
  unfold gOf at h
  split at h
  · have qa := (fun g rest a e L => φQ_at (n := n) hp htk hlen g rest a e L); have qa0 := (fun g rest a e => φQ_at0 (n := n) hp htk hlen g rest a e); have ca := (fun g rest a e L => φC_at (n := n) hp htk hlen g rest a e L); have ca0 := (fun g rest a e => φC_at0 (n := n) hp htk hlen g rest a e); have rc := (fun X L off => rd_cu (p := p) hp X L off); have rc0 := (fun X off => rd_cu0 (p := p) hp X off); have sc := (fun (K : D → S → Prop) X L t T n off v => st_cu (p := p) (K := K) hp X L t T n off v); have sc0 := (fun (K : D → S → Prop) X t T n off v => st_cu0 (p := p) (K := K) hp X t T n off v)
    have hr8 : ex8 r := lv_ex8 (f + 1) .cmp xs (a, e) (r, (a', e')) htk h
    refine ⟨by simp, hr8.2.2, fun T => ?_⟩
    simp only [pLv] at h
    obtain ⟨z, hz⟩ : ∃ z, pLv f .sum xs (a, e) = z := ⟨_, rfl⟩
    rw [hz] at h
    cases z with
    | none => cases h
    | some z =>
    obtain ⟨x, b, eb⟩ := z
    have hx8 : ex8 x := lv_ex8 f .sum xs (a, e) (x, (b, eb)) htk hz
    have hg : gOf (pLv f .sum) [] xs a e = some (x, b, eb) := hz
    simp only [cmpS2] at h
    have hx8' := hx8
    have hxe := hx8.2.1
    obtain ⟨⟨c0, c1, c2, c3, c4, c5, c6, c7, rfl⟩, _, _⟩ := hx8
    simp (config := { contextual := true, maxSteps := 10000000 }) only [qa, qa0, ca, ca0, rc, rc0, sc, sc0, c202, hg, go_sem, Nat.reduceAdd, Nat.reduceSub, Nat.reduceMul, Nat.reduceEqDiff, Nat.reduceLeDiff, Nat.reduceLT, Int.reduceToNat, Int.reduceLE, Int.reduceLT, Int.reduceEq, Int.reduceNe, Int.reduceBEq, Int.reduceBNe, Nat.reduceBEq, Nat.reduceBNe, ↓reduceIte, reduceCtorEq, ↓reduceDIte, W_draw]
    obtain ⟨ds, hds⟩ : ∃ ds, [D.str [61, 61], D.str [33, 61], D.str [60], D.str [60, 61], D.str [62], D.str [62, 61], D.str [105, 110]] = ds := ⟨_, rfl⟩
    have hmapW : ds.map strB = cmpW := by rw [← hds]; rfl
    have hd : ds.all isStrB = true := by rw [← hds]; rfl
    have hdl : ds.length = 7 := by rw [← hds]; rfl
    rw [hds]
    have hstr : ∀ (i : Nat) (hi : i < ds.length), ds[i]? = some (.str (strB ds[i])) := fun i hi => by
      have := List.all_eq_true.1 hd _ (List.getElem_mem hi)
      rw [List.getElem?_eq_getElem hi]
      cases hx : ds[i] <;> rw [hx] at this <;> simp [isStrB] at this <;> rfl
    clear hds hg hz
    refine W_for (fun i s' => s'.t 0 = .ptr p 0 ∧ s'.t 2 = .ptr H.length 0 ∧ s'.t 3 = .ptr (H.length + 1) 0 ∧ s'.t 8 = .sl (some T.length) ds ∧ s'.t 9 = .int .i64 7 ∧ s'.t 10 = .int .i64 ((i : Nat) : Int) ∧
        s'.H = H.set p (.row [sliceD n xs, .int .i64 ((b : Nat) : Int), .int .i64 eb]) ++ [.row [.str [], .int .i64 0, .int .i64 0, .str [], .nils, .str [], .str [], .nils], .row [c0, c1, c2, c3, c4, c5, c6, c7]] ∧ s'.T = T ++ [some (7, 1)] ∧ i ≤ 7 ∧ ∀ j u, j < i → (ds.map strB)[j]? = some u → isP xs (b, eb) u = false) 7
      ⟨0, by simp [upd, argT], by simp [upd], by simp [upd], by simp [upd], by simp [upd], by simp [upd], rfl, rfl, by omega, fun j u h => by omega⟩ (fun i s h => h.2.2.2.2.2.2.2.2.1) ?_ (XE_mono _ _ _)
    rintro i ⟨t, B, T'⟩ ⟨r0, r2, r3, r8, r9, r10, rfl, rfl, hi, hN⟩
    simp only at r0 r2 r3 r8 r9 r10
    by_cases hlt : i < 7
    · have d1 : decide (((i : Nat) : Int) < 7) = true := by simp only [decide_eq_true_eq]; omega
      have ex := hstr i (by omega)
      obtain ⟨u, hu⟩ : ∃ u, strB ds[i] = u := ⟨_, rfl⟩
      rw [hu] at ex
      have hmap : (ds.map strB)[i]? = some u := by rw [List.getElem?_map, ex]; rfl
      have ws : IntKind.i64.wrap (((i : Nat) : Int) + 1) = ((i + 1 : Nat) : Int) := by rw [show ((i : Nat) : Int) + 1 = ((i + 1 : Nat) : Int) by omega]; exact wrap_of _ (by omega) (by omega)
      rcases tf (isP xs (b, eb) u) with g1 | g1
      · have hf1 := firstP_at hmap hN g1
        rw [hmapW] at hf1
        rw [hf1] at h
        simp only at h
        obtain ⟨y, hy⟩ : ∃ y, pLv f .sum xs (b + 1, eb) = y := ⟨_, rfl⟩
        rw [hy] at h
        cases y with
        | none => cases h
        | some y =>
        obtain ⟨y, b2, eb2⟩ := y
        have hy8 : ex8 y := lv_ex8 f .sum xs (b + 1, eb) (y, (b2, eb2)) htk hy
        have hgy : gOf (pLv f .sum) [] xs (b + 1) eb = some (y, b2, eb2) := hy
        simp only [Option.some.injEq, Prod.mk.injEq] at h
        obtain ⟨h1, h2, h3⟩ := h
        subst h1; subst h2; subst h3
        have ptwo : φtwoE [.str u, .agg [c0, c1, c2, c3, c4, c5, c6, c7], y] = some (twoD u (.agg [c0, c1, c2, c3, c4, c5, c6, c7]) y) := by simp only [φtwoE]; rw [if_pos ⟨hx8', hy8⟩]
        obtain ⟨⟨d0, d1', d2, d3, d4, d5, d6, d7, rfl⟩, hye, _⟩ := hy8
        have hre := hr8.2.1
        simp only [D.erase, D.eraseL, D.agg.injEq] at hxe hye
        have erall : D.eraseL [.str u, .agg [c0, c1, c2, c3, c4, c5, c6, c7], .agg [d0, d1', d2, d3, d4, d5, d6, d7]] = [.str u, .agg [c0, c1, c2, c3, c4, c5, c6, c7], .agg [d0, d1', d2, d3, d4, d5, d6, d7]] := by
          simp only [D.eraseL, D.erase, hxe, hye]
        simp only [twoD] at ptwo hre ⊢
        simp (config := { contextual := true, maxSteps := 10000000 }) only [qa, qa0, ca, ca0, rc, rc0, sc, sc0, r0, r2, r3, r8, r9, r10, d1, ex, gMay, g1, hgy, pcallE hM, ptwo, erall, go_sem, Nat.reduceAdd, Nat.reduceSub, Nat.reduceMul, Nat.reduceEqDiff, Nat.reduceLeDiff, Nat.reduceLT, Int.reduceToNat, Int.reduceLE, Int.reduceLT, Int.reduceEq, Int.reduceNe, Int.reduceBEq, Int.reduceBNe, Nat.reduceBEq, Nat.reduceBNe, ↓reduceIte, reduceCtorEq, ↓reduceDIte, W_draw]
        exact leavesE_mk hre ⟨_, rfl⟩ ⟨_, rfl⟩
      · simp (config := { contextual := true, maxSteps := 10000000 }) only [qa, qa0, ca, ca0, rc, rc0, sc, sc0, r0, r2, r3, r8, r9, r10, d1, ex, gMay, g1, ws, go_sem, Nat.reduceAdd, Nat.reduceSub, Nat.reduceMul, Nat.reduceEqDiff, Nat.reduceLeDiff, Nat.reduceLT, Int.reduceToNat, Int.reduceLE, Int.reduceLT, Int.reduceEq, Int.reduceNe, Int.reduceBEq, Int.reduceBNe, Nat.reduceBEq, Nat.reduceBNe, ↓reduceIte, reduceCtorEq, ↓reduceDIte, W_draw]
        refine ⟨by omega, fun j v hj hv => ?_⟩
        rcases Nat.lt_or_ge j i with h' | h'
        · exact hN j v h' hv
        · have : j = i := by omega
          subst this
          rw [hmap] at hv; injection hv with hv; subst hv; exact g1
    · have d1 : decide (((i : Nat) : Int) < 7) = false := by simp only [decide_eq_false_iff_not]; omega
      have hf0 : firstP xs (b, eb) cmpW = none := by
        rw [← hmapW]
        exact firstP_none fun v hv => by
          obtain ⟨q, hq, rfl⟩ := List.getElem_of_mem hv
          exact hN q _ (by simp at hq; omega) (by rw [List.getElem?_eq_getElem hq])
      rw [hf0] at h
      simp only [Option.some.injEq, Prod.mk.injEq] at h
      obtain ⟨h1, h2, h3⟩ := h
      subst h1; subst h2; subst h3
      simp (config := { contextual := true, maxSteps := 10000000 }) only [qa, qa0, ca, ca0, rc, rc0, sc, sc0, r0, r2, r3, r8, r9, r10, d1, go_sem, Nat.reduceAdd, Nat.reduceSub, Nat.reduceMul, Nat.reduceEqDiff, Nat.reduceLeDiff, Nat.reduceLT, Int.reduceToNat, Int.reduceLE, Int.reduceLT, Int.reduceEq, Int.reduceNe, Int.reduceBEq, Int.reduceBNe, Nat.reduceBEq, Nat.reduceBNe, ↓reduceIte, reduceCtorEq, ↓reduceDIte, W_draw]
      exact leavesE_mk hxe ⟨_, rfl⟩ ⟨_, rfl⟩
  · cases h
theorem lit_false {toks : List D} {st : St} (h : (literalP toks st).2.1 = false) : literalP toks st = (zeroV, false, st) := by
  revert h
  unfold literalP
  (repeat' split) <;> simp
set_option maxHeartbeats 8000000 in
theorem okPlain (f : Nat) (hf : f ≤ 10000) (h0 : OkAtE Tryz.prog 240 (φC (gOf (pLv f .inner)))) : OkAtE Tryz.prog 238 (φC (gOf (pLv (f + 1) .plain))) := by
  have hM : MonoH [(117, φQ gIs)] := .cons (φQ_mono gIs) .nil
  refine okC_of (l := []) (m := [(117, φQ gIs)]) (ee := [(69, φC gMay), (71, φC gMust), (118, φC gAttr), (120, φC gKind), (239, φC gLit), (241, φC (gBag f)), (240, φC (gOf (pLv f .inner)))]) .nil (.cons ok117 .nil)
    (.cons ok69 (.cons ok71 (.cons ok118 (.cons ok120 (.cons ok239 (.cons (ok241 f hf) (.cons h0 .nil))))))) fn238 fun H p n xs a e rest r a' e' hp htk hlen h => ?_
  unfold gOf at h
  split at h
  · have qa := (fun g rest a e L => φQ_at (n := n) hp htk hlen g rest a e L); have qa0 := (fun g rest a e => φQ_at0 (n := n) hp htk hlen g rest a e); have ca := (fun g rest a e L => φC_at (n := n) hp htk hlen g rest a e L); have ca0 := (fun g rest a e => φC_at0 (n := n) hp htk hlen g rest a e); have rc := (fun X L off => rd_cu (p := p) hp X L off); have rc0 := (fun X off => rd_cu0 (p := p) hp X off); have sc := (fun (K : D → S → Prop) X L t T n off v => st_cu (p := p) (K := K) hp X L t T n off v); have sc0 := (fun (K : D → S → Prop) X t T n off v => st_cu0 (p := p) (K := K) hp X t T n off v)
    have hr8 : ex8 r := lv_ex8 (f + 1) .plain xs (a, e) (r, (a', e')) htk h
    refine ⟨by simp, hr8.2.2, fun T => ?_⟩
    have hre := hr8.2.1
    simp only [pLv, plainP] at h
    obtain ⟨k1, i1, s1, f1, hs1⟩ := lit_val htk (a, e)
    obtain ⟨⟨b1, a1, e1⟩, f2⟩ : ∃ z, (literalP xs (a, e)).2 = z := ⟨_, rfl⟩
    have f3 : literalP xs (a, e) = (.agg [.int .i64 k1, .int .i64 i1, .str s1, .nils], b1, a1, e1) := by rw [← f1, ← f2]
    have hlit : gLit [] xs a e = some (.tup [.agg [.int .i64 k1, .int .i64 i1, .str s1, .nils], .bool b1], a1, e1) := by simp only [gLit, f3]
    cases b1 with
    | true =>
      rw [f3] at h
      simp only [if_true, Option.some.injEq, Prod.mk.injEq] at h
      obtain ⟨h1, h2, h3⟩ := h
      subst h1; subst h2; subst h3
      simp only [valE, D.cells, List.cons_append, List.nil_append] at hre ⊢
      simp (config := { contextual := true, maxSteps := 10000000 }) only [qa, qa0, ca, ca0, rc, rc0, sc, sc0, c238, hlit, go_sem, Nat.reduceAdd, Nat.reduceSub, Nat.reduceMul, Nat.reduceEqDiff, Nat.reduceLeDiff, Nat.reduceLT, Int.reduceToNat, Int.reduceLE, Int.reduceLT, Int.reduceEq, Int.reduceNe, Int.reduceBEq, Int.reduceBNe, Nat.reduceBEq, Nat.reduceBNe, ↓reduceIte, reduceCtorEq, ↓reduceDIte, W_draw]
      exact leavesE_mk hre ⟨_, rfl⟩ (by first | exact ⟨_, rfl⟩ | (refine ⟨[], ?_⟩; simp; done))
    | false =>
    have lf := lit_false (toks := xs) (st := (a, e)) (by rw [f3])
    rw [lf] at h
    rw [lf] at f3
    simp only [zeroV, Prod.mk.injEq, D.agg.injEq, List.cons.injEq, D.int.injEq, D.str.injEq, true_and, and_true] at f3
    obtain ⟨⟨f4, f5, f6⟩, f7, f8⟩ := f3
    subst f4; subst f5; subst f6; subst f7; subst f8
    simp only [Bool.false_eq_true, if_false] at h
    rcases tf (isP xs (a, e) wNow) with g1 | g1
    · rw [if_pos g1] at h
      simp only [Option.some.injEq, Prod.mk.injEq] at h
      obtain ⟨h1, h2, h3⟩ := h
      subst h1; subst h2; subst h3
      simp only [wNow] at g1
      simp only [leafD, wNow] at hre ⊢
      simp (config := { contextual := true, maxSteps := 10000000 }) only [qa, qa0, ca, ca0, rc, rc0, sc, sc0, c238, hlit, gMay, g1, go_sem, Nat.reduceAdd, Nat.reduceSub, Nat.reduceMul, Nat.reduceEqDiff, Nat.reduceLeDiff, Nat.reduceLT, Int.reduceToNat, Int.reduceLE, Int.reduceLT, Int.reduceEq, Int.reduceNe, Int.reduceBEq, Int.reduceBNe, Nat.reduceBEq, Nat.reduceBNe, ↓reduceIte, reduceCtorEq, ↓reduceDIte, W_draw]
      exact leavesE_mk hre ⟨_, rfl⟩ (by first | exact ⟨_, rfl⟩ | (refine ⟨[], ?_⟩; simp; done))
    rw [if_neg (by rw [g1]; decide)] at h
    simp only [wNow] at g1
    have i1 : gIs [.str [40]] xs a e = some (.bool (isP xs (a, e) [40])) := rfl
    rcases tf (isP xs (a, e) [40]) with g2 | g2
    · rw [if_pos g2] at h
      rw [g2] at i1
      have hg : gOf (pLv f .inner) [] xs a e = some (r, a', e') := h
      obtain ⟨⟨c0, c1, c2, c3, c4, c5, c6, c7, rfl⟩, _, _⟩ := hr8
      simp (config := { contextual := true, maxSteps := 10000000 }) only [qa, qa0, ca, ca0, rc, rc0, sc, sc0, c238, hlit, gMay, g1, i1, hg, pcallE hM, go_sem, Nat.reduceAdd, Nat.reduceSub, Nat.reduceMul, Nat.reduceEqDiff, Nat.reduceLeDiff, Nat.reduceLT, Int.reduceToNat, Int.reduceLE, Int.reduceLT, Int.reduceEq, Int.reduceNe, Int.reduceBEq, Int.reduceBNe, Nat.reduceBEq, Nat.reduceBNe, ↓reduceIte, reduceCtorEq, ↓reduceDIte, W_draw]
      exact leavesE_mk hre ⟨_, rfl⟩ (by first | exact ⟨_, rfl⟩ | (refine ⟨[], ?_⟩; simp; done))
    rw [if_neg (by rw [g2]; decide)] at h
    rw [g2] at i1
    rcases tf (isP xs (a, e) [91]) with g3 | g3
    · rw [if_pos g3] at h
      have hg : gBag f [.int .i64 ((a : Nat) : Int)] xs (a + 1) e = some (r, a', e') := by
        simp only [gBag]
        rw [if_pos (by omega), Int.toNat_natCast]; exact h
      obtain ⟨⟨c0, c1, c2, c3, c4, c5, c6, c7, rfl⟩, _, _⟩ := hr8
      simp (config := { contextual := true, maxSteps := 10000000 }) only [qa, qa0, ca, ca0, rc, rc0, sc, sc0, c238, hlit, gMay, g1, g3, i1, hg, pcallE hM, go_sem, Nat.reduceAdd, Nat.reduceSub, Nat.reduceMul, Nat.reduceEqDiff, Nat.reduceLeDiff, Nat.reduceLT, Int.reduceToNat, Int.reduceLE, Int.reduceLT, Int.reduceEq, Int.reduceNe, Int.reduceBEq, Int.reduceBNe, Nat.reduceBEq, Nat.reduceBNe, ↓reduceIte, reduceCtorEq, ↓reduceDIte, W_draw]
      exact leavesE_mk hre ⟨_, rfl⟩ (by first | exact ⟨_, rfl⟩ | (refine ⟨[], ?_⟩; simp; done))
    rw [if_neg (by rw [g3]; decide)] at h
    rcases tf (isP xs (a, e) wSize) with g4 | g4
    · rw [if_pos g4] at h
      obtain ⟨z, hz⟩ : ∃ z, pLv f .inner xs (a + 1, e) = z := ⟨_, rfl⟩
      rw [hz] at h
      cases z with
      | none => cases h
      | some z =>
        obtain ⟨x, b1, eb1⟩ := z
        have hx8 : ex8 x := lv_ex8 f .inner xs (a + 1, e) (x, (b1, eb1)) htk hz
        have hg : gOf (pLv f .inner) [] xs (a + 1) e = some (x, b1, eb1) := hz
        simp only [oneS, Option.some.injEq, Prod.mk.injEq] at h
        obtain ⟨h1, h2, h3⟩ := h
        subst h1; subst h2; subst h3
        have hxe := hx8.2.1
        obtain ⟨⟨c0, c1, c2, c3, c4, c5, c6, c7, rfl⟩, _, _⟩ := hx8
        simp only [wSize] at g4
        simp only [oneD, wSize] at hre ⊢
        simp (config := { contextual := true, maxSteps := 10000000 }) only [qa, qa0, ca, ca0, rc, rc0, sc, sc0, c238, hlit, gMay, g1, g3, g4, i1, hg, pcallE hM, go_sem, Nat.reduceAdd, Nat.reduceSub, Nat.reduceMul, Nat.reduceEqDiff, Nat.reduceLeDiff, Nat.reduceLT, Int.reduceToNat, Int.reduceLE, Int.reduceLT, Int.reduceEq, Int.reduceNe, Int.reduceBEq, Int.reduceBNe, Nat.reduceBEq, Nat.reduceBNe, ↓reduceIte, reduceCtorEq, ↓reduceDIte, W_draw]
        refine leavesE_mk ?_ ⟨_, rfl⟩ ⟨_, rfl⟩
        simp only [D.erase, D.eraseL, D.agg.injEq] at hxe ⊢
        rw [hxe]
    rw [if_neg (by rw [g4]; decide)] at h
    simp only [wSize] at g4
    rcases tf (isP xs (a, e) wRole) with g5 | g5
    · rw [if_pos g5] at h
      obtain ⟨⟨b1, eb1⟩, hm1⟩ : ∃ st, mustP xs [40] (a + 1, e) = st := ⟨_, rfl⟩
      obtain ⟨k2, s2, m2, q1, hs2⟩ := kindP_cl htk 3 (b1, eb1)
      obtain ⟨⟨b2, eb2⟩, q2⟩ : ∃ st, (kindP xs 3 (b1, eb1)).2 = st := ⟨_, rfl⟩
      have q3 : kindP xs 3 (b1, eb1) = (mkT k2 s2 m2, b2, eb2) := by rw [← q1, ← q2]
      obtain ⟨⟨b3, eb3⟩, hm3⟩ : ∃ st, mustP xs [41] (b2, eb2) = st := ⟨_, rfl⟩
      have hg1 : gMust [.str [40]] xs (a + 1) e = some (.tup [], b1, eb1) := by simp only [gMust, hm1]
      have hg2 : gKind [.int .i64 3] xs b1 eb1 = some (mkT k2 s2 m2, b2, eb2) := by simp only [gKind]; rw [if_neg (by decide), q3]
      have hg3 : gMust [.str [41]] xs b2 eb2 = some (.tup [], b3, eb3) := by simp only [gMust, hm3]
      simp only [hm1, q3, hm3, ts_mk, Option.some.injEq, Prod.mk.injEq] at h
      obtain ⟨h1, h2, h3⟩ := h
      subst h1; subst h2; subst h3
      simp only [wRole] at g5
      simp only [mkT] at hg2
      simp only [leafD, wRole] at hre ⊢
      simp (config := { contextual := true, maxSteps := 10000000 }) only [qa, qa0, ca, ca0, rc, rc0, sc, sc0, c238, hlit, gMay, g1, g3, g4, g5, i1, hg1, hg2, hg3, pcallE hM, go_sem, Nat.reduceAdd, Nat.reduceSub, Nat.reduceMul, Nat.reduceEqDiff, Nat.reduceLeDiff, Nat.reduceLT, Int.reduceToNat, Int.reduceLE, Int.reduceLT, Int.reduceEq, Int.reduceNe, Int.reduceBEq, Int.reduceBNe, Nat.reduceBEq, Nat.reduceBNe, ↓reduceIte, reduceCtorEq, ↓reduceDIte, W_draw]
      exact leavesE_mk hre ⟨_, rfl⟩ (by first | exact ⟨_, rfl⟩ | (refine ⟨[], ?_⟩; simp; done))
    rw [if_neg (by rw [g5]; decide)] at h
    simp only [wRole] at g5
    rcases tf (isP xs (a, e) wHas) with g6 | g6
    · rw [if_pos g6] at h
      obtain ⟨⟨b1, eb1⟩, hm1⟩ : ∃ st, mustP xs [40] (a + 1, e) = st := ⟨_, rfl⟩
      obtain ⟨u1, u2, ⟨b2, eb2⟩, q3⟩ : ∃ u1 u2 st, attrP xs (b1, eb1) = (u1, u2, st) := ⟨_, _, _, rfl⟩
      obtain ⟨⟨b3, eb3⟩, hm3⟩ : ∃ st, mustP xs [41] (b2, eb2) = st := ⟨_, rfl⟩
      have hg1 : gMust [.str [40]] xs (a + 1) e = some (.tup [], b1, eb1) := by simp only [gMust, hm1]
      have hg2 : gAttr [] xs b1 eb1 = some (.tup [.str u1, .str u2], b2, eb2) := by simp only [gAttr, q3]
      have hg3 : gMust [.str [41]] xs b2 eb2 = some (.tup [], b3, eb3) := by simp only [gMust, hm3]
      simp only [hm1, q3, hm3, Option.some.injEq, Prod.mk.injEq] at h
      obtain ⟨h1, h2, h3⟩ := h
      subst h1; subst h2; subst h3
      simp only [wHas] at g6
      simp only [leafD, wHas] at hre ⊢
      simp (config := { contextual := true, maxSteps := 10000000 }) only [qa, qa0, ca, ca0, rc, rc0, sc, sc0, c238, hlit, gMay, g1, g3, g4, g5, g6, i1, hg1, hg2, hg3, pcallE hM, go_sem, Nat.reduceAdd, Nat.reduceSub, Nat.reduceMul, Nat.reduceEqDiff, Nat.reduceLeDiff, Nat.reduceLT, Int.reduceToNat, Int.reduceLE, Int.reduceLT, Int.reduceEq, Int.reduceNe, Int.reduceBEq, Int.reduceBNe, Nat.reduceBEq, Nat.reduceBNe, ↓reduceIte, reduceCtorEq, ↓reduceDIte, W_draw]
      exact leavesE_mk hre ⟨_, rfl⟩ (by first | exact ⟨_, rfl⟩ | (refine ⟨[], ?_⟩; simp; done))
    rw [if_neg (by rw [g6]; decide)] at h
    simp only [wHas] at g6
    obtain ⟨u1, u2, ⟨b2, eb2⟩, q3⟩ : ∃ u1 u2 st, attrP xs (a, e) = (u1, u2, st) := ⟨_, _, _, rfl⟩
    have hg2 : gAttr [] xs a e = some (.tup [.str u1, .str u2], b2, eb2) := by simp only [gAttr, q3]
    simp only [q3, Option.some.injEq, Prod.mk.injEq] at h
    obtain ⟨h1, h2, h3⟩ := h
    subst h1; subst h2; subst h3
    simp only [leafD, wAttr] at hre ⊢
    simp (config := { contextual := true, maxSteps := 10000000 }) only [qa, qa0, ca, ca0, rc, rc0, sc, sc0, c238, hlit, gMay, g1, g3, g4, g5, g6, i1, hg2, pcallE hM, go_sem, Nat.reduceAdd, Nat.reduceSub, Nat.reduceMul, Nat.reduceEqDiff, Nat.reduceLeDiff, Nat.reduceLT, Int.reduceToNat, Int.reduceLE, Int.reduceLT, Int.reduceEq, Int.reduceNe, Int.reduceBEq, Int.reduceBNe, Nat.reduceBEq, Nat.reduceBNe, ↓reduceIte, reduceCtorEq, ↓reduceDIte, W_draw]
    exact leavesE_mk hre ⟨_, rfl⟩ (by first | exact ⟨_, rfl⟩ | (refine ⟨[], ?_⟩; simp; done))
  · cases h
theorem okLv : ∀ f, f ≤ 10000 → OkAtE Tryz.prog 49 (φC (gOf (pLv f .expr))) ∧ OkAtE Tryz.prog 104 (φC (gOf (pLv f .and))) ∧ OkAtE Tryz.prog 170 (φC (gOf (pLv f .not))) ∧ OkAtE Tryz.prog 202 (φC (gOf (pLv f .cmp))) ∧ OkAtE Tryz.prog 217 (φC (gOf (pLv f .sum))) ∧
    OkAtE Tryz.prog 228 (φC (gOf (pLv f .prod))) ∧ OkAtE Tryz.prog 236 (φC (gOf (pLv f .unary))) ∧ OkAtE Tryz.prog 238 (φC (gOf (pLv f .plain))) ∧ OkAtE Tryz.prog 240 (φC (gOf (pLv f .inner)))
  | 0, _ => by
    have z : ∀ (lv : Lv) (N : FuncId), OkAtE Tryz.prog N (φC (gOf (pLv 0 lv))) := fun lv N H args r H' h => by
      exfalso
      unfold φC at h
      split at h
      · obtain ⟨_, _, _, _, _, _, _, _, _, _, _, h5, _⟩ := cuE_elim h
        unfold gOf at h5
        split at h5
        · cases lv <;> cases h5
        · cases h5
      · cases h
    exact ⟨z _ _, z _ _, z _ _, z _ _, z _ _, z _ _, z _ _, z _ _, z _ _⟩
  | f + 1, hf => by
    obtain ⟨h1, h2, h3, h4, h5, h6, h7, h8, h9⟩ := okLv f (by omega)
    exact ⟨okExpr f h2, okAnd f h3, okNot f h3 h4, okCmp f h5, okSum f h6, okProd f h7, okUnary f h7 h8, okPlain f (by omega) h9, okInner f h1⟩
end GP
set_option linter.unusedSimpArgs false
namespace GP
open Go Go.Proofs
set_option maxRecDepth 100000
def rem (toks : List D) (st : St) : Nat := if st.2 == 0 then toks.length - st.1 else 0
theorem rem_may {toks : List D} {st : St} {w : List UInt8} (h : isP toks st w = true) : rem toks (st.1 + 1, st.2) < rem toks st := by
  obtain ⟨h1, h2⟩ := isP_lt h
  unfold rem
  rw [h2]
  simp only [beq_self_eq_true, if_true]
  omega
theorem rem_now {toks : List D} {st : St} (h : tk (nowS toks st) ≠ 0) : rem toks (st.1 + 1, st.2) < rem toks st := by
  obtain ⟨h1, h2⟩ := nowP_lt (toks := toks) (a := st.1) (e := st.2) h
  unfold rem
  rw [h2]
  simp only [beq_self_eq_true, if_true]
  omega
theorem rem_fail (toks : List D) (n : Nat) (st : St) : rem toks (failP n 2 st) ≤ rem toks st := by
  unfold failP
  split
  · unfold rem; simp
  · exact Nat.le_refl _
theorem rem_must (toks : List D) (w : List UInt8) (st : St) : rem toks (mustP toks w st) ≤ rem toks st := by
  unfold mustP
  split
  · rename_i h; exact Nat.le_of_lt (rem_may h)
  · exact rem_fail _ _ _
theorem rem_must_lt {toks : List D} {w : List UInt8} {st : St} (h : isP toks st w = true) : rem toks (mustP toks w st) < rem toks st := by
  unfold mustP; rw [if_pos h]; exact rem_may h
theorem rem_kind (toks : List D) {k : Int} (hk : k ≠ 0) (st : St) : rem toks (kindP toks k st).2 ≤ rem toks st := by
  unfold kindP
  split
  · exact rem_fail _ _ _
  · rename_i h
    have : tk (nowS toks st) = k := by simpa using h
    exact Nat.le_of_lt (rem_now (by omega))
theorem rem_name (toks : List D) (st : St) : rem toks (nameP toks st).2 ≤ rem toks st := by
  unfold nameP
  split
  · exact rem_fail _ _ _
  · rename_i h
    simp only [Bool.or_eq_true, not_or, bne_iff_ne, ne_eq, Decidable.not_not] at h
    exact Nat.le_of_lt (rem_now (by omega))
theorem firstP_is {toks : List D} {st : St} : ∀ {ws : List (List UInt8)} {w : List UInt8}, firstP toks st ws = some w → isP toks st w = true
  | [], w, h => by cases h
  | x :: r, w, h => by
    simp only [firstP] at h
    split at h
    · injection h with h; subst h; assumption
    · exact firstP_is h
theorem rem_one (toks : List D) (ws : List (List UInt8)) (st : St) : rem toks (oneP toks ws st).2 ≤ rem toks st := by
  unfold oneP
  split
  · rename_i w h; exact Nat.le_of_lt (rem_may (firstP_is h))
  · exact rem_fail _ _ _
theorem rem_attr (toks : List D) (st : St) : rem toks (attrP toks st).2.2 ≤ rem toks st := by
  unfold attrP
  exact Nat.le_trans (rem_name _ _) (Nat.le_trans (rem_must _ _ _) (rem_one _ _ _))
theorem rem_lit (toks : List D) (st : St) : rem toks (literalP toks st).2.2 ≤ rem toks st := by
  unfold literalP
  split
  · rename_i h; have : tk (nowS toks st) = 2 := by simpa using h
    exact Nat.le_of_lt (rem_now (by omega))
  split
  · rename_i h; have : tk (nowS toks st) = 3 := by simpa using h
    exact Nat.le_of_lt (rem_now (by omega))
  split
  · rename_i h; have : tk (nowS toks st) = 4 := by simpa using h
    exact Nat.le_of_lt (rem_now (by omega))
  split
  · rename_i h
    simp only [Bool.or_eq_true] at h
    rcases h with h | h <;> exact Nat.le_of_lt (rem_may h)
  · exact Nat.le_refl _
theorem rem_item (toks : List D) (st : St) : rem toks (itemP toks st).2 ≤ rem toks st := by
  unfold itemP
  split
  · rename_i h; exact Nat.le_trans (rem_kind _ (by decide) _) (Nat.le_of_lt (rem_may h))
  split
  · exact rem_lit _ _
  · exact Nat.le_trans (rem_fail _ _ _) (rem_lit _ _)
theorem bagL_tot (toks : List D) : ∀ (f : Nat) (out : List D) (st : St), rem toks st < f → ∃ o st2, bagL toks f out st = some (o, st2) ∧ rem toks st2 ≤ rem toks st
  | 0, _, _, h => by omega
  | f + 1, out, st, h => by
    simp only [bagL]
    split
    · rename_i g
      have h1 := rem_may g
      have h2 := rem_item toks (st.1 + 1, st.2)
      obtain ⟨o, st2, e, k⟩ := bagL_tot toks f (out ++ [(itemP toks (st.1 + 1, st.2)).1]) (itemP toks (st.1 + 1, st.2)).2 (by omega)
      exact ⟨o, st2, e, by omega⟩
    · exact ⟨out, st, rfl, Nat.le_refl _⟩
theorem bagP_tot (toks : List D) {f fr : Nat} {st : St} (h : rem toks st < f) : ∃ x st2, bagP toks f fr st = some (x, st2) ∧ rem toks st2 ≤ rem toks st := by
  have h1 := rem_item toks st
  obtain ⟨o, st1, e, k⟩ := bagL_tot toks f [(itemP toks st).1] (itemP toks st).2 (by omega)
  unfold bagP
  rw [e]
  have h2 := rem_must toks [93] st1
  simp only
  split
  · exact ⟨_, _, rfl, by omega⟩
  · refine ⟨_, _, rfl, ?_⟩
    split
    · exact Nat.le_trans (rem_fail _ _ _) (by omega)
    · omega
def tot (toks : List D) (P : Part) (r : Nat) : Prop := ∀ st, rem toks st ≤ r → ∃ x st2, P toks st = some (x, st2) ∧ rem toks st2 ≤ rem toks st
theorem rowL_tot {toks : List D} {P : Part} {r : Nat} (hP : tot toks P r) (bs : List (List UInt8)) : ∀ (f : Nat) (x : D) (st : St), rem toks st ≤ r → rem toks st < f → ∃ y st2, rowL toks P bs f x st = some (y, st2) ∧ rem toks st2 ≤ rem toks st
  | 0, _, _, _, h => by omega
  | f + 1, x, st, hr, h => by
    simp only [rowL]
    split
    · exact ⟨x, st, rfl, Nat.le_refl _⟩
    · split
      · exact ⟨x, st, rfl, Nat.le_refl _⟩
      · rename_i w hw
        have h1 := rem_may (firstP_is hw)
        obtain ⟨y, st2, e, k⟩ := hP (st.1 + 1, st.2) (by omega)
        rw [e]
        obtain ⟨z, st3, e3, k3⟩ := rowL_tot hP bs f (twoD w x y) st2 (by omega) (by omega)
        exact ⟨z, st3, e3, by omega⟩
theorem rowP_tot {toks : List D} {P : Part} {r : Nat} (hP : tot toks P r) (bs : List (List UInt8)) {f : Nat} (hf : r < f) : tot toks (fun toks st => rowP toks P bs f st) r := fun st hr => by
  obtain ⟨x, st1, e, k⟩ := hP st hr
  obtain ⟨y, st2, e2, k2⟩ := rowL_tot hP bs f x st1 (by omega) (by omega)
  refine ⟨y, st2, ?_, by omega⟩
  simp only [rowP, e]; exact e2
def rank : Lv → Nat
  | .plain => 1 | .unary => 2 | .prod => 3 | .sum => 4 | .cmp => 5 | .not => 6 | .and => 7 | .expr => 8 | .inner => 10
theorem oneS_tot {op : List UInt8} {toks : List D} {z : Option (D × St)} {n : Nat} (h : ∃ x st2, z = some (x, st2) ∧ rem toks st2 ≤ n) : ∃ x st2, oneS op z = some (x, st2) ∧ rem toks st2 ≤ n := by
  obtain ⟨x, st2, rfl, k⟩ := h
  exact ⟨_, _, rfl, k⟩
theorem lv_tot (toks : List D) : ∀ (r f : Nat) (lv : Lv), 16 * r + rank lv < f → tot toks (pLv f lv) r := by
  intro r
  induction r using Nat.strongRecOn with
  | ind r ih =>
  -- the levels, one after the other
  have inn1 : ∀ f st, 16 * r + 2 ≤ f + 1 → rem toks st ≤ r → isP toks st [40] = true → ∃ x st2, pLv f .inner toks st = some (x, st2) ∧ rem toks st2 ≤ rem toks st := by
    intro f st hf hr hp
    have h1 := rem_must_lt hp
    cases f with
    | zero => omega
    | succ f =>
      obtain ⟨x, st2, e, k⟩ := ih (r - 1) (by omega) f .expr (by simp only [rank]; omega) (mustP toks [40] st) (by omega)
      refine ⟨x, mustP toks [41] st2, ?_, ?_⟩
      · simp only [pLv, e, innS]
      · have := rem_must toks [41] st2; omega
  have inn2 : ∀ f st, 16 * r + 2 ≤ f + 1 → rem toks st < r → ∃ x st2, pLv f .inner toks st = some (x, st2) ∧ rem toks st2 ≤ rem toks st := by
    intro f st hf hr
    exact ih (r - 1) (by omega) f .inner (by simp only [rank]; omega) st (by omega)
  have hplain : ∀ f, 16 * r + 1 < f → tot toks (pLv f .plain) r := by
    intro f hf st hr
    cases f with
    | zero => omega
    | succ f =>
      simp only [pLv, plainP]
      split
      · exact ⟨_, _, rfl, rem_lit _ _⟩
      split
      · rename_i h; exact ⟨_, _, rfl, Nat.le_of_lt (rem_may h)⟩
      split
      · rename_i h; exact inn1 f st (by omega) hr h
      split
      · rename_i h
        have h1 := rem_may h
        obtain ⟨x, st2, e, k⟩ := bagP_tot toks (f := f) (fr := st.1) (st := (st.1 + 1, st.2)) (by omega)
        exact ⟨x, st2, e, by omega⟩
      split
      · rename_i h
        have h1 := rem_may h
        refine oneS_tot ?_
        obtain ⟨x, st2, e, k⟩ := inn2 f (st.1 + 1, st.2) (by omega) (by omega)
        exact ⟨x, st2, e, by omega⟩
      split
      · rename_i h
        refine ⟨_, _, rfl, ?_⟩
        have h1 := rem_may h
        have h2 := rem_must toks [40] (st.1 + 1, st.2)
        have h3 := rem_kind toks (k := 3) (by decide) (mustP toks [40] (st.1 + 1, st.2))
        have h4 := rem_must toks [41] (kindP toks 3 (mustP toks [40] (st.1 + 1, st.2))).2
        omega
      split
      · rename_i h
        refine ⟨_, _, rfl, ?_⟩
        have h1 := rem_may h
        have h2 := rem_must toks [40] (st.1 + 1, st.2)
        have h3 := rem_attr toks (mustP toks [40] (st.1 + 1, st.2))
        have h4 := rem_must toks [41] (attrP toks (mustP toks [40] (st.1 + 1, st.2))).2.2
        omega
      · exact ⟨_, _, rfl, rem_attr _ _⟩
  have hunary : ∀ f, 16 * r + 2 < f → tot toks (pLv f .unary) r := by
    intro f hf st hr
    cases f with
    | zero => omega
    | succ f =>
      simp only [pLv]
      split
      · rename_i h
        have h1 := rem_may h
        refine oneS_tot ?_
        obtain ⟨x, st2, e, k⟩ := ih (r - 1) (by omega) f .unary (by simp only [rank]; omega) (st.1 + 1, st.2) (by omega)
        exact ⟨x, st2, e, by omega⟩
      · exact hplain f (by omega) st hr
  have hprod : ∀ f, 16 * r + 3 < f → tot toks (pLv f .prod) r := by
    intro f hf
    cases f with
    | zero => omega
    | succ f => exact rowP_tot (hunary f (by omega)) [[42]] (by omega)
  have hsum : ∀ f, 16 * r + 4 < f → tot toks (pLv f .sum) r := by
    intro f hf
    cases f with
    | zero => omega
    | succ f => exact rowP_tot (hprod f (by omega)) [[43], [45]] (by omega)
  have hcmp : ∀ f, 16 * r + 5 < f → tot toks (pLv f .cmp) r := by
    intro f hf st hr
    cases f with
    | zero => omega
    | succ f =>
      obtain ⟨x, st1, e, k⟩ := hsum f (by omega) st hr
      simp only [pLv, e, cmpS2]
      split
      · exact ⟨x, st1, rfl, k⟩
      · rename_i w hw
        have h1 := rem_may (firstP_is hw)
        obtain ⟨y, st2, e2, k2⟩ := hsum f (by omega) (st1.1 + 1, st1.2) (by omega)
        rw [e2]
        exact ⟨_, st2, rfl, by omega⟩
  have hnot : ∀ f, 16 * r + 6 < f → tot toks (pLv f .not) r := by
    intro f hf st hr
    cases f with
    | zero => omega
    | succ f =>
      simp only [pLv]
      split
      · rename_i h
        have h1 := rem_may h
        refine oneS_tot ?_
        obtain ⟨x, st2, e, k⟩ := ih (r - 1) (by omega) f .not (by simp only [rank]; omega) (st.1 + 1, st.2) (by omega)
        exact ⟨x, st2, e, by omega⟩
      · exact hcmp f (by omega) st hr
  have hand : ∀ f, 16 * r + 7 < f → tot toks (pLv f .and) r := by
    intro f hf
    cases f with
    | zero => omega
    | succ f => exact rowP_tot (hnot f (by omega)) [wAnd] (by omega)
  have hexpr : ∀ f, 16 * r + 8 < f → tot toks (pLv f .expr) r := by
    intro f hf
    cases f with
    | zero => omega
    | succ f => exact rowP_tot (hand f (by omega)) [wOr] (by omega)
  have hinner : ∀ f, 16 * r + 10 < f → tot toks (pLv f .inner) r := by
    intro f hf st hr
    cases f with
    | zero => omega
    | succ f =>
      have h1 := rem_must toks [40] st
      obtain ⟨x, st2, e, k⟩ := hexpr f (by omega) (mustP toks [40] st) (by omega)
      refine ⟨x, mustP toks [41] st2, by simp only [pLv, e, innS], ?_⟩
      have := rem_must toks [41] st2; omega
  intro f lv hf
  cases lv <;> simp only [rank] at hf
  · exact hexpr f hf
  · exact hand f hf
  · exact hnot f hf
  · exact hcmp f hf
  · exact hsum f hf
  · exact hprod f hf
  · exact hunary f hf
  · exact hplain f hf
  · exact hinner f hf
theorem expr_tot (toks : List D) (h : toks.length ≤ 600) : ∃ x st, pLv 10000 .expr toks (0, 0) = some (x, st) := by
  obtain ⟨x, st, e, _⟩ := lv_tot toks 600 10000 .expr (by simp only [rank]; omega) (0, 0) (by simp only [rem]; simp; omega)
  exact ⟨x, st, e⟩
end GP
set_option linter.unusedSimpArgs false
namespace GP
open Go Go.Proofs
set_option maxRecDepth 100000
def isVr (x : D) : Prop := x.isV = true ∧ -(2 ^ 63) ≤ vi x ∧ vi x < 2 ^ 63
def mkE (op : List UInt8) (k i : Int) (s : List UInt8) (nl : Bool) (l : List D) (who name : List UInt8) (m : Bool) (ps : List D) : D :=
  .agg [.str op, .int .i64 k, .int .i64 i, .str s, sliceD nl l, .str who, .str name, sliceD m ps]
def isE : Nat → D → Prop
  | 0, _ => False
  | n + 1, d => ∃ op k i s nl l who name m ps, d = mkE op k i s nl l who name m ps ∧ op.length ≤ 2 ^ 47 ∧ who.length ≤ 2 ^ 47 ∧ name.length ≤ 2 ^ 47 ∧ isVr (mkV k i s nl l) ∧ ps.length ≤ 2 ^ 47 ∧ ∀ x ∈ ps, isE n x
theorem mkV_erase {k i : Int} {s : List UInt8} {nl : Bool} {l : List D} (h : (mkV k i s nl l).isV = true) : D.eraseL l = l ∧ s.length ≤ 2 ^ 47 ∧ l.length ≤ 2 ^ 47 ∧ ∀ x ∈ l, x.isV = true := by
  obtain ⟨k', i', s', n', l', e, h1, h2, h3⟩ := isV_elim h
  have e1 := congrArg vs e
  have e2 := congrArg vl e
  simp only [vs_mk, vl_mk] at e1 e2
  subst e1; subst e2
  exact ⟨erase_of_isV h3, h1, h2, h3⟩
theorem isE_mono : ∀ {n : Nat} {d : D}, isE n d → isE (n + 1) d
  | 0, _, h => h.elim
  | _ + 1, _, ⟨op, k, i, s, nl, l, who, name, m, ps, e, h1, h2, h3, h4, h5, h6⟩ => ⟨op, k, i, s, nl, l, who, name, m, ps, e, h1, h2, h3, h4, h5, fun x hx => isE_mono (h6 x hx)⟩
theorem isE_erase : ∀ {n : Nat} {d : D}, isE n d → d.erase = d
  | 0, _, h => h.elim
  | n + 1, d, ⟨op, k, i, s, nl, l, who, name, m, ps, e, h1, h2, h3, h4, h5, h6⟩ => by
    subst e
    have hp : D.eraseL ps = ps := by
      rw [eraseL_map]
      exact (List.map_congr_left fun x hx => isE_erase (h6 x hx)).trans (List.map_id'' (fun _ => rfl) ps)
    simp [mkE, D.erase, D.eraseL, erase_sliceD, (mkV_erase h4.1).1, hp]
theorem isE_cells {n : Nat} {d : D} (h : isE n d) : d.cells.length = 8 ∧ d.cells.take 8 = d.cells ∧ D.agg d.cells = d ∧ d.okc = true := by
  cases n with
  | zero => exact h.elim
  | succ n =>
    obtain ⟨op, k, i, s, nl, l, who, name, m, ps, rfl, _⟩ := h
    exact ⟨rfl, rfl, rfl, rfl⟩
def eop : D → List UInt8
  | .agg (.str s :: _) => s
  | _ => []
def eV : D → D
  | .agg (_ :: a :: b :: c :: d :: _) => .agg [a, b, c, d]
  | _ => .top
def ewho : D → List UInt8
  | .agg (_ :: _ :: _ :: _ :: _ :: .str s :: _) => s
  | _ => []
def ename : D → List UInt8
  | .agg (_ :: _ :: _ :: _ :: _ :: _ :: .str s :: _) => s
  | _ => []
def eps : D → List D
  | .agg (_ :: _ :: _ :: _ :: _ :: _ :: _ :: l :: _) => elems l
  | _ => []
section
variable (op : List UInt8) (k i : Int) (s : List UInt8) (nl : Bool) (l : List D) (who name : List UInt8) (m : Bool) (ps : List D)
theorem eps_mk : eps (mkE op k i s nl l who name m ps) = ps := by simp only [eps, mkE, elems_sliceD]
end
def sVal : List UInt8 := [118, 97, 108, 117, 101]
def sNow : List UInt8 := [110, 111, 119]
def sAttr : List UInt8 := [97, 116, 116, 114]
def sHas : List UInt8 := [104, 97, 115]
def sRole : List UInt8 := [114, 111, 108, 101]
def sNot : List UInt8 := [110, 111, 116]
def sNeg : List UInt8 := [110, 101, 103]
def sSize : List UInt8 := [115, 105, 122, 101]
def sIn : List UInt8 := [105, 110]
theorem isE_elim {n : Nat} {d : D} (h : isE n d) : ∃ op k i s nl l who name m ps, d = mkE op k i s nl l who name m ps ∧ op.length ≤ 2 ^ 47 ∧ who.length ≤ 2 ^ 47 ∧ name.length ≤ 2 ^ 47 ∧ isVr (mkV k i s nl l) ∧ ps.length ≤ 2 ^ 47 ∧ (∀ x ∈ ps, isE (n - 1) x) ∧ D.eraseL l = l ∧ D.eraseL ps = ps := by
  cases n with
  | zero => exact h.elim
  | succ n =>
    obtain ⟨op, k, i, s, nl, l, who, name, m, ps, rfl, h1, h2, h3, h4, h5, h6⟩ := h
    exact ⟨op, k, i, s, nl, l, who, name, m, ps, rfl, h1, h2, h3, h4, h5, h6, (mkV_erase h4.1).1, eraseL_id fun x hx => isE_erase (h6 x hx)⟩
end GP
set_option linter.unusedSimpArgs false
namespace GP
open Go Go.Proofs
set_option maxRecDepth 100000
def big (l : List UInt8) : Bool := decide ((200 : Int) < l.length)
end GP
set_option linter.unusedSimpArgs false
namespace GP
open Go Go.Proofs
set_option maxRecDepth 100000
def mxd (f : D → Nat) (l : List D) : Nat := l.foldl (fun a x => max a (f x)) 0
theorem mxd_step {f : D → Nat} {l : List D} {j : Nat} {x : D} (h : l[j]? = some x) : mxd f (l.take (j + 1)) = max (mxd f (l.take j)) (f x) := by
  rw [List.take_add_one, h]; simp [mxd, List.foldl_append]
theorem mxd_le {f : D → Nat} {b : Nat} : ∀ {l : List D}, (∀ x ∈ l, f x ≤ b) → mxd f l ≤ b := by
  have key : ∀ (l : List D) (a : Nat), a ≤ b → (∀ x ∈ l, f x ≤ b) → l.foldl (fun a x => max a (f x)) a ≤ b := by
    intro l
    induction l with
    | nil => intro a h _; exact h
    | cons x l ih =>
      intro a h hx
      exact ih (max a (f x)) (by have := hx x (by simp); omega) fun y hy => hx y (by simp [hy])
  intro l h
  exact key l 0 (by omega) h
def dpt : Nat → D → Nat
  | 0, _ => 0
  | n + 1, e => mxd (dpt n) (eps e) + 1
theorem dpt_le : ∀ (n : Nat) (e : D), dpt n e ≤ n
  | 0, _ => Nat.le_refl _
  | n + 1, e => by
    simp only [dpt]
    have := mxd_le (f := dpt n) (b := n) (l := eps e) fun x _ => dpt_le n x
    omega
open Classical in
noncomputable def φdpt (n : Nat) : List D → Option D
  | [e] => if isE n e then some (.int .i64 ((dpt n e : Nat) : Int)) else none
  | _ => none
set_option maxHeartbeats 2000000 in
theorem ok26 : ∀ n, n ≤ 2 ^ 40 → OkAt Tryz.prog 26 (φdpt n)
  | 0, _ => fun args r h => by
    unfold φdpt at h
    split at h
    · split at h
      · rename_i h'; exact h'.elim
      · cases h
    · cases h
  | n + 1, hn => by
    refine ok_of (l := [(26, φdpt n)]) (.cons (ok26 n (by omega)) .nil) fn26 fun args r h => ?_
    unfold φdpt at h
    split at h
    · rename_i e
      split at h
      · rename_i he
        injection h with h; subst h
        refine ⟨by simp, by simp [D.cl], fun H T => ?_⟩
        obtain ⟨op, k, i, t, nl, l, who, name, m, ps, rfl, h1, h2, h3, h4, h5, h6, eL, eP⟩ := isE_elim he
        have h6 : ∀ x ∈ ps, isE n x := h6
        simp only [dpt, eps_mk]
        simp (config := { contextual := true, maxSteps := 10000000 }) only [c26, mkE, eL, eP, go_sem, Nat.reduceAdd, Nat.reduceSub, Nat.reduceMul, Nat.reduceEqDiff, Nat.reduceLeDiff, Nat.reduceLT, Int.reduceToNat, Int.reduceLE, Int.reduceLT, Int.reduceEq, Int.reduceNe, Int.reduceBEq, Int.reduceBNe, Nat.reduceBEq, Nat.reduceBNe, ↓reduceIte, reduceCtorEq, ↓reduceDIte, W_draw]
        refine W_for (fun j s' => s'.t 3 = .int .i64 ((mxd (dpt n) (ps.take j) : Nat) : Int) ∧ s'.t 7 = sliceD m ps ∧ s'.t 8 = .int .i64 ps.length ∧ s'.t 9 = .int .i64 j ∧ Ext H s'.H ∧ s'.T = T ∧ j ≤ ps.length) ps.length ⟨0, by simp [upd, argT, ext_of, mxd]⟩ (fun i s h => h.2.2.2.2.2.2) ?_ (XL_mono _)
        rintro j ⟨t', B, T'⟩ ⟨r3, r7, r8, r9, hE, rfl, hj⟩
        simp only at r3 r7 r8 r9 hE
        have hb := mxd_le (f := dpt n) (b := n) (l := ps.take j) fun x _ => dpt_le n x
        by_cases ha : j < ps.length
        · have d1 : decide ((j : Int) < ps.length) = true := by simpa using ha
          have hx := h6 _ (List.getElem_mem ha)
          have ex : ps[j]? = some ps[j] := by simp [ha]
          have hs := mxd_step (f := dpt n) ex
          generalize ps[j] = x at *
          have ee := isE_erase hx
          obtain ⟨q1, q2, q3, q4⟩ := isE_cells hx
          have px : φdpt n [x] = some (.int .i64 ((dpt n x : Nat) : Int)) := by simp only [φdpt]; rw [if_pos hx]
          rw [hs]
          simp (config := { contextual := true, maxSteps := 10000000 }) only [r3, r7, r8, r9, d1, ex, ee, q1, q2, q3, q4, px, wrap_succ j (by omega), hE.ta, go_sem, Nat.reduceAdd, Nat.reduceSub, Nat.reduceMul, Nat.reduceEqDiff, Nat.reduceLeDiff, Nat.reduceLT, Int.reduceToNat, Int.reduceLE, Int.reduceLT, Int.reduceEq, Int.reduceNe, Int.reduceBEq, Int.reduceBNe, Nat.reduceBEq, Nat.reduceBNe, ↓reduceIte, reduceCtorEq, ↓reduceDIte, W_draw]
          refine ⟨?_, by omega⟩
          split <;> (congr 1; omega)
        · have d1 : decide ((j : Int) < ps.length) = false := by simpa using ha
          have : j = ps.length := by omega
          subst this
          rw [List.take_length] at r3 hb
          have w : IntKind.i64.wrap (((mxd (dpt n) ps : Nat) : Int) + 1) = ((mxd (dpt n) ps + 1 : Nat) : Int) := by
            rw [show ((mxd (dpt n) ps : Nat) : Int) + 1 = ((mxd (dpt n) ps + 1 : Nat) : Int) by omega]; exact wrap_of _ (by omega) (by omega)
          simp (config := { contextual := true, maxSteps := 10000000 }) only [r3, r7, r8, r9, d1, w, leaves_E hE (ExtT.refl _), go_sem, Nat.reduceAdd, Nat.reduceSub, Nat.reduceMul, Nat.reduceEqDiff, Nat.reduceLeDiff, Nat.reduceLT, Int.reduceToNat, Int.reduceLE, Int.reduceLT, Int.reduceEq, Int.reduceNe, Int.reduceBEq, Int.reduceBNe, Nat.reduceBEq, Nat.reduceBNe, ↓reduceIte, reduceCtorEq, ↓reduceDIte, W_draw]
      · cases h
    · cases h
end GP
namespace GP
open Go
mutual
def D.ren (σ θ : Nat → Nat) : D → D
  | .sl t xs => .sl (t.map θ) (D.renL σ θ xs)
  | .el cs => .el (D.renL σ θ cs)
  | .agg cs => .agg (D.renL σ θ cs)
  | .tup cs => .tup (D.renL σ θ cs)
  | .fn f a b => .fn f (D.renL σ θ a) (D.renL σ θ b)
  | .ifc t d => .ifc t (D.ren σ θ d)
  | .ptr o off => .ptr (σ o) off
  | .mp o => .mp (σ o)
  | .ms ag z o off n cap => .ms ag z (σ o) off n cap
  | d => d
def D.renL (σ θ : Nat → Nat) : List D → List D
  | [] => []
  | d :: ds => D.ren σ θ d :: D.renL σ θ ds
end
section
variable {σ θ : Nat → Nat}
end
def RenOb (σ θ : Nat → Nat) (x y : Ob) : Prop :=
  (∃ cs cs', x = .row cs ∧ y = .row cs' ∧ cs'.length = cs.length ∧ (∀ d ∈ cs, d.one = true) ∧ ∀ i (h : i < cs.length) (h' : i < cs'.length), Crs cs'[i] ((cs[i]).ren σ θ)) ∨ (x = .dead) ∨ (x = .hole ∧ y = .hole)
structure RenTo (H : Hp) (T : Tk) (r2 : D) (H2 : Hp) (T2 : Tk) (r0 : D) (H1 : Hp) (T1 : Tk) (σ θ : Nat → Nat) : Prop where
  σ0 : ∀ o, o < H.length → σ o = o
  θ0 : ∀ τ, τ < T.length → θ τ = τ
  res : Crs r2 (r0.ren σ θ)
  ob : ∀ (o : Nat) x, H1[o]? = some x → ∃ y, H2[σ o]? = some y ∧ ((y = x ∧ H[o]? = some x) ∨ RenOb σ θ x y)
  σi : ∀ o o', o < H1.length → o' < H1.length → σ o = σ o' → o = o'
  θi : ∀ τ τ', τ < T1.length → τ' < T1.length → θ τ = θ τ' → τ = τ'
  tok : ∀ τ, τ < T1.length → T2[θ τ]? = T1[τ]?
  hl : H.length ≤ H1.length
  tl : T.length ≤ T1.length
theorem lt_of_get {α : Type} {l : List α} {i : Nat} {x : α} (h : l[i]? = some x) : i < l.length := by
  rcases Nat.lt_or_ge i l.length with h' | h'
  · exact h'
  · rw [List.getElem?_eq_none h'] at h; cases h
section
variable {P : Program}
end
variable {P : Program} [HasG P]
abbrev FsG := List (FuncId × (Hp → Tk → List D → Option (D × Hp × Tk)))
def lookG : FsG → Hp → Tk → FuncId → List D → Option (D × Hp × Tk)
  | [], _, _, _, _ => none
  | (g, φ) :: l, H, T, f, a => if f = g then φ H T a else lookG l H T f a
def inG : FsG → FuncId → Bool
  | [], _ => false
  | (g, _) :: l, f => decide (f = g) || inG l f
@[go_sem] theorem lookG_nil (H : Hp) (T : Tk) (f : FuncId) (a : List D) : lookG [] H T f a = none := id rfl
@[go_sem] theorem lookG_cons (g : FuncId) (φ : Hp → Tk → List D → Option (D × Hp × Tk)) (l : FsG) (H : Hp) (T : Tk) (f : FuncId) (a : List D) : lookG ((g, φ) :: l) H T f a = if f = g then φ H T a else lookG l H T f a := id rfl
@[go_sem] theorem inG_nil (f : FuncId) : inG [] f = false := id rfl
@[go_sem] theorem inG_cons (g : FuncId) (φ : Hp → Tk → List D → Option (D × Hp × Tk)) (l : FsG) (f : FuncId) : inG ((g, φ) :: l) f = (decide (f = g) || inG l f) := id rfl
def OkAtG (P : Program) [HasG P] (f : FuncId) (φ : Hp → Tk → List D → Option (D × Hp × Tk)) : Prop := ∀ H T args r H' T', φ H T args = some (r, H', T') → ∀ args', D.eraseL args' = args → ∀ (Q : Post), Q r H' T' → Snd P f args' H T Q
def OkG (P : Program) [HasG P] (m : FsG) : Prop := ∀ H T f args r H' T', lookG m H T f args = some (r, H', T') → ∀ args', D.eraseL args' = args → ∀ (Q : Post), Q r H' T' → Snd P f args' H T Q
theorem OkG.nil : OkG P [] := fun _ _ _ _ _ _ _ h => by simp [lookG] at h
theorem OkG.cons {f : FuncId} {φ : Hp → Tk → List D → Option (D × Hp × Tk)} {m : FsG} (h : OkAtG P f φ) (k : OkG P m) : OkG P ((f, φ) :: m) := by
  intro H T g args r H' T' hr
  simp only [lookG] at hr
  split at hr
  · rename_i e; subst e; exact h H T args r H' T' hr
  · exact k H T g args r H' T' hr
def inU : List FuncId → FuncId → Bool
  | [], _ => false
  | g :: l, f => decide (f = g) || inU l f
@[go_sem] theorem inU_nil (f : FuncId) : inU [] f = false := id rfl
@[go_sem] theorem inU_cons (g : FuncId) (l : List FuncId) (f : FuncId) : inU (g :: l) f = (decide (f = g) || inU l f) := id rfl
def XG (P : Program) [HasG P] (u : List FuncId) (l : Fs) (m : FsH) (e : FsE) (g : FsG) : Pred := fun f a H T Q =>
  if inU u f = true then Snd P f a H T Q else match look l f (D.eraseL a) with
  | some r => Q r H T
  | none => match lookH m H f (D.eraseL a) with
    | some r => Q r H T
    | none => match lookE e H f (D.eraseL a) with
      | some (r, H') => Q r H' T
      | none => match lookG g H T f (D.eraseL a) with
        | some (r, H', T') => Q r H' T'
        | none => False
theorem XG.X {u : List FuncId} {l : Fs} {m : FsH} {e : FsE} {g : FsG} (k : Ok P l) (k' : OkH P m) (k'' : OkE P e) (k3 : OkG P g) : ∀ f args H T Q Q', (∀ r H T, Q r H T → Q' r H T) → XG P u l m e g f args H T Q → Snd P f args H T Q' := by
  intro f args H T Q Q' hQ h
  unfold XG at h
  split at h
  · exact Snd.mono _ _ _ _ _ _ hQ h
  · split at h
    · rename_i r hr
      exact k f _ r hr args rfl H T Q' (hQ _ _ _ h)
    · split at h
      · rename_i r hr
        exact k' H f _ r hr args rfl T Q' (hQ _ _ _ h)
      · split at h
        · rename_i r H' hr
          exact k'' H f _ r H' hr args rfl T Q' (hQ _ _ _ h)
        · split at h
          · rename_i r H' T' hr
            exact k3 H T f _ r H' T' hr args rfl Q' (hQ _ _ _ h)
          · exact h.elim
def orG (Q : Post) : Option (D × Hp × Tk) → Prop
  | some (r, H', T') => Q r H' T'
  | none => False
def orY (Q : Post) (H : Hp) (T : Tk) : Option D → Option D → Option (D × Hp) → Option (D × Hp × Tk) → Prop
  | some r, _, _, _ => Q r H T
  | none, some r, _, _ => Q r H T
  | none, none, some (r, H'), _ => Q r H' T
  | none, none, none, x => orG Q x
@[go_sem] theorem XG_eq (u : List FuncId) (l : Fs) (m : FsH) (e : FsE) (g : FsG) (f : FuncId) (args : List D) (H : Hp) (T : Tk) (Q : Post) : XG P u l m e g f args H T Q = if inU u f = true then Snd P f args H T Q else orY Q H T (look l f (D.eraseL args)) (lookH m H f (D.eraseL args)) (lookE e H f (D.eraseL args)) (lookG g H T f (D.eraseL args)) := by
  unfold XG
  congr 1
  cases look l f (D.eraseL args) with
  | some r => rfl
  | none =>
    cases lookH m H f (D.eraseL args) with
    | some r => rfl
    | none =>
      cases lookE e H f (D.eraseL args) with
      | some x => rfl
      | none =>
        cases lookG g H T f (D.eraseL args) with
        | some x => rfl
        | none => rfl
@[go_sem] theorem orY_s (Q : Post) (H : Hp) (T : Tk) (r : D) (x : Option D) (y : Option (D × Hp)) (z : Option (D × Hp × Tk)) : orY Q H T (some r) x y z = Q r H T := id rfl
@[go_sem] theorem orY_n (Q : Post) (H : Hp) (T : Tk) (r : D) (y : Option (D × Hp)) (z : Option (D × Hp × Tk)) : orY Q H T none (some r) y z = Q r H T := id rfl
@[go_sem] theorem orY_e (Q : Post) (H : Hp) (T : Tk) (r : D) (H' : Hp) (z : Option (D × Hp × Tk)) : orY Q H T none none (some (r, H')) z = Q r H' T := id rfl
@[go_sem] theorem orY_g (Q : Post) (H : Hp) (T : Tk) (z : Option (D × Hp × Tk)) : orY Q H T none none none z = orG Q z := id rfl
@[go_sem] theorem orG_s (Q : Post) (r : D) (H' : Hp) (T' : Tk) : orG Q (some (r, H', T')) = Q r H' T' := id rfl
end GP
set_option linter.unusedSimpArgs false
namespace GP
open Go Go.Proofs
set_option maxRecDepth 100000
def inB (l : List (List UInt8)) (s : List UInt8) : Bool := l.any fun x => x == s
def nameB (s : List UInt8) : Bool := formI 1 s 0 && !inB keptW s
def plainW : List (List UInt8) := [[118, 97, 108, 117, 101], [110, 111, 119], [97, 116, 116, 114], [104, 97, 115], [114, 111, 108, 101], [115, 105, 122, 101]]
def stI (op : List UInt8) : Int :=
  if inB [wOr] op then 0 else if inB [wAnd] op then 1 else if inB cmpW op then 3 else if inB [[43], [45]] op then 4 else if inB [[42]] op then 5 else if op == wNot then 2 else if op == wNeg then 6 else if inB plainW op then 7 else -1
end GP
namespace GP
open Go
variable {X : Pred} {Q : Ex → S → Prop}
def C.hd : Nat → C → C
  | 0, _ => .skip
  | n + 1, .seq a b => .seq a (b.hd n)
  | _ + 1, c => c
def C.tl : Nat → C → C
  | 0, c => c
  | n + 1, .seq _ b => b.tl n
  | _ + 1, _ => .skip
@[go_sem] theorem hd_0 (c : C) : C.hd 0 c = .skip := id rfl
@[go_sem] theorem hd_s (n : Nat) (a b : C) : C.hd (n + 1) (.seq a b) = .seq a (b.hd n) := id rfl
@[go_sem] theorem tl_0 (c : C) : C.tl 0 c = c := id rfl
@[go_sem] theorem tl_s (n : Nat) (a b : C) : C.tl (n + 1) (.seq a b) = b.tl n := id rfl
end GP
set_option linter.unusedSimpArgs false
namespace GP
open Go Go.Proofs
set_option maxRecDepth 100000
def litB (v : D) (b : Bool) : Bool := if vk v == 2 then decide (0 ≤ vi v) || (b && decide (-9223372036854775808 < vi v)) else (vk v == 1) || (vk v == 4) || ((vk v == 3) && formI 3 (vs v) 0)
def valB (v : D) : Bool := if !formedB v then false else if vk v != 5 then litB v false else (vl v).all (fun x => litB x true) && decide (0 < (vl v).length)
def arN (op : List UInt8) : Int := if (stI op == 0) || (stI op == 1) || (decide (3 ≤ stI op) && decide (stI op ≤ 5)) then 2 else if (stI op == 2) || (stI op == 6) || (op == sSize) then 1 else 0
def fmTop (e : D) : Bool :=
  if eop e == sVal then valB (eV e) && (ewho e == []) && (ename e == []) else
  if !sameB (eV e) zeroV then false else
  if (eop e == sAttr) || (eop e == sHas) then inB whoW (ewho e) && nameB (ename e) else
  if eop e == sRole then (ewho e == []) && formI 3 (ename e) 0 else (ewho e == []) && (ename e == [])
def fmR : Nat → D → Bool
  | 0, _ => false
  | n + 1, e => if decide (stI (eop e) < 0) || (((eps e).length : Int) != arN (eop e)) then false else if !(eps e).all (fmR n) then false else fmTop e
theorem stI_cases (op : List UInt8) : stI op = 0 ∨ stI op = 1 ∨ stI op = 3 ∨ stI op = 4 ∨ stI op = 5 ∨ stI op = 2 ∨ stI op = 6 ∨ stI op = 7 ∨ stI op = -1 := by
  unfold stI; (repeat' split) <;> simp
theorem arN_of {op : List UInt8} : (stI op = 0 → arN op = 2) ∧ (stI op = 1 → arN op = 2) ∧ (stI op = 3 → arN op = 2) ∧ (stI op = 4 → arN op = 2) ∧ (stI op = 5 → arN op = 2) ∧ (stI op = 2 → arN op = 1) ∧ (stI op = 6 → arN op = 1) ∧ (stI op = 7 → arN op = if op == sSize then 1 else 0) := by
  refine ⟨?_, ?_, ?_, ?_, ?_, ?_, ?_, ?_⟩ <;> intro h <;> simp only [arN, h] <;> first | rfl | (cases op == sSize <;> rfl)
end GP
set_option linter.unusedSimpArgs false
namespace GP
open Go Go.Proofs
set_option maxRecDepth 100000
section
variable {P : Program} [HasG P]
def φOwn (z : Nat) (f : List D → Option (List D)) : Hp → Tk → List D → Option (D × Hp × Tk) := fun H T a => match f a with
  | some xs => some (.sl (some T.length) xs, H, T ++ [some (xs.length, z)])
  | none => none
end
def tC : D := mkT 5 [44] 0
def litT1 (v : D) : List D :=
  if vk v == 1 then (if vi v == 1 then [mkT 1 wTrue 0] else [mkT 1 wFalse 0]) else
  if vk v == 2 then (if decide (vi v < 0) then [mkT 5 [45] 0, mkT 2 [] (IntKind.i64.wrap (0 - vi v))] else [mkT 2 [] (vi v)]) else
  if vk v == 3 then [mkT 3 (vs v) 0] else [mkT 4 [] (vi v)]
def leaf1 (v : D) : Bool := (vk v == 1) || (vk v == 2) || (vk v == 3) || (vk v == 4)
def cmL (f : D → List D) (l : List D) : List D := ((l.map fun x => tC :: f x).flatten).drop 1
def litT (v : D) : List D := if leaf1 v then litT1 v else mkT 5 [91] 0 :: (cmL litT1 (vl v) ++ [mkT 5 [93] 0])
def isTks (l : List D) : Prop := ∀ x ∈ l, ∃ k s n, x = mkT k s n
theorem isTks.fit {l : List D} (h : isTks l) : l.all (fit 3) = true := List.all_eq_true.2 fun x hx => by
  obtain ⟨k, s, n, rfl⟩ := h x hx; rfl
theorem isTks.cl {l : List D} (h : isTks l) (i j : Nat) : D.clL i j l = true := clL_of fun x hx => by
  obtain ⟨k, s, n, rfl⟩ := h x hx; simp [mkT, D.cl, D.clL]
theorem isTks.erase {l : List D} (h : isTks l) : D.eraseL l = l := eraseL_id fun x hx => by
  obtain ⟨k, s, n, rfl⟩ := h x hx; simp [mkT, D.erase, D.eraseL]
theorem isTks.app {l m : List D} (h : isTks l) (k : isTks m) : isTks (l ++ m) := fun x hx => by
  rcases List.mem_append.1 hx with h' | h'
  · exact h x h'
  · exact k x h'
theorem isTks.cons {l : List D} (k : Int) (s : List UInt8) (n : Int) (h : isTks l) : isTks (mkT k s n :: l) := fun x hx => by
  rcases List.mem_cons.1 hx with rfl | h'
  · exact ⟨_, _, _, rfl⟩
  · exact h x h'
theorem isTks.nil : isTks [] := fun _ h => by cases h
end GP
set_option linter.unusedSimpArgs false
namespace GP
open Go Go.Proofs
set_option maxRecDepth 100000
section
variable {P : Program} [HasG P]
theorem OkAtG.pure {z : Nat} {f : FuncId} {φ : List D → Option (List D)} (h : OkAtG P f (φOwn z φ)) (hx : ∀ a xs, φ a = some xs → D.clL 0 0 xs = true ∧ D.eraseL xs = xs) : OkAt P f (fun a => (φ a).map (.sl none)) := by
  intro args r hr args' he H T Q hQ
  change (φ args).map (.sl none) = some r at hr
  cases ha : φ args with
  | none => rw [ha] at hr; cases hr
  | some xs =>
    rw [ha] at hr; simp only [Option.map_some, Option.some.injEq] at hr
    subst hr
    obtain ⟨h1, h2⟩ := hx args xs ha
    have hS := h H T args (.sl (some T.length) xs) H (T ++ [some (xs.length, z)]) (by simp only [φOwn, ha]) args' he (fun r H' T' => r.erase = .sl none xs ∧ (∃ L, H' = H ++ L) ∧ ∃ U, T' = T ++ U) ⟨by simp only [D.erase, h2], ⟨[], by simp⟩, ⟨_, rfl⟩⟩
    intro c w vs kg k1 k2 k3
    have hcl : (D.sl none xs).cl H.length T.length = true := by
      simp only [D.cl, Bool.true_and]
      exact D.clL_mono (Nat.zero_le _) (Nat.zero_le _) xs h1
    rcases hS c w vs kg k1 k2 k3 with ⟨g1, g2⟩ | ⟨v, w', g1, g2⟩
    · exact .inl ⟨g1, g2.mono fun e w' k => CallPost.forget k1 k2 hcl hQ k⟩
    · exact .inr ⟨v, w', g1, CallPost.forget k1 k2 hcl hQ g2⟩
end
def tP : D := mkT 5 [40] 0
def tQ : D := mkT 5 [41] 0
def parW (full : Bool) (s least : Int) (l : List D) : List D := if decide (least ≤ s) && (!full || (s == 7)) then l else tP :: (l ++ [tQ])
def opW : List (List UInt8) := [wOr, wAnd, sIn]
def opTok (op : List UInt8) : D := if inB opW op then mkT 1 op 0 else mkT 5 op 0
def lstS (op : List UInt8) : Int := if stI op == 3 then 4 else stI op
def sub0 (e : D) : D := (eps e).getD 0 .top
def sub1 (e : D) : D := (eps e).getD 1 .top
def tokD : Nat → Bool → D → List D
  | 0, _, _ => []
  | n + 1, full, e =>
    if eop e == sVal then litT (eV e) else
    if eop e == sNow then [mkT 1 sNow 0] else
    if eop e == sAttr then [mkT 1 (ewho e) 0, mkT 5 [46] 0, mkT 1 (ename e) 0] else
    if eop e == sHas then [mkT 1 sHas 0, tP, mkT 1 (ewho e) 0, mkT 5 [46] 0, mkT 1 (ename e) 0, tQ] else
    if eop e == sRole then [mkT 1 sRole 0, tP, mkT 3 (ename e) 0, tQ] else
    if eop e == sSize then [mkT 1 sSize 0, tP] ++ (tokD n full (sub0 e) ++ [tQ]) else
    if eop e == sNot then mkT 1 sNot 0 :: parW full (stI (eop (sub0 e))) 2 (tokD n full (sub0 e)) else
    if eop e == sNeg then mkT 5 [45] 0 :: parW full (stI (eop (sub0 e))) 6 (tokD n full (sub0 e)) else
    parW full (stI (eop (sub0 e))) (lstS (eop e)) (tokD n full (sub0 e)) ++ (opTok (eop e) :: parW full (stI (eop (sub1 e))) (stI (eop e) + 1) (tokD n full (sub1 e)))
theorem fmR_s {n : Nat} {e : D} (h : fmR (n + 1) e = true) : 0 ≤ stI (eop e) ∧ ((eps e).length : Int) = arN (eop e) ∧ (∀ x ∈ eps e, fmR n x = true) ∧ fmTop e = true := by
  simp only [fmR] at h
  split at h
  · cases h
  · rename_i h1
    split at h
    · cases h
    · rename_i h2
      simp only [Bool.or_eq_true, decide_eq_true_eq, bne_iff_ne, ne_eq, not_or, Decidable.not_not] at h1
      simp only [Bool.not_eq_true', Bool.not_eq_false] at h2
      exact ⟨by omega, h1.2, fun x hx => List.all_eq_true.1 h2 x hx, h⟩
theorem stI_2 {op : List UInt8} (h : stI op = 2) : op = wNot := by
  unfold stI at h; (repeat' split at h) <;> simp_all
theorem stI_6 {op : List UInt8} (h : stI op = 6) : op = wNeg := by
  unfold stI at h; (repeat' split at h) <;> simp_all
theorem stI_7 {op : List UInt8} (h : stI op = 7) : inB plainW op = true := by
  unfold stI at h; (repeat' split at h) <;> simp_all
section
variable {n : Nat} {full : Bool} {e : D}
theorem tokD_val (g1 : (eop e == sVal) = true) : tokD (n + 1) full e = litT (eV e) := by simp only [tokD]; rw [if_pos g1]
theorem tokD_now (g1 : (eop e == sVal) = false) (g2 : (eop e == sNow) = true) : tokD (n + 1) full e = [mkT 1 sNow 0] := by
  simp only [tokD]; rw [if_neg (by rw [g1]; decide), if_pos g2]
theorem tokD_attr (g1 : (eop e == sVal) = false) (g2 : (eop e == sNow) = false) (g3 : (eop e == sAttr) = true) : tokD (n + 1) full e = [mkT 1 (ewho e) 0, mkT 5 [46] 0, mkT 1 (ename e) 0] := by
  simp only [tokD]; rw [if_neg (by rw [g1]; decide), if_neg (by rw [g2]; decide), if_pos g3]
theorem tokD_has (g1 : (eop e == sVal) = false) (g2 : (eop e == sNow) = false) (g3 : (eop e == sAttr) = false) (g4 : (eop e == sHas) = true) : tokD (n + 1) full e = [mkT 1 sHas 0, tP, mkT 1 (ewho e) 0, mkT 5 [46] 0, mkT 1 (ename e) 0, tQ] := by
  simp only [tokD]; rw [if_neg (by rw [g1]; decide), if_neg (by rw [g2]; decide), if_neg (by rw [g3]; decide), if_pos g4]
theorem tokD_role (g1 : (eop e == sVal) = false) (g2 : (eop e == sNow) = false) (g3 : (eop e == sAttr) = false) (g4 : (eop e == sHas) = false) (g5 : (eop e == sRole) = true) : tokD (n + 1) full e = [mkT 1 sRole 0, tP, mkT 3 (ename e) 0, tQ] := by
  simp only [tokD]; rw [if_neg (by rw [g1]; decide), if_neg (by rw [g2]; decide), if_neg (by rw [g3]; decide), if_neg (by rw [g4]; decide), if_pos g5]
theorem tokD_size (g1 : (eop e == sVal) = false) (g2 : (eop e == sNow) = false) (g3 : (eop e == sAttr) = false) (g4 : (eop e == sHas) = false) (g5 : (eop e == sRole) = false) (g6 : (eop e == sSize) = true) : tokD (n + 1) full e = mkT 1 sSize 0 :: tP :: (tokD n full (sub0 e) ++ [tQ]) := by
  simp only [tokD]; rw [if_neg (by rw [g1]; decide), if_neg (by rw [g2]; decide), if_neg (by rw [g3]; decide), if_neg (by rw [g4]; decide), if_neg (by rw [g5]; decide), if_pos g6]; rfl
theorem tokD_not (g1 : (eop e == sVal) = false) (g2 : (eop e == sNow) = false) (g3 : (eop e == sAttr) = false) (g4 : (eop e == sHas) = false) (g5 : (eop e == sRole) = false) (g6 : (eop e == sSize) = false) (g7 : (eop e == sNot) = true) :
    tokD (n + 1) full e = mkT 1 sNot 0 :: parW full (stI (eop (sub0 e))) 2 (tokD n full (sub0 e)) := by
  simp only [tokD]; rw [if_neg (by rw [g1]; decide), if_neg (by rw [g2]; decide), if_neg (by rw [g3]; decide), if_neg (by rw [g4]; decide), if_neg (by rw [g5]; decide), if_neg (by rw [g6]; decide), if_pos g7]
theorem tokD_neg (g1 : (eop e == sVal) = false) (g2 : (eop e == sNow) = false) (g3 : (eop e == sAttr) = false) (g4 : (eop e == sHas) = false) (g5 : (eop e == sRole) = false) (g6 : (eop e == sSize) = false) (g7 : (eop e == sNot) = false) (g8 : (eop e == sNeg) = true) :
    tokD (n + 1) full e = mkT 5 [45] 0 :: parW full (stI (eop (sub0 e))) 6 (tokD n full (sub0 e)) := by
  simp only [tokD]; rw [if_neg (by rw [g1]; decide), if_neg (by rw [g2]; decide), if_neg (by rw [g3]; decide), if_neg (by rw [g4]; decide), if_neg (by rw [g5]; decide), if_neg (by rw [g6]; decide), if_neg (by rw [g7]; decide), if_pos g8]
theorem tokD_two (g1 : (eop e == sVal) = false) (g2 : (eop e == sNow) = false) (g3 : (eop e == sAttr) = false) (g4 : (eop e == sHas) = false) (g5 : (eop e == sRole) = false) (g6 : (eop e == sSize) = false) (g7 : (eop e == sNot) = false) (g8 : (eop e == sNeg) = false) :
    tokD (n + 1) full e = parW full (stI (eop (sub0 e))) (lstS (eop e)) (tokD n full (sub0 e)) ++ (opTok (eop e) :: parW full (stI (eop (sub1 e))) (stI (eop e) + 1) (tokD n full (sub1 e))) := by
  simp only [tokD]; rw [if_neg (by rw [g1]; decide), if_neg (by rw [g2]; decide), if_neg (by rw [g3]; decide), if_neg (by rw [g4]; decide), if_neg (by rw [g5]; decide), if_neg (by rw [g6]; decide), if_neg (by rw [g7]; decide), if_neg (by rw [g8]; decide)]
end
theorem eq_of_beq' {a b : List UInt8} (h : (a == b) = true) : a = b := by simpa using h
theorem two_op {op : List UInt8} (h0 : 0 ≤ stI op) (g1 : (op == sVal) = false) (g2 : (op == sNow) = false) (g3 : (op == sAttr) = false) (g4 : (op == sHas) = false) (g5 : (op == sRole) = false) (g6 : (op == sSize) = false) (g7 : (op == sNot) = false) (g8 : (op == sNeg) = false) :
    (stI op = 0 ∨ stI op = 1 ∨ stI op = 3 ∨ stI op = 4 ∨ stI op = 5) ∧ arN op = 2 := by
  have hA := arN_of (op := op)
  rcases stI_cases op with h | h | h | h | h | h | h | h | h
  · exact ⟨.inl h, hA.1 h⟩
  · exact ⟨.inr (.inl h), hA.2.1 h⟩
  · exact ⟨.inr (.inr (.inl h)), hA.2.2.1 h⟩
  · exact ⟨.inr (.inr (.inr (.inl h))), hA.2.2.2.1 h⟩
  · exact ⟨.inr (.inr (.inr (.inr h))), hA.2.2.2.2.1 h⟩
  · rw [stI_2 h] at g7; cases g7
  · rw [stI_6 h] at g8; cases g8
  · have := stI_7 h
    simp only [inB, plainW, List.any_cons, List.any_nil, Bool.or_false, Bool.or_eq_true] at this
    have sw : ∀ a b : List UInt8, (a == b) = true → (b == a) = true := fun a b h => by simp only [beq_iff_eq] at h ⊢; exact h.symm
    rcases this with t | t | t | t | t | t
    · rw [show (op == sVal) = true from sw _ _ t] at g1; cases g1
    · rw [show (op == sNow) = true from sw _ _ t] at g2; cases g2
    · rw [show (op == sAttr) = true from sw _ _ t] at g3; cases g3
    · rw [show (op == sHas) = true from sw _ _ t] at g4; cases g4
    · rw [show (op == sRole) = true from sw _ _ t] at g5; cases g5
    · rw [show (op == sSize) = true from sw _ _ t] at g6; cases g6
  · omega
end GP
set_option linter.unusedSimpArgs false
namespace GP
open Go Go.Proofs
set_option maxRecDepth 100000
theorem isE_le {n m : Nat} (h : n ≤ m) {d : D} (hd : isE n d) : isE m d := by
  induction h with
  | refl => exact hd
  | step _ ih => exact isE_mono ih
theorem isE_of {m : Nat} {op : List UInt8} {k i : Int} {s : List UInt8} {nl : Bool} {l : List D} {who name : List UInt8} {q : Bool} {ps : List D} (h1 : op.length ≤ 2 ^ 47) (h2 : who.length ≤ 2 ^ 47) (h3 : name.length ≤ 2 ^ 47) (h4 : isVr (mkV k i s nl l)) (h5 : ps.length ≤ 2 ^ 47) (h6 : ∀ x ∈ ps, isE m x) :
    isE (m + 1) (mkE op k i s nl l who name q ps) := ⟨op, k, i, s, nl, l, who, name, q, ps, rfl, h1, h2, h3, h4, h5, h6⟩
theorem zero_isVr : isVr (mkV 0 0 [] true []) := ⟨by decide, by decide, by decide⟩
theorem two_isE {m : Nat} {op : List UInt8} {x y : D} (ho : op.length ≤ 2 ^ 47) (hx : isE m x) (hy : isE m y) : isE (m + 1) (twoD op x y) :=
  isE_of (m := m) (op := op) (k := 0) (i := 0) (s := []) (nl := true) (l := []) (who := []) (name := []) (q := false) (ps := [x, y]) ho (by simp) (by simp) zero_isVr (by simp) (fun z hz => by
    simp only [List.mem_cons, List.not_mem_nil, or_false] at hz
    rcases hz with rfl | rfl
    · exact hx
    · exact hy)
theorem one_isE {m : Nat} {op : List UInt8} {x : D} (ho : op.length ≤ 2 ^ 47) (hx : isE m x) : isE (m + 1) (oneD op x) :=
  isE_of (m := m) (op := op) (k := 0) (i := 0) (s := []) (nl := true) (l := []) (who := []) (name := []) (q := false) (ps := [x]) ho (by simp) (by simp) zero_isVr (by simp) (fun z hz => by
    simp only [List.mem_cons, List.not_mem_nil, or_false] at hz
    rw [hz]; exact hx)
theorem leaf_isE {op who name : List UInt8} (h1 : op.length ≤ 2 ^ 47) (h2 : who.length ≤ 2 ^ 47) (h3 : name.length ≤ 2 ^ 47) : isE 1 (leafD op who name) :=
  isE_of (m := 0) (op := op) (k := 0) (i := 0) (s := []) (nl := true) (l := []) (who := who) (name := name) (q := true) (ps := []) h1 h2 h3 zero_isVr (by simp) (fun z hz => by cases hz)
theorem val_isE {v : D} (h : isVr v) : isE 1 (valE v) := by
  obtain ⟨k, i, s, n, l, rfl, _⟩ := isV_elim h.1
  exact isE_of (m := 0) (op := [118, 97, 108, 117, 101]) (k := k) (i := i) (s := s) (nl := n) (l := l) (who := []) (name := []) (q := true) (ps := []) (by simp) (by simp) (by simp) h (by simp) (fun z hz => by cases hz)
theorem now_rng {toks : List D} (h : toks.all tokB = true) (st : St) : (ts (nowS toks st)).length ≤ 2 ^ 47 ∧ -(2 ^ 63) ≤ tn (nowS toks st) ∧ tn (nowS toks st) < 2 ^ 63 := by
  have key : nowS toks st = zT ∨ nowS toks st ∈ toks := by
    unfold nowS nowP
    split
    · exact .inl rfl
    · split
      · rename_i t ht
        split
        · exact .inr (List.mem_of_getElem? ht)
        · exact .inl rfl
      · exact .inl rfl
  rcases key with e | e
  · rw [e]; exact ⟨by simp [zT, ts_mk], by simp [zT, tn_mk], by simp [zT, tn_mk]⟩
  · have hb := List.all_eq_true.1 h _ e
    obtain ⟨k, s, n, e', hs⟩ := tokB_elim hb
    rw [e'] at hb
    rw [e']
    exact ⟨hs, (tokB_range hb).2⟩
theorem kind_rng {toks : List D} (h : toks.all tokB = true) (k : Int) (st : St) : (ts (kindP toks k st).1).length ≤ 2 ^ 47 ∧ -(2 ^ 63) ≤ tn (kindP toks k st).1 ∧ tn (kindP toks k st).1 < 2 ^ 63 := by
  unfold kindP
  split
  · exact ⟨by simp [zT, ts_mk], by simp [zT, tn_mk], by simp [zT, tn_mk]⟩
  · exact now_rng h st
theorem name_rng {toks : List D} (h : toks.all tokB = true) (st : St) : (nameP toks st).1.length ≤ 2 ^ 47 := by
  unfold nameP
  split
  · simp
  · exact (now_rng h st).1
theorem firstP_mem {toks : List D} {st : St} : ∀ {ws : List (List UInt8)} {w : List UInt8}, firstP toks st ws = some w → w ∈ ws
  | [], w, h => by cases h
  | x :: r, w, h => by
    simp only [firstP] at h
    split at h
    · injection h with h; subst h; simp
    · exact List.mem_cons_of_mem _ (firstP_mem h)
theorem one_rng (toks : List D) (ws : List (List UInt8)) (hw : ∀ w ∈ ws, w.length ≤ 2 ^ 47) (st : St) : (oneP toks ws st).1.length ≤ 2 ^ 47 := by
  unfold oneP
  split
  · rename_i w h; exact hw w (firstP_mem h)
  · simp
theorem attr_rng {toks : List D} (h : toks.all tokB = true) (st : St) : (attrP toks st).1.length ≤ 2 ^ 47 ∧ (attrP toks st).2.1.length ≤ 2 ^ 47 := by
  unfold attrP
  exact ⟨one_rng toks whoW (by decide) st, name_rng h _⟩
theorem wrap_rng (n : Int) : -(2 ^ 63) ≤ IntKind.i64.wrap n ∧ IntKind.i64.wrap n < 2 ^ 63 := by
  rw [IntKind.wrap_i64]; omega
theorem num_isVr {n : Int} (h : -(2 ^ 63) ≤ n ∧ n < 2 ^ 63) : isVr (num n) := ⟨rfl, h.1, h.2⟩
theorem lit_isVr {toks : List D} (h : toks.all tokB = true) (st : St) : isVr (literalP toks st).1 := by
  have hr := now_rng h st
  unfold literalP
  split
  · exact num_isVr hr.2
  split
  · refine ⟨?_, by simp [textV, vi], by simp [textV, vi]⟩
    simp only [textV, D.isV, D.isVs, Bool.and_true, decide_eq_true_eq]
    have := hr.1
    simp only [List.length_take]
    omega
  split
  · exact ⟨rfl, hr.2.1, hr.2.2⟩
  split
  · refine ⟨rfl, ?_, ?_⟩ <;> (simp only [truthV, vi]; split <;> decide)
  · exact zero_isVr
theorem item_isVr {toks : List D} (h : toks.all tokB = true) (st : St) : isVr (itemP toks st).1 := by
  unfold itemP
  split
  · exact num_isVr (wrap_rng _)
  split
  · exact lit_isVr h st
  · exact lit_isVr h st
theorem bagL_isVr {toks : List D} (h : toks.all tokB = true) : ∀ (f : Nat) (out : List D) (st : St) (r : List D × St), (∀ v ∈ out, isVr v) → bagL toks f out st = some r → ∀ v ∈ r.1, isVr v
  | 0, _, _, _, _, h' => by simp [bagL] at h'
  | f + 1, out, st, r, ho, h' => by
    simp only [bagL] at h'
    split at h'
    · exact bagL_isVr h f _ _ r (fun v hv => by
        rcases List.mem_append.1 hv with hv | hv
        · exact ho v hv
        · rw [List.mem_singleton] at hv; subst hv; exact item_isVr h _) h'
    · injection h' with h'; subst h'; exact ho
theorem bagV_isVr {xs : List D} (h : ∀ x ∈ xs, isVr x) : isVr (bagV xs).1 := by
  unfold bagV
  split
  · exact zero_isVr
  split
  · exact zero_isVr
  split
  · exact zero_isVr
  · rename_i g1 g2 g3
    simp only [Bool.not_eq_false] at g1
    have hg : good1 xs := fun x hx => by
      have hf := List.all_eq_true.1 g1 x hx
      rw [formed_same] at hf
      have hb : badB xs x = false := by
        cases hb : badB xs x with
        | false => rfl
        | true => exact absurd (List.any_eq_true.2 ⟨x, hx, hb⟩) g2
      unfold formedB at hf
      rw [if_pos (by unfold badB at hb; simp only [Bool.or_eq_false_iff, beq_eq_false_iff_ne, ne_eq] at hb; simp [hb.1.2])] at hf
      exact hf
    refine ⟨?_, by simp [vi_mk], by simp [vi_mk]⟩
    have hm := (bagR_spec hg).2
    have hlen : (bagR xs).length ≤ 16 := by simp only [decide_eq_true_eq] at g3; omega
    have hv : D.isVs (bagR xs) = true := isVs_iff.2 fun y hy => by
      obtain ⟨x, hx, rfl⟩ := (hm y).1 hy
      obtain ⟨k, i, s, n, l, rfl, h1, _, _⟩ := isV_elim (h x hx).1
      simp only [can, vk_mk, vi_mk, vs_mk]
      simp [mkV, D.isV, D.isVs, sliceD, h1]
    simp only [mkV, sliceD, Bool.false_and, Bool.false_eq_true, if_false, D.isV, hv, Bool.and_true, Bool.and_eq_true, decide_eq_true_eq]
    exact ⟨by simp, by omega⟩
def lvB : Nat → Nat
  | 0 => 2
  | f + 1 => lvB f + f + 3
theorem lvB_le : ∀ f, lvB f ≤ (f + 2) * (f + 2)
  | 0 => by decide
  | f + 1 => by
    have := lvB_le f
    have e : (f + 1 + 2) * (f + 1 + 2) = (f + 2) * (f + 2) + 2 * (f + 2) + 1 := by
      simp only [Nat.add_mul, Nat.mul_add]; omega
    simp only [lvB]; omega
theorem lvB_1 (f : Nat) : 1 ≤ lvB f := by cases f <;> simp [lvB]
def partE (m : Nat) (P : Part) : Prop := ∀ toks st r, toks.all tokB = true → P toks st = some r → isE m r.1
theorem rowL_isE {m : Nat} {P : Part} (hP : partE m P) {toks : List D} (ht : toks.all tokB = true) {bs : List (List UInt8)} (hb : ∀ w ∈ bs, w.length ≤ 2 ^ 47) : ∀ (f : Nat) (M : Nat) (x : D) (st : St) (r : D × St), m ≤ M → isE M x → rowL toks P bs f x st = some r → isE (M + f) r.1
  | 0, _, _, _, _, _, _, h => by simp [rowL] at h
  | f + 1, M, x, st, r, hm, hx, h => by
    simp only [rowL] at h
    split at h
    · injection h with h; subst h; exact isE_le (by omega) hx
    · split at h
      · injection h with h; subst h; exact isE_le (by omega) hx
      · rename_i w hw
        split at h
        · cases h
        · rename_i y st2 hy
          have := rowL_isE hP ht hb f (M + 1) _ st2 r (by omega) (two_isE (hb w (firstP_mem hw)) hx (isE_le hm (hP toks _ _ ht hy))) h
          exact isE_le (by omega) this
theorem rowP_isE {m : Nat} {P : Part} (hP : partE m P) {toks : List D} (ht : toks.all tokB = true) {bs : List (List UInt8)} (hb : ∀ w ∈ bs, w.length ≤ 2 ^ 47) {f : Nat} {st : St} {r : D × St} (h : rowP toks P bs f st = some r) : isE (m + f) r.1 := by
  unfold rowP at h
  split at h
  · cases h
  · rename_i x st1 hx
    exact rowL_isE hP ht hb f m x st1 r (Nat.le_refl _) (hP toks _ _ ht hx) h
theorem oneS_isE {m : Nat} {op : List UInt8} (ho : op.length ≤ 2 ^ 47) {z : Option (D × St)} {r : D × St} (hz : ∀ r, z = some r → isE m r.1) (h : oneS op z = some r) : isE (m + 1) r.1 := by
  cases z with
  | none => cases h
  | some z =>
    obtain ⟨x, st⟩ := z
    simp only [oneS, Option.some.injEq] at h; subst h
    exact one_isE ho (hz _ rfl)
theorem bagP_isE {toks : List D} (ht : toks.all tokB = true) {f fr : Nat} {st : St} {r : D × St} (h : bagP toks f fr st = some r) : isE 1 r.1 := by
  unfold bagP at h
  split at h
  · cases h
  · rename_i out st1 hb
    have hv := bagL_isVr ht f _ _ _ (fun v hv => by rw [List.mem_singleton] at hv; subst hv; exact item_isVr ht st) hb
    split at h
    · injection h with h; subst h
      exact isE_of (m := 0) (op := []) (k := 0) (i := 0) (s := []) (nl := true) (l := []) (who := []) (name := []) (q := true) (ps := []) (by simp) (by simp) (by simp) zero_isVr (by simp) (fun z hz => by cases hz)
    · injection h with h; subst h
      exact val_isE (bagV_isVr hv)
theorem lv_isE : ∀ (f : Nat) (lv : Lv), partE (lvB f) (pLv f lv)
  | 0, _, _, _, _, _, h => by cases h
  | f + 1, lv, toks, st, r, ht, h => by
    have h1 := lvB_1 f
    cases lv with
    | expr => exact isE_le (by simp only [lvB]; omega) (rowP_isE (lv_isE f .and) ht (by decide) h)
    | and => exact isE_le (by simp only [lvB]; omega) (rowP_isE (lv_isE f .not) ht (by decide) h)
    | sum => exact isE_le (by simp only [lvB]; omega) (rowP_isE (lv_isE f .prod) ht (by decide) h)
    | prod => exact isE_le (by simp only [lvB]; omega) (rowP_isE (lv_isE f .unary) ht (by decide) h)
    | not =>
      simp only [pLv] at h
      split at h
      · exact isE_le (by simp only [lvB]; omega) (oneS_isE (by decide) (fun r hr => lv_isE f .not toks _ r ht hr) h)
      · exact isE_le (by simp only [lvB]; omega) (lv_isE f .cmp toks st r ht h)
    | unary =>
      simp only [pLv] at h
      split at h
      · exact isE_le (by simp only [lvB]; omega) (oneS_isE (by decide) (fun r hr => lv_isE f .unary toks _ r ht hr) h)
      · exact isE_le (by simp only [lvB]; omega) (lv_isE f .plain toks st r ht h)
    | cmp =>
      simp only [pLv] at h
      obtain ⟨z, hz⟩ : ∃ z, pLv f .sum toks st = z := ⟨_, rfl⟩
      rw [hz] at h
      cases z with
      | none => cases h
      | some z =>
        obtain ⟨x, st1⟩ := z
        have hx := lv_isE f .sum toks _ _ ht hz
        simp only [cmpS2] at h
        split at h
        · injection h with h; subst h; exact isE_le (by simp only [lvB]; omega) hx
        · rename_i w hw
          split at h
          · cases h
          · rename_i y st2 hy
            injection h with h; subst h
            have hw : w.length ≤ 2 ^ 47 := by
              have : ∀ w ∈ cmpW, w.length ≤ 2 ^ 47 := by decide
              exact this w (firstP_mem hw)
            exact isE_le (by simp only [lvB]; omega) (two_isE hw hx (lv_isE f .sum toks _ _ ht hy))
    | inner =>
      simp only [pLv] at h
      obtain ⟨z, hz⟩ : ∃ z, pLv f .expr toks (mustP toks [40] st) = z := ⟨_, rfl⟩
      rw [hz] at h
      cases z with
      | none => cases h
      | some z =>
        obtain ⟨x, st1⟩ := z
        simp only [innS, Option.some.injEq] at h; subst h
        exact isE_le (by simp only [lvB]; omega) (lv_isE f .expr toks _ (x, st1) ht hz)
    | plain =>
      have up : ∀ {x : D}, isE 1 x → isE (lvB (f + 1)) x := fun h => isE_le (by simp only [lvB]; omega) h
      simp only [pLv, plainP] at h
      split at h
      · injection h with h; subst h; exact up (val_isE (lit_isVr ht st))
      split at h
      · injection h with h; subst h; exact up (leaf_isE (by decide) (by simp) (by simp))
      split at h
      · exact isE_le (by simp only [lvB]; omega) (lv_isE f .inner toks st r ht h)
      split at h
      · exact up (bagP_isE ht h)
      split at h
      · exact isE_le (by simp only [lvB]; omega) (oneS_isE (by decide) (fun r hr => lv_isE f .inner toks _ r ht hr) h)
      split at h
      · injection h with h; subst h; exact up (leaf_isE (by decide) (by simp) (kind_rng ht _ _).1)
      split at h
      · injection h with h; subst h; exact up (leaf_isE (by decide) (attr_rng ht _).1 (attr_rng ht _).2)
      · injection h with h; subst h; exact up (leaf_isE (by decide) (attr_rng ht _).1 (attr_rng ht _).2)
def nodeB : Nat := lvB 10000
theorem nodeB_le : nodeB ≤ 2 ^ 40 := by
  have := lvB_le 10000
  unfold nodeB; omega
def parseE (toks : List D) : D × Nat × Int :=
  if 600 < toks.length then (zeroE, 0, 13) else match pLv 10000 .expr toks (0, 0) with
  | none => (zeroE, 0, 0)
  | some (x, st) => if (endP toks st).2 != 0 then (zeroE, (endP toks st).1, (endP toks st).2) else if 12 < dpt nodeB x then (zeroE, 0, 11) else (x, 0, 0)
def φparse : List D → Option D
  | [l] => if isSl l && (elems l).all tokB && decide ((elems l).length ≤ 2 ^ 40) then some (.tup [(parseE (elems l)).1, .int .i64 ((parseE (elems l)).2.1 : Nat), .int .i64 (parseE (elems l)).2.2]) else none
  | _ => none
theorem φC_own {A B : Hp} {n : Bool} {xs : List D} (htk : xs.all tokB = true) (hl : xs.length ≤ 600) (g : GE) (rest : List D) (a : Nat) (e : Int) {r : D} {a' : Nat} {e' : Int} (h : g rest xs a e = some (r, a', e')) :
    φC g (A ++ .row [sliceD n xs, .int .i64 (a : Nat), .int .i64 e] :: B) (.ptr A.length 0 :: rest) = some (r, A ++ .row [sliceD n xs, .int .i64 (a' : Nat), .int .i64 e'] :: B) := by
  have hp : A.length < (A ++ [Ob.row [sliceD n xs, .int .i64 (a : Nat), .int .i64 e]]).length := by simp
  have st : ∀ c, (A ++ [Ob.row [sliceD n xs, .int .i64 (a : Nat), .int .i64 e]]).set A.length c = A ++ [c] := fun c => by
    rw [List.set_append_right _ _ (Nat.le_refl _)]; simp
  have := φC_at (n := n) hp htk hl g rest a e B
  rw [h] at this
  simp only [cuR] at this
  rw [st, st] at this
  simpa using this
set_option maxHeartbeats 4000000 in
theorem ok19 : OkAt Tryz.prog 19 φparse := by
  refine okF_of (l := [(26, φdpt nodeB)]) (m := []) (e := [(49, φC (gOf (pLv 10000 .expr))), (50, φC gEnd)]) (.cons (ok26 nodeB nodeB_le) .nil) .nil (.cons (okLv 10000 (by omega)).1 (.cons ok50 .nil)) fn19 fun args r h => ?_
  have hM : MonoH [] := .nil
  unfold φparse at h
  split at h
  · rename_i l
    split at h
    · rename_i hc
      simp only [Bool.and_eq_true, decide_eq_true_eq] at hc
      obtain ⟨⟨hs, htk⟩, hlen⟩ := hc
      obtain ⟨n, hn⟩ := isSl_elim hs
      injection h with h; subst h
      obtain ⟨xs, hx⟩ : ∃ xs, elems l = xs := ⟨_, rfl⟩
      rw [hx] at htk hlen hn ⊢
      subst hn
      refine ⟨by simp, ?_, fun H T => ?_⟩
      · have hz : ∀ i : Int, ∀ k : Int, (D.tup [zeroE, .int .i64 k, .int .i64 i]).cl 0 0 = true := fun _ _ => rfl
        unfold parseE
        split
        · exact hz _ _
        · split
          · exact hz _ _
          · rename_i x st hp
            have hx8 := (lv_ex8 10000 .expr xs (0, 0) _ htk hp).2.2
            simp only at hx8
            split
            · exact hz _ _
            · split
              · exact hz _ _
              · simp only [D.cl, D.clL, hx8, Bool.and_self]
      rcases tf (decide ((600 : Int) < xs.length)) with g | g
      · have e0 : parseE xs = (zeroE, 0, 13) := by unfold parseE; rw [if_pos (by simp only [decide_eq_true_eq] at g; omega)]
        rw [e0]
        simp (config := { contextual := true, maxSteps := 10000000 }) only [c19, g, zeroE, go_sem, Nat.reduceAdd, Nat.reduceSub, Nat.reduceMul, Nat.reduceEqDiff, Nat.reduceLeDiff, Nat.reduceLT, Int.reduceToNat, Int.reduceLE, Int.reduceLT, Int.reduceEq, Int.reduceNe, Int.reduceBEq, Int.reduceBNe, Nat.reduceBEq, Nat.reduceBNe, ↓reduceIte, reduceCtorEq, ↓reduceDIte, W_draw]
        exact leavesE_mk (by first | rfl | simp [D.erase, D.eraseL]) (by first | exact ⟨_, rfl⟩ | (refine ⟨[], ?_⟩; simp; done)) (by first | exact ⟨_, rfl⟩ | (refine ⟨[], ?_⟩; simp; done))
      · have hl : xs.length ≤ 600 := by simp only [decide_eq_false_iff_not] at g; omega
        obtain ⟨x, ⟨a, e⟩, hp⟩ := expr_tot xs hl
        have hx8 := lv_ex8 10000 .expr xs (0, 0) _ htk hp
        have hxE : isE nodeB x := lv_isE 10000 .expr xs (0, 0) _ htk hp
        simp only at hx8
        have g1 : gOf (pLv 10000 .expr) [] xs 0 0 = some (x, a, e) := hp
        obtain ⟨⟨a2, e2⟩, he2⟩ : ∃ st, endP xs (a, e) = st := ⟨_, rfl⟩
        have g2 : gEnd [] xs a e = some (if e2 == 0 then .tup [.int .i64 0, .int .i64 0] else .tup [.int .i64 (a2 : Nat), .int .i64 e2], a2, e2) := by
          simp only [gEnd, he2]
        have c1 := φC_own (n := n) (A := H ++ [.row [.str [], .int .i64 0, .int .i64 0, .str [], .nils, .str [], .str [], .nils]]) (B := []) htk hl _ [] 0 0 g1
        have c2 := fun B => φC_own (n := n) (A := H ++ [.row [.str [], .int .i64 0, .int .i64 0, .str [], .nils, .str [], .str [], .nils]]) (B := B) htk hl _ [] a e g2
        simp only [List.length_append, List.length_cons, List.length_nil, List.append_assoc, List.cons_append, List.nil_append, Nat.zero_add] at c1 c2
        rw [show ((0 : Nat) : Int) = 0 from rfl] at c1
        have pd : φdpt nodeB [x] = some (.int .i64 ((dpt nodeB x : Nat) : Int)) := by simp only [φdpt]; rw [if_pos hxE]
        have e1 : parseE xs = if e2 != 0 then (zeroE, a2, e2) else if 12 < dpt nodeB x then (zeroE, 0, 11) else (x, 0, 0) := by
          unfold parseE; rw [if_neg (by omega), hp]; simp only [he2]
        rw [e1]
        have ee := hx8.2.1
        have htq := toksB_erase htk
        obtain ⟨⟨b0, b1, b2, b3, b4, b5, b6, b7, rfl⟩, _, _⟩ := hx8
        rcases tf (e2 != 0) with g3 | g3
        · have g3' : (e2 == 0) = false := by simpa using g3
          rw [g3'] at c2
          simp only [Bool.false_eq_true, if_false] at c2
          rw [if_pos g3]
          simp (config := { contextual := true, maxSteps := 10000000 }) only [c19, g, c1, c2, g3, zeroE, htq, go_sem, Nat.reduceAdd, Nat.reduceSub, Nat.reduceMul, Nat.reduceEqDiff, Nat.reduceLeDiff, Nat.reduceLT, Int.reduceToNat, Int.reduceLE, Int.reduceLT, Int.reduceEq, Int.reduceNe, Int.reduceBEq, Int.reduceBNe, Nat.reduceBEq, Nat.reduceBNe, ↓reduceIte, reduceCtorEq, ↓reduceDIte, W_draw]
          exact leavesE_mk (by first | rfl | simp [D.erase, D.eraseL]) (by first | exact ⟨_, rfl⟩ | (refine ⟨[], ?_⟩; simp; done)) (by first | exact ⟨_, rfl⟩ | (refine ⟨[], ?_⟩; simp; done))
        · have g3' : (e2 == 0) = true := by simpa using g3
          rw [g3'] at c2
          simp only [if_true] at c2
          rw [if_neg (by rw [g3]; decide)]
          have g0 : ((0 : Int) != 0) = false := rfl
          rcases tf (decide ((12 : Int) < (dpt nodeB (.agg [b0, b1, b2, b3, b4, b5, b6, b7]) : Nat))) with g4 | g4
          · rw [if_pos (by simp only [decide_eq_true_eq] at g4; omega)]
            simp (config := { contextual := true, maxSteps := 10000000 }) only [c19, g, c1, c2, g0, zeroE, htq, pd, pcallE hM, ee, g4, go_sem, Nat.reduceAdd, Nat.reduceSub, Nat.reduceMul, Nat.reduceEqDiff, Nat.reduceLeDiff, Nat.reduceLT, Int.reduceToNat, Int.reduceLE, Int.reduceLT, Int.reduceEq, Int.reduceNe, Int.reduceBEq, Int.reduceBNe, Nat.reduceBEq, Nat.reduceBNe, ↓reduceIte, reduceCtorEq, ↓reduceDIte, W_draw]
            exact leavesE_mk (by first | rfl | simp [D.erase, D.eraseL]) (by first | exact ⟨_, rfl⟩ | (refine ⟨[], ?_⟩; simp; done)) (by first | exact ⟨_, rfl⟩ | (refine ⟨[], ?_⟩; simp; done))
          · rw [if_neg (by simp only [decide_eq_false_iff_not] at g4; omega)]
            simp (config := { contextual := true, maxSteps := 10000000 }) only [c19, g, c1, c2, g0, zeroE, htq, pd, pcallE hM, ee, g4, go_sem, Nat.reduceAdd, Nat.reduceSub, Nat.reduceMul, Nat.reduceEqDiff, Nat.reduceLeDiff, Nat.reduceLT, Int.reduceToNat, Int.reduceLE, Int.reduceLT, Int.reduceEq, Int.reduceNe, Int.reduceBEq, Int.reduceBNe, Nat.reduceBEq, Nat.reduceBNe, ↓reduceIte, reduceCtorEq, ↓reduceDIte, W_draw]
            refine leavesE_mk ?_ ⟨_, rfl⟩ ⟨[], by simp⟩
            simp only [D.erase, D.eraseL] at ee ⊢
            rw [ee]
    · cases h
  · cases h
end GP
