import Derived.Test.YtnipbngimicldaaGpbT0
import Derived.Test.YtnipbngimicldaaGpYu
set_option linter.unusedSimpArgs false
/- Types by the reference: what goes with what. -/
namespace GP
open Go Go.Proofs
set_option maxRecDepth 100000

def mkW (op : List UInt8) (a b t : Int) : D := .agg [.str op, .int .i64 a, .int .i64 b, .int .i64 t]
def wa : D → Int
  | .agg [_, .int _ k, _, _] => k
  | _ => 0
def wb : D → Int
  | .agg [_, _, .int _ k, _] => k
  | _ => 0
def wt : D → Int
  | .agg [_, _, _, .int _ k] => k
  | _ => 0
/-- All that go. -/
def waysP : List (List UInt8 × Int × Int × Int) := [
  ([110, 111, 116], 1, 0, 1), ([110, 101, 103], 2, 0, 2), ([97, 110, 100], 1, 1, 1), ([111, 114], 1, 1, 1), ([43], 2, 2, 2), ([45], 2, 2, 2), ([42], 2, 2, 2), ([43], 4, 2, 4), ([45], 4, 2, 4), ([45], 4, 4, 2),
  ([115, 105, 122, 101], 11, 0, 2), ([105, 110], 1, 11, 1), ([61, 61], 1, 1, 1), ([33, 61], 1, 1, 1), ([61, 61], 11, 11, 1), ([33, 61], 11, 11, 1),
  ([115, 105, 122, 101], 12, 0, 2), ([105, 110], 2, 12, 1), ([61, 61], 2, 2, 1), ([33, 61], 2, 2, 1), ([61, 61], 12, 12, 1), ([33, 61], 12, 12, 1),
  ([115, 105, 122, 101], 13, 0, 2), ([105, 110], 3, 13, 1), ([61, 61], 3, 3, 1), ([33, 61], 3, 3, 1), ([61, 61], 13, 13, 1), ([33, 61], 13, 13, 1),
  ([115, 105, 122, 101], 14, 0, 2), ([105, 110], 4, 14, 1), ([61, 61], 4, 4, 1), ([33, 61], 4, 4, 1), ([61, 61], 14, 14, 1), ([33, 61], 14, 14, 1),
  ([60], 2, 2, 1), ([60, 61], 2, 2, 1), ([62], 2, 2, 1), ([62, 61], 2, 2, 1),
  ([60], 3, 3, 1), ([60, 61], 3, 3, 1), ([62], 3, 3, 1), ([62, 61], 3, 3, 1),
  ([60], 4, 4, 1), ([60, 61], 4, 4, 1), ([62], 4, 4, 1), ([62, 61], 4, 4, 1)]
def ofW (w : List UInt8 × Int × Int × Int) : D := mkW w.1 w.2.1 w.2.2.1 w.2.2.2
def ways : List D := waysP.map ofW
theorem ways_len : ways.length = 46 := rfl
theorem ways_get {j : Nat} (h : j < 46) : ∃ op a b t, ways[j]? = some (mkW op a b t) := by
  refine ⟨(waysP[j]'h).1, (waysP[j]'h).2.1, (waysP[j]'h).2.2.1, (waysP[j]'h).2.2.2, ?_⟩
  simp only [ways, List.getElem?_map]
  rw [List.getElem?_eq_getElem h]; rfl
theorem ways_erase : D.eraseL ways = ways := rfl

/-- An op's parts, by what goes. -/
def cntR (op : List UInt8) : Int := if arity0.any (op == ·) then 0 else match ways.find? (fun w => eop w == op) with
  | some w => if decide (0 < wb w) then 2 else 1
  | none => -1
theorem ways_ops : ∀ w ∈ waysP, w.1 ∈ arity1 ++ arity2 := by decide
theorem find_ways (p : D → Bool) : ways.find? p = (waysP.find? (fun w => p (ofW w))).map ofW := by
  unfold ways; rw [List.find?_map]; rfl
def cntP (op : List UInt8) : Int := if arity0.any (op == ·) then 0 else match waysP.find? (fun w => w.1 == op) with
  | some w => if decide (0 < w.2.2.1) then 2 else 1
  | none => -1
theorem cntR_P (op : List UInt8) : cntR op = cntP op := by
  unfold cntR cntP
  rw [find_ways]
  have : (fun w => eop (ofW w) == op) = (fun w : List UInt8 × Int × Int × Int => w.1 == op) := rfl
  rw [this]
  cases waysP.find? (fun w => w.1 == op) <;> rfl
theorem cntP_ok : ∀ op ∈ arity1 ++ arity2, cntP op = arityI op := by decide
theorem cntR_arity (op : List UInt8) : cntR op = arityI op := by
  rw [cntR_P]
  by_cases h : op ∈ arity1 ++ arity2
  · exact cntP_ok op h
  · have h1 : arity1.any (op == ·) = false := by
      rw [List.any_eq_false]; intro x hx hc
      have : op = x := by simpa using hc
      exact h (List.mem_append.2 (.inl (this ▸ hx)))
    have h2 : arity2.any (op == ·) = false := by
      rw [List.any_eq_false]; intro x hx hc
      have : op = x := by simpa using hc
      exact h (List.mem_append.2 (.inr (this ▸ hx)))
    have h3 : waysP.find? (fun w => w.1 == op) = none := by
      rw [List.find?_eq_none]; intro w hw hc
      have : w.1 = op := by simpa using hc
      exact h (this ▸ ways_ops w hw)
    unfold cntP arityI
    rw [h1, h2, h3]; rfl
/-- The way of an op with such types. -/
def wayQ (op : List UInt8) (a b : Int) (w : D) : Bool := (eop w == op) && (wa w == a) && (wb w == b)
def wayT (op : List UInt8) (a b : Int) : Int × Int := match ways.find? (wayQ op a b) with
  | some w => (wt w, 0)
  | none => (0, 6)
theorem way_of {op : List UInt8} {a b t : Int} (h : wayT op a b = (t, 0)) : ∃ w ∈ waysP, w = (op, a, b, t) := by
  unfold wayT at h
  rw [find_ways] at h
  cases hf : waysP.find? (fun w => wayQ op a b (ofW w)) with
  | none => rw [hf] at h; simp at h
  | some w =>
    rw [hf] at h
    have hm := List.mem_of_find?_eq_some hf
    have hp := List.find?_some hf
    obtain ⟨o, x, y, z⟩ := w
    have hp : ((o == op) && (x == a) && (y == b)) = true := hp
    simp only [Bool.and_eq_true, beq_iff_eq] at hp
    obtain ⟨⟨rfl, rfl⟩, rfl⟩ := hp
    have : z = t := congrArg Prod.fst h
    subst this
    exact ⟨_, hm, rfl⟩

/-! ### Leaves -/
def tF (f : D) : Int := if fbag f then IntKind.i64.wrap (fkind f + 10) else fkind f
def zeroF (f : D) : Int := if (fkind f == 0) && !(fbag f) then 8 else 0
def isOf (who name : List UInt8) (f : D) : Bool := (fwho f == who) && (fname f == name)
def attR (fs : List D) (who name : List UInt8) : Int × Int := match fs.find? (isOf who name) with
  | some f => if tF f == 0 then (0, 8) else (tF f, 0)
  | none => (0, 8)
def hasR (fs : List D) (who name : List UInt8) : Int × Int := match fs.find? (isOf who name) with
  | some f => (1, zeroF f)
  | none => (0, 8)
def valT (v : D) : Int := if vk v == 5 then IntKind.i64.wrap (10 + vk0 (vl v)) else vk v
def leafR (fs : List D) (e : D) : Int × Int :=
  if eop e == sNow then (4, 0) else if eop e == sRole then (1, 0) else
  if eop e == sVal then (if litB (eV e) then (valT (eV e), 0) else (0, 2)) else
  if eop e == sHas then hasR fs (ewho e) (ename e) else attR fs (ewho e) (ename e)
def lt0 (n : Int) : Bool := decide (n < 0)
/-- The reference's type of an expression. -/
def typR : Nat → List D → D → Int × Int
  | 0, _, _ => (0, 2)
  | n + 1, fs, e =>
    if lt0 (arityI (eop e)) || (((eps e).length : Int) != arityI (eop e)) then (0, 2) else
    if arityI (eop e) == 0 then leafR fs e else
    if (typR n fs (part e 0)).2 != 0 then (0, (typR n fs (part e 0)).2) else
    if arityI (eop e) == 2 then
      if (typR n fs (part e 1)).2 != 0 then (0, (typR n fs (part e 1)).2) else
      wayT (eop e) (typR n fs (part e 0)).1 (typR n fs (part e 1)).1
    else wayT (eop e) (typR n fs (part e 0)).1 0

/-! ### Facts with kinds, scenes that fit -/
def kindN (k : Int) : Int := IntKind.i64.wrap (1 + IntKind.i64.wrap ((IntKind.u64.wrap k).tmod 4))
def kindF (f : D) : D := mkF (fwho f) (fname f) (kindN (fkind f)) (fbag f)
theorem kindN_rg (k : Int) : 1 ≤ kindN k ∧ kindN k ≤ 4 := by
  have h0 : 0 ≤ IntKind.u64.wrap k := by
    have e : IntKind.u64.wrap k = k % 2 ^ 64 := by simp [IntKind.wrap, IntKind.bits, IntKind.signed]
    rw [e]; omega
  have h1 : 0 ≤ (IntKind.u64.wrap k).tmod 4 := Int.tmod_nonneg _ h0
  have h2 : (IntKind.u64.wrap k).tmod 4 < 4 := Int.tmod_lt_of_pos _ (by decide)
  unfold kindN
  rw [wrap_inY (a := (IntKind.u64.wrap k).tmod 4) (by omega) (by omega), wrap_inY (by omega) (by omega)]
  omega
def kv (v : D) : Int := if (vk v == 5) && decide ((0 : Int) < (vl v).length) then IntKind.i64.wrap (10 + vk0 (vl v)) else vk v
def sitB (v : D) (t : Int) : Bool := (kv v == t) || ((kv v == 5) && decide (10 < t))
def fitH (fs : List D) (h : D) : Bool := ((attR fs (fwho h) (fname h)).2 == 0) && sitB (hV h) (attR fs (fwho h) (fname h)).1
def fitsB (fs : List D) (s : D) : Bool := rightB s && (sA s).all (fitH fs)
end GP
set_option linter.unusedSimpArgs false
/- The reference's types: leaves, ways, counts. -/
namespace GP
open Go Go.Proofs
set_option maxRecDepth 100000

open Classical in
noncomputable def φzero : List D → Option D
  | [f] => if isF f then some (.int .i64 (zeroF f)) else none
  | _ => none
theorem ok50 : OkAt Try.prog 50 φzero := by
  refine ok_of (l := []) .nil fn50 fun args r h => ?_
  unfold φzero at h
  split at h
  · rename_i f
    split at h
    · rename_i hf
      injection h with h; subst h
      refine ⟨by simp, by simp [D.cl], fun H T => ?_⟩
      obtain ⟨who, name, kind, bag, rfl, _⟩ := hf
      have e : zeroF (mkF who name kind bag) = if (kind == 0) && !bag then 8 else 0 := rfl
      rw [e]
      simp only [mkF]
      rcases tf (kind == 0) with h1 | h1
      · cases bag <;> simp only [h1] <;> simp (config := { contextual := true, maxSteps := 10000000 }) only [c50, h1, go_sem, Nat.reduceAdd, Nat.reduceSub, Nat.reduceMul, Nat.reduceEqDiff, Nat.reduceLeDiff, Nat.reduceLT, Int.reduceToNat, Int.reduceLE, Int.reduceLT, Int.reduceEq, Int.reduceNe, Int.reduceBEq, Int.reduceBNe, Nat.reduceBEq, Nat.reduceBNe, ↓reduceIte, reduceCtorEq, ↓reduceDIte, W_draw]
      · simp only [h1]; simp (config := { contextual := true, maxSteps := 10000000 }) only [c50, h1, go_sem, Nat.reduceAdd, Nat.reduceSub, Nat.reduceMul, Nat.reduceEqDiff, Nat.reduceLeDiff, Nat.reduceLT, Int.reduceToNat, Int.reduceLE, Int.reduceLT, Int.reduceEq, Int.reduceNe, Int.reduceBEq, Int.reduceBNe, Nat.reduceBEq, Nat.reduceBNe, ↓reduceIte, reduceCtorEq, ↓reduceDIte, W_draw]
    · cases h
  · cases h

def φways : List D → Option D
  | [] => some (.sl none ways)
  | _ => none
theorem ways_cl : (D.sl none ways).cl 0 0 = true := by decide
set_option maxHeartbeats 8000000 in
theorem ok34 : OkAt Try.prog 34 φways := by
  refine ok_of (l := []) .nil fn34 fun args r h => ?_
  unfold φways at h
  split at h
  · injection h with h; subst h
    refine ⟨by simp, ways_cl, fun H T => ?_⟩
    have w2 : IntKind.i64.wrap 2 = 2 := by decide
    have w3 : IntKind.i64.wrap 3 = 3 := by decide
    have w4 : IntKind.i64.wrap 4 = 4 := by decide
    have w5 : IntKind.i64.wrap 5 = 5 := by decide
    have w6 : IntKind.i64.wrap 6 = 6 := by decide
    have w7 : IntKind.i64.wrap 7 = 7 := by decide
    have w8 : IntKind.i64.wrap 8 = 8 := by decide
    have w9 : IntKind.i64.wrap 9 = 9 := by decide
    have w10 : IntKind.i64.wrap 10 = 10 := by decide
    have w11 : IntKind.i64.wrap 11 = 11 := by decide
    have w12 : IntKind.i64.wrap 12 = 12 := by decide
    have w13 : IntKind.i64.wrap 13 = 13 := by decide
    have w14 : IntKind.i64.wrap 14 = 14 := by decide
    simp (config := { contextual := true, maxSteps := 10000000 }) only [c34, go_sem, Nat.reduceAdd, Nat.reduceSub, Nat.reduceMul, Nat.reduceEqDiff, Nat.reduceLeDiff, Nat.reduceLT, Int.reduceToNat, Int.reduceLE, Int.reduceLT, Int.reduceEq, Int.reduceNe, Int.reduceBEq, Int.reduceBNe, Nat.reduceBEq, Nat.reduceBNe, ↓reduceIte, reduceCtorEq, ↓reduceDIte, W_draw]
    refine W_unr 5 ?_ (XL_mono _)
    simp (config := { contextual := true, maxSteps := 10000000 }) only [unr_s, List.set_cons_zero, List.set_cons_succ, appK_tok, appK_tok0, Nat.reducePow, Int.reduceAdd, w2, w3, w4, w5, w6, w7, w8, w9, w10, w11, w12, w13, w14, go_sem, Nat.reduceAdd, Nat.reduceSub, Nat.reduceMul, Nat.reduceEqDiff, Nat.reduceLeDiff, Nat.reduceLT, Int.reduceToNat, Int.reduceLE, Int.reduceLT, Int.reduceEq, Int.reduceNe, Int.reduceBEq, Int.reduceBNe, Nat.reduceBEq, Nat.reduceBNe, ↓reduceIte, reduceCtorEq, ↓reduceDIte, W_draw]
    refine W_unr 4 ?_ (XL_mono _)
    simp (config := { contextual := true, maxSteps := 10000000 }) only [unr_s, List.set_cons_zero, List.set_cons_succ, appK_tok, appK_tok0, Nat.reducePow, Int.reduceAdd, w2, w3, w4, w5, w6, w7, w8, w9, w10, w11, w12, w13, w14, go_sem, Nat.reduceAdd, Nat.reduceSub, Nat.reduceMul, Nat.reduceEqDiff, Nat.reduceLeDiff, Nat.reduceLT, Int.reduceToNat, Int.reduceLE, Int.reduceLT, Int.reduceEq, Int.reduceNe, Int.reduceBEq, Int.reduceBNe, Nat.reduceBEq, Nat.reduceBNe, ↓reduceIte, reduceCtorEq, ↓reduceDIte, W_draw]
    rfl
  · cases h

def φcount : List D → Option D
  | [.str op] => some (.int .i64 (arityI op))
  | _ => none
set_option maxHeartbeats 4000000 in
theorem ok32 : OkAt Try.prog 32 φcount := by
  refine ok_of (l := [(34, φways)]) (.cons ok34 .nil) fn32 fun args r h => ?_
  unfold φcount at h
  split at h
  · rename_i op
    injection h with h; subst h
    refine ⟨by simp, by simp [D.cl], fun H T => ?_⟩
    have pw : φways [] = some (.sl none ways) := rfl
    have E : arityI op = cntR op := (cntR_arity op).symm
    rcases tf (arity0.any (op == ·)) with h0 | h0
    · have e : arityI op = 0 := by unfold arityI; rw [h0]; rfl
      rw [e]
      clear E e
      simp only [arity0, List.any_cons, List.any_nil] at h0
      simp (config := { contextual := true, maxSteps := 10000000 }) only [c32, pw, ways_erase, go_sem, Nat.reduceAdd, Nat.reduceSub, Nat.reduceMul, Nat.reduceEqDiff, Nat.reduceLeDiff, Nat.reduceLT, Int.reduceToNat, Int.reduceLE, Int.reduceLT, Int.reduceEq, Int.reduceNe, Int.reduceBEq, Int.reduceBNe, Nat.reduceBEq, Nat.reduceBNe, ↓reduceIte, reduceCtorEq, ↓reduceDIte, W_draw]
      (all_goals ((repeat' (first | apply And.intro | intro _)) <;> (first | rfl | omega | (simp_all; done) | grind)))
    · have L : cntR op = match ways.find? (fun w => eop w == op) with | some w => if decide (0 < wb w) then 2 else 1 | none => -1 := by
        unfold cntR; rw [h0]; rfl
      simp only [arity0, List.any_cons, List.any_nil, Bool.or_eq_false_iff] at h0
      obtain ⟨a1, a2, a3, a4, a5, _⟩ := h0
      rw [E]
      simp (config := { contextual := true, maxSteps := 10000000 }) only [c32, pw, ways_erase, a1, a2, a3, a4, a5, go_sem, Nat.reduceAdd, Nat.reduceSub, Nat.reduceMul, Nat.reduceEqDiff, Nat.reduceLeDiff, Nat.reduceLT, Int.reduceToNat, Int.reduceLE, Int.reduceLT, Int.reduceEq, Int.reduceNe, Int.reduceBEq, Int.reduceBNe, Nat.reduceBEq, Nat.reduceBNe, ↓reduceIte, reduceCtorEq, ↓reduceDIte, W_draw]
      refine W_for (fun j s' => s'.t 0 = .str op ∧ s'.t 3 = .sl none ways ∧ s'.t 4 = .int .i64 j ∧ s'.H = H ∧ s'.T = T ∧ j ≤ 46 ∧ (ways.take j).find? (fun w => eop w == op) = none) 46 ⟨0, by simp [upd, argT]⟩ (fun i s h => h.2.2.2.2.2.1) ?_ (XL_mono _)
      rintro j ⟨t, B, T'⟩ ⟨r0, r3, r4, rfl, rfl, hj, hc⟩
      simp only at r0 r3 r4
      by_cases ha : j < 46
      · have d1 : decide ((j : Int) < ways.length) = true := by rw [ways_len]; simp; omega
        obtain ⟨o, a, b, ty, e3⟩ := ways_get ha
        have nx := fun hp => find_take_succ e3 hc hp
        have at' := fun hp => find_at e3 hc hp
        have F : (eop (mkW o a b ty) == op) = (o == op) := rfl
        rw [F] at nx at'
        have G : (o == op) = true → cntR op = if decide (0 < b) then 2 else 1 := fun h => by rw [L, at' h]; rfl
        simp only [mkW] at e3
        clear at' F L E
        rcases tf (o == op) with g | g
        · rw [G g]
          rcases tf (decide (0 < b)) with g2 | g2
          · simp (config := { contextual := true, maxSteps := 10000000 }) only [r0, r3, r4, d1, e3, g, g2, go_sem, Nat.reduceAdd, Nat.reduceSub, Nat.reduceMul, Nat.reduceEqDiff, Nat.reduceLeDiff, Nat.reduceLT, Int.reduceToNat, Int.reduceLE, Int.reduceLT, Int.reduceEq, Int.reduceNe, Int.reduceBEq, Int.reduceBNe, Nat.reduceBEq, Nat.reduceBNe, ↓reduceIte, reduceCtorEq, ↓reduceDIte, W_draw]
          · simp (config := { contextual := true, maxSteps := 10000000 }) only [r0, r3, r4, d1, e3, g, g2, go_sem, Nat.reduceAdd, Nat.reduceSub, Nat.reduceMul, Nat.reduceEqDiff, Nat.reduceLeDiff, Nat.reduceLT, Int.reduceToNat, Int.reduceLE, Int.reduceLT, Int.reduceEq, Int.reduceNe, Int.reduceBEq, Int.reduceBNe, Nat.reduceBEq, Nat.reduceBNe, ↓reduceIte, reduceCtorEq, ↓reduceDIte, W_draw]
        · have nx := nx g
          simp (config := { contextual := true, maxSteps := 10000000 }) only [r0, r3, r4, d1, e3, g, wrap_succ j (by omega), go_sem, Nat.reduceAdd, Nat.reduceSub, Nat.reduceMul, Nat.reduceEqDiff, Nat.reduceLeDiff, Nat.reduceLT, Int.reduceToNat, Int.reduceLE, Int.reduceLT, Int.reduceEq, Int.reduceNe, Int.reduceBEq, Int.reduceBNe, Nat.reduceBEq, Nat.reduceBNe, ↓reduceIte, reduceCtorEq, ↓reduceDIte, W_draw]
          exact ⟨by omega, nx⟩
      · have d1 : decide ((j : Int) < ways.length) = false := by rw [ways_len]; simp; omega
        have hA : cntR op = -1 := by
          have : j = ways.length := by rw [ways_len]; omega
          subst this; rw [List.take_length] at hc
          rw [L, hc]
        simp (config := { contextual := true, maxSteps := 10000000 }) only [r0, r3, r4, d1, hA, go_sem, Nat.reduceAdd, Nat.reduceSub, Nat.reduceMul, Nat.reduceEqDiff, Nat.reduceLeDiff, Nat.reduceLT, Int.reduceToNat, Int.reduceLE, Int.reduceLT, Int.reduceEq, Int.reduceNe, Int.reduceBEq, Int.reduceBNe, Nat.reduceBEq, Nat.reduceBNe, ↓reduceIte, reduceCtorEq, ↓reduceDIte, W_draw]
  · cases h

theorem isF_El {d : D} (h : isF d) : d.okc = true ∧ d.cells.length = 4 ∧ d.cells.take 4 = d.cells ∧ D.agg d.cells = d ∧ d.erase = d := by
  have e := isF_erase h
  obtain ⟨who, name, kind, bag, rfl, _⟩ := h
  exact ⟨rfl, rfl, rfl, rfl, e⟩
open Classical in
noncomputable def φleafR : List D → Option D
  | [fs, e] => if isLs isF fs ∧ ∃ n, isE n e then some (tupI (leafR (elems fs) e)) else none
  | _ => none
set_option maxHeartbeats 4000000 in
theorem ok33 : OkAt Try.prog 33 φleafR := by
  refine ok_of (l := [(18, φformed), (50, φzero)]) (.cons ok18 (.cons ok50 .nil)) fn33 fun args r h => ?_
  unfold φleafR at h
  split at h
  · rename_i fs e
    split at h
    · rename_i hv
      injection h with h; subst h
      refine ⟨by simp, tupI_cl _, fun H T => ?_⟩
      obtain ⟨⟨nf, xs, rfl, hl, hx⟩, m, he⟩ := hv
      obtain ⟨op, k, i, s, nl, l, who, name, m, ps, rfl, h1, h2, h3, h4, h5, h6, eL, eP⟩ := isE_elim he
      have pv : φformed [mkV k i s nl l] = some (.bool (formedB (mkV k i s nl l))) := by simp only [φformed]; rw [if_pos h4.1]
      have ef : D.eraseL xs = xs := eraseL_id fun x h => isF_erase (hx x h)
      simp only [leafR, eop_mk, eV_mk, ewho_mk, ename_mk, sNow, sRole, sVal, sHas, elems_sliceD]
      rcases tf (op == [110, 111, 119]) with g1 | g1
      · simp only [g1]; simp (config := { contextual := true, maxSteps := 10000000 }) only [c33, mkE, eL, eP, ef, g1, tupI, go_sem, Nat.reduceAdd, Nat.reduceSub, Nat.reduceMul, Nat.reduceEqDiff, Nat.reduceLeDiff, Nat.reduceLT, Int.reduceToNat, Int.reduceLE, Int.reduceLT, Int.reduceEq, Int.reduceNe, Int.reduceBEq, Int.reduceBNe, Nat.reduceBEq, Nat.reduceBNe, ↓reduceIte, reduceCtorEq, ↓reduceDIte, W_draw]
      rcases tf (op == [114, 111, 108, 101]) with g2 | g2
      · simp only [g1, g2]; simp (config := { contextual := true, maxSteps := 10000000 }) only [c33, mkE, eL, eP, ef, g1, g2, tupI, go_sem, Nat.reduceAdd, Nat.reduceSub, Nat.reduceMul, Nat.reduceEqDiff, Nat.reduceLeDiff, Nat.reduceLT, Int.reduceToNat, Int.reduceLE, Int.reduceLT, Int.reduceEq, Int.reduceNe, Int.reduceBEq, Int.reduceBNe, Nat.reduceBEq, Nat.reduceBNe, ↓reduceIte, reduceCtorEq, ↓reduceDIte, W_draw]
      rcases tf (op == [118, 97, 108, 117, 101]) with g3 | g3
      · simp only [g1, g2, g3, litB, valT, vk_mk, vl_mk, if_true, Bool.false_eq_true, if_false]
        obtain ⟨fb, hq⟩ : ∃ z, formedB (mkV k i s nl l) = z := ⟨_, rfl⟩
        simp only [hq] at pv ⊢
        clear hq
        simp only [mkV] at pv
        have k0 : (k == 0) = !(k != 0) := by simp [bne]
        cases fb with
        | false => simp (config := { contextual := true, maxSteps := 10000000 }) only [c33, mkE, eL, eP, ef, g1, g2, g3, pv, tupI, go_sem, Nat.reduceAdd, Nat.reduceSub, Nat.reduceMul, Nat.reduceEqDiff, Nat.reduceLeDiff, Nat.reduceLT, Int.reduceToNat, Int.reduceLE, Int.reduceLT, Int.reduceEq, Int.reduceNe, Int.reduceBEq, Int.reduceBNe, Nat.reduceBEq, Nat.reduceBNe, ↓reduceIte, reduceCtorEq, ↓reduceDIte, W_draw]
        | true =>
        rcases tf (k == 0) with g4 | g4
        · have g4' : (k != 0) = false := by simp [bne, g4]
          simp only [g4']; simp (config := { contextual := true, maxSteps := 10000000 }) only [c33, mkE, eL, eP, ef, g1, g2, g3, g4, pv, tupI, go_sem, Nat.reduceAdd, Nat.reduceSub, Nat.reduceMul, Nat.reduceEqDiff, Nat.reduceLeDiff, Nat.reduceLT, Int.reduceToNat, Int.reduceLE, Int.reduceLT, Int.reduceEq, Int.reduceNe, Int.reduceBEq, Int.reduceBNe, Nat.reduceBEq, Nat.reduceBNe, ↓reduceIte, reduceCtorEq, ↓reduceDIte, W_draw]
        have g4' : (k != 0) = true := by simp [bne, g4]
        rcases tf (k == 5) with g5 | g5
        · by_cases hz : 0 < l.length
          · obtain ⟨k0', i0, s0, n0, l0, e0, _⟩ := get_isV (mkV_erase h4.1).2.2.2 hz
            have fk := vk0_get e0
            have d1 : (((l.length : Int)) == 0) = false := by rw [beq_eq_false_iff_ne]; omega
            simp only [mkV] at e0
            simp only [g4', g5, d1, fk]; simp (config := { contextual := true, maxSteps := 10000000 }) only [c33, mkE, eL, eP, ef, g1, g2, g3, g4, g5, d1, e0, pv, tupI, go_sem, Nat.reduceAdd, Nat.reduceSub, Nat.reduceMul, Nat.reduceEqDiff, Nat.reduceLeDiff, Nat.reduceLT, Int.reduceToNat, Int.reduceLE, Int.reduceLT, Int.reduceEq, Int.reduceNe, Int.reduceBEq, Int.reduceBNe, Nat.reduceBEq, Nat.reduceBNe, ↓reduceIte, reduceCtorEq, ↓reduceDIte, W_draw]
          · have d1 : (((l.length : Int)) == 0) = true := by rw [beq_iff_eq]; omega
            simp only [g4', g5, d1]; simp (config := { contextual := true, maxSteps := 10000000 }) only [c33, mkE, eL, eP, ef, g1, g2, g3, g4, g5, d1, pv, tupI, go_sem, Nat.reduceAdd, Nat.reduceSub, Nat.reduceMul, Nat.reduceEqDiff, Nat.reduceLeDiff, Nat.reduceLT, Int.reduceToNat, Int.reduceLE, Int.reduceLT, Int.reduceEq, Int.reduceNe, Int.reduceBEq, Int.reduceBNe, Nat.reduceBEq, Nat.reduceBNe, ↓reduceIte, reduceCtorEq, ↓reduceDIte, W_draw]
        · simp only [g4', g5]; simp (config := { contextual := true, maxSteps := 10000000 }) only [c33, mkE, eL, eP, ef, g1, g2, g3, g4, g5, pv, tupI, go_sem, Nat.reduceAdd, Nat.reduceSub, Nat.reduceMul, Nat.reduceEqDiff, Nat.reduceLeDiff, Nat.reduceLT, Int.reduceToNat, Int.reduceLE, Int.reduceLT, Int.reduceEq, Int.reduceNe, Int.reduceBEq, Int.reduceBNe, Nat.reduceBEq, Nat.reduceBNe, ↓reduceIte, reduceCtorEq, ↓reduceDIte, W_draw]
      simp only [g1, g2, g3, Bool.false_eq_true, if_false]
      simp (config := { contextual := true, maxSteps := 10000000 }) only [c33, mkE, eL, eP, ef, g1, g2, g3, go_sem, Nat.reduceAdd, Nat.reduceSub, Nat.reduceMul, Nat.reduceEqDiff, Nat.reduceLeDiff, Nat.reduceLT, Int.reduceToNat, Int.reduceLE, Int.reduceLT, Int.reduceEq, Int.reduceNe, Int.reduceBEq, Int.reduceBNe, Nat.reduceBEq, Nat.reduceBNe, ↓reduceIte, reduceCtorEq, ↓reduceDIte, W_draw]
      refine W_for (fun j s' => s'.t 0 = sliceD nf xs ∧ s'.t 3 = .ptr H.length 0 ∧ s'.t 6 = .int .i64 j ∧ s'.H = H ++ [.row [.str op, .int .i64 k, .int .i64 i, .str s, sliceD nl l, .str who, .str name, sliceD m ps]] ∧ s'.T = T ∧ j ≤ xs.length ∧ (xs.take j).find? (isOf who name) = none) xs.length ⟨0, by simp [upd, argT]⟩ (fun i s h => h.2.2.2.2.2.1) ?_ (XL_mono _)
      rintro j ⟨t, B, T'⟩ ⟨r0, r3, r6, rfl, rfl, hj, hc⟩
      simp only at r0 r3 r6
      by_cases ha : j < xs.length
      · have d1 : decide ((j : Int) < xs.length) = true := by simpa using ha
        obtain ⟨w3, n3, k3, b3, e3, q3, q4⟩ := isF_get hx ha
        have hf := hx _ (List.mem_of_getElem? e3)
        have nx := fun hp => find_take_succ (p := isOf who name) e3 hc hp
        have at' := fun hp => find_at (p := isOf who name) e3 hc hp
        have F : isOf who name (mkF w3 n3 k3 b3) = ((w3 == who) && (n3 == name)) := rfl
        rw [F] at nx at'
        have pz : φzero [mkF w3 n3 k3 b3] = some (.int .i64 (zeroF (mkF w3 n3 k3 b3))) := by simp only [φzero]; rw [if_pos hf]
        have G1 : ((w3 == who) && (n3 == name)) = true → hasR xs who name = (1, zeroF (mkF w3 n3 k3 b3)) := fun h => by unfold hasR; rw [at' h]
        have G2 : ((w3 == who) && (n3 == name)) = true → attR xs who name = if (if b3 then IntKind.i64.wrap (k3 + 10) else k3) == 0 then (0, 8) else ((if b3 then IntKind.i64.wrap (k3 + 10) else k3), 0) := fun h => by unfold attR; rw [at' h]; rfl
        obtain ⟨zf, hq⟩ : ∃ z, zeroF (mkF w3 n3 k3 b3) = z := ⟨_, rfl⟩
        simp only [hq] at pz G1
        clear at' F hq
        simp only [mkF] at e3 pz
        rcases tf (w3 == who) with u1 | u1
        · rcases tf (n3 == name) with u2 | u2
          · have n1 : (w3 != who) = false := by simp [bne, u1]
            have n2 : (n3 != name) = false := by simp [bne, u2]
            have G1 := G1 (by rw [u1, u2]; rfl)
            have G2 := G2 (by rw [u1, u2]; rfl)
            rw [G1, G2]
            rcases tf (op == [104, 97, 115]) with g4 | g4
            · simp only [g4]; simp (config := { contextual := true, maxSteps := 10000000 }) only [r0, r3, r6, d1, e3, n1, n2, g4, pz, tupI, go_sem, Nat.reduceAdd, Nat.reduceSub, Nat.reduceMul, Nat.reduceEqDiff, Nat.reduceLeDiff, Nat.reduceLT, Int.reduceToNat, Int.reduceLE, Int.reduceLT, Int.reduceEq, Int.reduceNe, Int.reduceBEq, Int.reduceBNe, Nat.reduceBEq, Nat.reduceBNe, ↓reduceIte, reduceCtorEq, ↓reduceDIte, W_draw]
            · cases b3 with
              | true =>
                simp only [g4, if_true, Bool.false_eq_true, if_false]
                rcases tf (IntKind.i64.wrap (k3 + 10) == 0) with g5 | g5
                · simp only [g5]; simp (config := { contextual := true, maxSteps := 10000000 }) only [r0, r3, r6, d1, e3, n1, n2, g4, g5, tupI, go_sem, Nat.reduceAdd, Nat.reduceSub, Nat.reduceMul, Nat.reduceEqDiff, Nat.reduceLeDiff, Nat.reduceLT, Int.reduceToNat, Int.reduceLE, Int.reduceLT, Int.reduceEq, Int.reduceNe, Int.reduceBEq, Int.reduceBNe, Nat.reduceBEq, Nat.reduceBNe, ↓reduceIte, reduceCtorEq, ↓reduceDIte, W_draw]
                · simp only [g5]; simp (config := { contextual := true, maxSteps := 10000000 }) only [r0, r3, r6, d1, e3, n1, n2, g4, g5, tupI, go_sem, Nat.reduceAdd, Nat.reduceSub, Nat.reduceMul, Nat.reduceEqDiff, Nat.reduceLeDiff, Nat.reduceLT, Int.reduceToNat, Int.reduceLE, Int.reduceLT, Int.reduceEq, Int.reduceNe, Int.reduceBEq, Int.reduceBNe, Nat.reduceBEq, Nat.reduceBNe, ↓reduceIte, reduceCtorEq, ↓reduceDIte, W_draw]
              | false =>
                simp only [g4, if_true, Bool.false_eq_true, if_false]
                rcases tf (k3 == 0) with g5 | g5
                · simp only [g5]; simp (config := { contextual := true, maxSteps := 10000000 }) only [r0, r3, r6, d1, e3, n1, n2, g4, g5, tupI, go_sem, Nat.reduceAdd, Nat.reduceSub, Nat.reduceMul, Nat.reduceEqDiff, Nat.reduceLeDiff, Nat.reduceLT, Int.reduceToNat, Int.reduceLE, Int.reduceLT, Int.reduceEq, Int.reduceNe, Int.reduceBEq, Int.reduceBNe, Nat.reduceBEq, Nat.reduceBNe, ↓reduceIte, reduceCtorEq, ↓reduceDIte, W_draw]
                · simp only [g5]; simp (config := { contextual := true, maxSteps := 10000000 }) only [r0, r3, r6, d1, e3, n1, n2, g4, g5, tupI, go_sem, Nat.reduceAdd, Nat.reduceSub, Nat.reduceMul, Nat.reduceEqDiff, Nat.reduceLeDiff, Nat.reduceLT, Int.reduceToNat, Int.reduceLE, Int.reduceLT, Int.reduceEq, Int.reduceNe, Int.reduceBEq, Int.reduceBNe, Nat.reduceBEq, Nat.reduceBNe, ↓reduceIte, reduceCtorEq, ↓reduceDIte, W_draw]
          · have n1 : (w3 != who) = false := by simp [bne, u1]
            have n2 : (n3 != name) = true := by simp [bne, u2]
            have nx := nx (by rw [u1, u2]; rfl)
            simp (config := { contextual := true, maxSteps := 10000000 }) only [r0, r3, r6, d1, e3, n1, n2, wrap_succ j (by omega), go_sem, Nat.reduceAdd, Nat.reduceSub, Nat.reduceMul, Nat.reduceEqDiff, Nat.reduceLeDiff, Nat.reduceLT, Int.reduceToNat, Int.reduceLE, Int.reduceLT, Int.reduceEq, Int.reduceNe, Int.reduceBEq, Int.reduceBNe, Nat.reduceBEq, Nat.reduceBNe, ↓reduceIte, reduceCtorEq, ↓reduceDIte, W_draw]
            exact ⟨by omega, nx⟩
        · have n1 : (w3 != who) = true := by simp [bne, u1]
          have nx := nx (by rw [u1]; rfl)
          simp (config := { contextual := true, maxSteps := 10000000 }) only [r0, r3, r6, d1, e3, n1, wrap_succ j (by omega), go_sem, Nat.reduceAdd, Nat.reduceSub, Nat.reduceMul, Nat.reduceEqDiff, Nat.reduceLeDiff, Nat.reduceLT, Int.reduceToNat, Int.reduceLE, Int.reduceLT, Int.reduceEq, Int.reduceNe, Int.reduceBEq, Int.reduceBNe, Nat.reduceBEq, Nat.reduceBNe, ↓reduceIte, reduceCtorEq, ↓reduceDIte, W_draw]
          exact ⟨by omega, nx⟩
      · have d1 : decide ((j : Int) < xs.length) = false := by simpa using ha
        have : j = xs.length := by omega
        subst this; rw [List.take_length] at hc
        have A1 : hasR xs who name = (0, 8) := by unfold hasR; rw [hc]
        have A2 : attR xs who name = (0, 8) := by unfold attR; rw [hc]
        rw [A1, A2]
        rcases tf (op == [104, 97, 115]) with g4 | g4 <;> simp only [g4] <;> simp (config := { contextual := true, maxSteps := 10000000 }) only [r0, r3, r6, d1, tupI, go_sem, Nat.reduceAdd, Nat.reduceSub, Nat.reduceMul, Nat.reduceEqDiff, Nat.reduceLeDiff, Nat.reduceLT, Int.reduceToNat, Int.reduceLE, Int.reduceLT, Int.reduceEq, Int.reduceNe, Int.reduceBEq, Int.reduceBNe, Nat.reduceBEq, Nat.reduceBNe, ↓reduceIte, reduceCtorEq, ↓reduceDIte, W_draw]
    · cases h
  · cases h
end GP
set_option linter.unusedSimpArgs false
/- The reference's types. -/
namespace GP
open Go Go.Proofs
set_option maxRecDepth 100000

def typS (ar len : Int) (lf a b : Int × Int) (op : List UInt8) : Int × Int :=
  if lt0 ar || (len != ar) then (0, 2) else if ar == 0 then lf else if a.2 != 0 then (0, a.2) else
  if ar == 2 then (if b.2 != 0 then (0, b.2) else wayT op a.1 b.1) else wayT op a.1 0
theorem typR_S (n : Nat) (fs : List D) (e : D) : typR (n + 1) fs e = typS (arityI (eop e)) (eps e).length (leafR fs e) (typR n fs (part e 0)) (typR n fs (part e 1)) (eop e) := rfl
open Classical in
noncomputable def φtypR (n : Nat) : List D → Option D
  | [fs, e] => if isLs isF fs ∧ isE n e then some (tupI (typR n (elems fs) e)) else none
  | _ => none
set_option maxHeartbeats 16000000 in
theorem ok15 : ∀ n, OkAt Try.prog 15 (φtypR n)
  | 0 => fun args r h => by
    unfold φtypR at h
    split at h
    · split at h
      · rename_i h'; exact h'.2.elim
      · cases h
    · cases h
  | n + 1 => by
    have h15 := ok15 n
    refine ok_of (l := [(32, φcount), (33, φleafR), (34, φways), (15, φtypR n)]) (.cons ok32 (.cons ok33 (.cons ok34 (.cons h15 .nil)))) fn15 fun args r h => ?_
    unfold φtypR at h
    split at h
    · rename_i fs e
      split at h
      · rename_i hv
        obtain ⟨hfs, he⟩ := hv
        injection h with h; subst h
        refine ⟨by simp, tupI_cl _, fun H T => ?_⟩
        have pl : φleafR [fs, e] = some (tupI (leafR (elems fs) e)) := by simp only [φleafR]; rw [if_pos ⟨hfs, _, he⟩]
        have pw : φways [] = some (.sl none ways) := rfl
        have P : ∀ i, i < (eps e).length → φtypR n [fs, part e i] = some (tupI (typR n (elems fs) (part e i))) := fun i hi => by
          simp only [φtypR]; rw [if_pos ⟨hfs, (part_isE he hi).1⟩]
        have Q : ∀ i, i < (eps e).length → (part e i).erase = part e i ∧ (part e i).cells.length = 8 ∧ (part e i).cells.take 8 = (part e i).cells ∧ D.agg (part e i).cells = part e i ∧ (part e i).okc = true ∧ (eps e)[i]? = some (part e i) := fun i hi => by
          have h1 := (part_isE he hi).1
          obtain ⟨c1, c2, c3, c4⟩ := isE_cells h1
          exact ⟨isE_erase h1, c1, c2, c3, c4, by simp [part, hi]⟩
        have ef : fs.erase = fs := by
          obtain ⟨n, xs, rfl, _, hx⟩ := hfs
          rw [erase_sliceD, eraseL_id fun x h => isF_erase (hx x h)]
        rw [typR_S]
        obtain ⟨⟨lt, le⟩, hq⟩ : ∃ z, leafR (elems fs) e = z := ⟨_, rfl⟩
        simp only [hq] at pl ⊢
        clear hq
        obtain ⟨⟨ta, fa⟩, hqa⟩ : ∃ z, typR n (elems fs) (part e 0) = z := ⟨_, rfl⟩
        obtain ⟨⟨tb, fb⟩, hqb⟩ : ∃ z, typR n (elems fs) (part e 1) = z := ⟨_, rfl⟩
        have P0 := P 0
        have P1 := P 1
        have Q0 := Q 0
        have Q1 := Q 1
        simp only [hqa] at P0 ⊢
        simp only [hqb] at P1 ⊢
        clear hqa hqb P Q
        obtain ⟨x, hx⟩ : ∃ z, part e 0 = z := ⟨_, rfl⟩
        obtain ⟨y, hy⟩ : ∃ z, part e 1 = z := ⟨_, rfl⟩
        rw [hx] at P0 Q0
        rw [hy] at P1 Q1
        clear hx hy
        obtain ⟨op, k, i, s, nl, l, who, name, m, ps, rfl, h1, h2, h3, h4, h5, h6, eL, eP⟩ := isE_elim he
        rw [eps_mk] at P0 P1 Q0 Q1
        simp only [eop_mk, eps_mk]
        have pc : φcount [.str op] = some (.int .i64 (arityI op)) := rfl
        have aC := arity_cases op
        have w1 : IntKind.i64.wrap 1 = 1 := by decide
        have w2 : IntKind.i64.wrap 2 = 2 := by decide
        obtain ⟨ar, hq⟩ : ∃ z, arityI op = z := ⟨_, rfl⟩
        rw [hq] at pc aC ⊢
        clear hq
        simp only [tupI, mkE] at pl P0 P1
        rcases tf ((ps.length : Int) != ar) with g1 | g1
        · unfold typS
          rw [g1]
          rcases aC with rfl | rfl | rfl | rfl <;> simp (config := { contextual := true, maxSteps := 10000000 }) only [c15, mkE, eL, eP, ef, pc, g1, lt0, tupI, go_sem, Nat.reduceAdd, Nat.reduceSub, Nat.reduceMul, Nat.reduceEqDiff, Nat.reduceLeDiff, Nat.reduceLT, Int.reduceToNat, Int.reduceLE, Int.reduceLT, Int.reduceEq, Int.reduceNe, Int.reduceBEq, Int.reduceBNe, Nat.reduceBEq, Nat.reduceBNe, ↓reduceIte, reduceCtorEq, ↓reduceDIte, W_draw]
        have hl : (ps.length : Int) = ar := by simpa using g1
        rcases aC with rfl | rfl | rfl | rfl
        · unfold typS; simp only [g1]
          simp (config := { contextual := true, maxSteps := 10000000 }) only [c15, mkE, eL, eP, ef, pc, pl, g1, lt0, tupI, go_sem, Nat.reduceAdd, Nat.reduceSub, Nat.reduceMul, Nat.reduceEqDiff, Nat.reduceLeDiff, Nat.reduceLT, Int.reduceToNat, Int.reduceLE, Int.reduceLT, Int.reduceEq, Int.reduceNe, Int.reduceBEq, Int.reduceBNe, Nat.reduceBEq, Nat.reduceBNe, ↓reduceIte, reduceCtorEq, ↓reduceDIte, W_draw]
        · have P0 := P0 (by omega)
          obtain ⟨x1, x2, x3, x4, x5, x6⟩ := Q0 (by omega)
          unfold typS
          simp only [g1]
          rcases tf (fa != 0) with f1 | f1
          · simp only [f1]
            simp (config := { contextual := true, maxSteps := 10000000 }) only [c15, mkE, eL, eP, ef, pc, g1, lt0, tupI, go_sem, Nat.reduceAdd, Nat.reduceSub, Nat.reduceMul, Nat.reduceEqDiff, Nat.reduceLeDiff, Nat.reduceLT, Int.reduceToNat, Int.reduceLE, Int.reduceLT, Int.reduceEq, Int.reduceNe, Int.reduceBEq, Int.reduceBNe, Nat.reduceBEq, Nat.reduceBNe, ↓reduceIte, reduceCtorEq, ↓reduceDIte, W_draw]
            refine W_unr 2 ?_ (XL_mono _)
            simp (config := { contextual := true, maxSteps := 10000000 }) only [unr_s, Int.reduceAdd, w1, w2, P0, x1, x2, x3, x4, x5, x6, f1, ef, eP, tupI, go_sem, Nat.reduceAdd, Nat.reduceSub, Nat.reduceMul, Nat.reduceEqDiff, Nat.reduceLeDiff, Nat.reduceLT, Int.reduceToNat, Int.reduceLE, Int.reduceLT, Int.reduceEq, Int.reduceNe, Int.reduceBEq, Int.reduceBNe, Nat.reduceBEq, Nat.reduceBNe, ↓reduceIte, reduceCtorEq, ↓reduceDIte, W_draw]
          · simp only [f1]
            simp (config := { contextual := true, maxSteps := 10000000 }) only [c15, mkE, eL, eP, ef, pc, g1, lt0, tupI, go_sem, Nat.reduceAdd, Nat.reduceSub, Nat.reduceMul, Nat.reduceEqDiff, Nat.reduceLeDiff, Nat.reduceLT, Int.reduceToNat, Int.reduceLE, Int.reduceLT, Int.reduceEq, Int.reduceNe, Int.reduceBEq, Int.reduceBNe, Nat.reduceBEq, Nat.reduceBNe, ↓reduceIte, reduceCtorEq, ↓reduceDIte, W_draw]
            refine W_unr 2 ?_ (XL_mono _)
            simp (config := { contextual := true, maxSteps := 10000000 }) only [unr_s, Int.reduceAdd, w1, w2, P0, x1, x2, x3, x4, x5, x6, f1, ef, eP, pw, ways_erase, tupI, go_sem, Nat.reduceAdd, Nat.reduceSub, Nat.reduceMul, Nat.reduceEqDiff, Nat.reduceLeDiff, Nat.reduceLT, Int.reduceToNat, Int.reduceLE, Int.reduceLT, Int.reduceEq, Int.reduceNe, Int.reduceBEq, Int.reduceBNe, Nat.reduceBEq, Nat.reduceBNe, ↓reduceIte, reduceCtorEq, ↓reduceDIte, W_draw]
            refine W_for (fun j s' => s'.t 3 = .ptr H.length 0 ∧ s'.t 7 = .ptr (H.length + 1) 0 ∧ s'.t 11 = .sl none ways ∧ s'.t 12 = .int .i64 j ∧ s'.H = H ++ [.row [.str op, .int .i64 k, .int .i64 i, .str s, sliceD nl l, .str who, .str name, sliceD m ps], .row [.int .i64 ta, .int .i64 0]] ∧ s'.T = T ∧ j ≤ 46 ∧ (ways.take j).find? (wayQ op ta 0) = none) 46 ⟨0, by simp [upd, argT]⟩ (fun i s h => h.2.2.2.2.2.2.1) ?_ (XL_mono _)
            rintro j ⟨t, B, T'⟩ ⟨r3, r7, r11, r12, rfl, rfl, hj, hc⟩
            simp only at r3 r7 r11 r12
            by_cases ha : j < 46
            · have d1 : decide ((j : Int) < ways.length) = true := by rw [ways_len]; simp; omega
              obtain ⟨o, a', b', ty, e3⟩ := ways_get ha
              have nx := fun hp => find_take_succ (p := wayQ op ta 0) e3 hc hp
              have at' := fun hp => find_at (p := wayQ op ta 0) e3 hc hp
              have F : wayQ op ta 0 (mkW o a' b' ty) = ((o == op) && (a' == ta) && (b' == 0)) := rfl
              rw [F] at nx at'
              have G : ((o == op) && (a' == ta) && (b' == 0)) = true → wayT op ta 0 = (ty, 0) := fun h => by unfold wayT; rw [at' h]; rfl
              simp only [mkW] at e3
              clear at' F
              rcases tf (o == op) with g1 | g1
              · rcases tf (a' == ta) with g2 | g2
                · rcases tf (b' == 0) with g3 | g3
                  · rw [G (by rw [g1, g2, g3]; rfl)]
                    simp (config := { contextual := true, maxSteps := 10000000 }) only [r3, r7, r11, r12, d1, e3, g1, g2, g3, tupI, go_sem, Nat.reduceAdd, Nat.reduceSub, Nat.reduceMul, Nat.reduceEqDiff, Nat.reduceLeDiff, Nat.reduceLT, Int.reduceToNat, Int.reduceLE, Int.reduceLT, Int.reduceEq, Int.reduceNe, Int.reduceBEq, Int.reduceBNe, Nat.reduceBEq, Nat.reduceBNe, ↓reduceIte, reduceCtorEq, ↓reduceDIte, W_draw]
                  · have nx := nx (by rw [g1, g2, g3]; rfl)
                    simp (config := { contextual := true, maxSteps := 10000000 }) only [r3, r7, r11, r12, d1, e3, g1, g2, g3, wrap_succ j (by omega), go_sem, Nat.reduceAdd, Nat.reduceSub, Nat.reduceMul, Nat.reduceEqDiff, Nat.reduceLeDiff, Nat.reduceLT, Int.reduceToNat, Int.reduceLE, Int.reduceLT, Int.reduceEq, Int.reduceNe, Int.reduceBEq, Int.reduceBNe, Nat.reduceBEq, Nat.reduceBNe, ↓reduceIte, reduceCtorEq, ↓reduceDIte, W_draw]
                    exact ⟨by omega, nx⟩
                · have nx := nx (by rw [g1, g2]; rfl)
                  simp (config := { contextual := true, maxSteps := 10000000 }) only [r3, r7, r11, r12, d1, e3, g1, g2, wrap_succ j (by omega), go_sem, Nat.reduceAdd, Nat.reduceSub, Nat.reduceMul, Nat.reduceEqDiff, Nat.reduceLeDiff, Nat.reduceLT, Int.reduceToNat, Int.reduceLE, Int.reduceLT, Int.reduceEq, Int.reduceNe, Int.reduceBEq, Int.reduceBNe, Nat.reduceBEq, Nat.reduceBNe, ↓reduceIte, reduceCtorEq, ↓reduceDIte, W_draw]
                  exact ⟨by omega, nx⟩
              · have nx := nx (by rw [g1]; rfl)
                simp (config := { contextual := true, maxSteps := 10000000 }) only [r3, r7, r11, r12, d1, e3, g1, wrap_succ j (by omega), go_sem, Nat.reduceAdd, Nat.reduceSub, Nat.reduceMul, Nat.reduceEqDiff, Nat.reduceLeDiff, Nat.reduceLT, Int.reduceToNat, Int.reduceLE, Int.reduceLT, Int.reduceEq, Int.reduceNe, Int.reduceBEq, Int.reduceBNe, Nat.reduceBEq, Nat.reduceBNe, ↓reduceIte, reduceCtorEq, ↓reduceDIte, W_draw]
                exact ⟨by omega, nx⟩
            · have d1 : decide ((j : Int) < ways.length) = false := by rw [ways_len]; simp; omega
              have hA : wayT op ta 0 = (0, 6) := by
                have : j = ways.length := by rw [ways_len]; omega
                subst this; rw [List.take_length] at hc
                unfold wayT; rw [hc]
              simp (config := { contextual := true, maxSteps := 10000000 }) only [r3, r7, r11, r12, d1, hA, tupI, go_sem, Nat.reduceAdd, Nat.reduceSub, Nat.reduceMul, Nat.reduceEqDiff, Nat.reduceLeDiff, Nat.reduceLT, Int.reduceToNat, Int.reduceLE, Int.reduceLT, Int.reduceEq, Int.reduceNe, Int.reduceBEq, Int.reduceBNe, Nat.reduceBEq, Nat.reduceBNe, ↓reduceIte, reduceCtorEq, ↓reduceDIte, W_draw]
        · have P0 := P0 (by omega)
          have P1 := P1 (by omega)
          obtain ⟨x1, x2, x3, x4, x5, x6⟩ := Q0 (by omega)
          obtain ⟨y1, y2, y3, y4, y5, y6⟩ := Q1 (by omega)
          unfold typS
          simp only [g1]
          rcases tf (fa != 0) with f1 | f1
          · simp only [f1]
            simp (config := { contextual := true, maxSteps := 10000000 }) only [c15, mkE, eL, eP, ef, pc, g1, lt0, tupI, go_sem, Nat.reduceAdd, Nat.reduceSub, Nat.reduceMul, Nat.reduceEqDiff, Nat.reduceLeDiff, Nat.reduceLT, Int.reduceToNat, Int.reduceLE, Int.reduceLT, Int.reduceEq, Int.reduceNe, Int.reduceBEq, Int.reduceBNe, Nat.reduceBEq, Nat.reduceBNe, ↓reduceIte, reduceCtorEq, ↓reduceDIte, W_draw]
            refine W_unr 3 ?_ (XL_mono _)
            simp (config := { contextual := true, maxSteps := 10000000 }) only [unr_s, Int.reduceAdd, w1, w2, P0, x1, x2, x3, x4, x5, x6, f1, ef, eP, tupI, go_sem, Nat.reduceAdd, Nat.reduceSub, Nat.reduceMul, Nat.reduceEqDiff, Nat.reduceLeDiff, Nat.reduceLT, Int.reduceToNat, Int.reduceLE, Int.reduceLT, Int.reduceEq, Int.reduceNe, Int.reduceBEq, Int.reduceBNe, Nat.reduceBEq, Nat.reduceBNe, ↓reduceIte, reduceCtorEq, ↓reduceDIte, W_draw]
          rcases tf (fb != 0) with f2 | f2
          · simp only [f1, f2]
            simp (config := { contextual := true, maxSteps := 10000000 }) only [c15, mkE, eL, eP, ef, pc, g1, lt0, tupI, go_sem, Nat.reduceAdd, Nat.reduceSub, Nat.reduceMul, Nat.reduceEqDiff, Nat.reduceLeDiff, Nat.reduceLT, Int.reduceToNat, Int.reduceLE, Int.reduceLT, Int.reduceEq, Int.reduceNe, Int.reduceBEq, Int.reduceBNe, Nat.reduceBEq, Nat.reduceBNe, ↓reduceIte, reduceCtorEq, ↓reduceDIte, W_draw]
            refine W_unr 3 ?_ (XL_mono _)
            simp (config := { contextual := true, maxSteps := 10000000 }) only [unr_s, Int.reduceAdd, w1, w2, P0, x1, x2, x3, x4, x5, x6, P1, y1, y2, y3, y4, y5, y6, f1, f2, ef, eP, tupI, go_sem, Nat.reduceAdd, Nat.reduceSub, Nat.reduceMul, Nat.reduceEqDiff, Nat.reduceLeDiff, Nat.reduceLT, Int.reduceToNat, Int.reduceLE, Int.reduceLT, Int.reduceEq, Int.reduceNe, Int.reduceBEq, Int.reduceBNe, Nat.reduceBEq, Nat.reduceBNe, ↓reduceIte, reduceCtorEq, ↓reduceDIte, W_draw]
          · simp only [f1, f2]
            simp (config := { contextual := true, maxSteps := 10000000 }) only [c15, mkE, eL, eP, ef, pc, g1, lt0, tupI, go_sem, Nat.reduceAdd, Nat.reduceSub, Nat.reduceMul, Nat.reduceEqDiff, Nat.reduceLeDiff, Nat.reduceLT, Int.reduceToNat, Int.reduceLE, Int.reduceLT, Int.reduceEq, Int.reduceNe, Int.reduceBEq, Int.reduceBNe, Nat.reduceBEq, Nat.reduceBNe, ↓reduceIte, reduceCtorEq, ↓reduceDIte, W_draw]
            refine W_unr 3 ?_ (XL_mono _)
            simp (config := { contextual := true, maxSteps := 10000000 }) only [unr_s, Int.reduceAdd, w1, w2, P0, x1, x2, x3, x4, x5, x6, P1, y1, y2, y3, y4, y5, y6, f1, f2, ef, eP, pw, ways_erase, tupI, go_sem, Nat.reduceAdd, Nat.reduceSub, Nat.reduceMul, Nat.reduceEqDiff, Nat.reduceLeDiff, Nat.reduceLT, Int.reduceToNat, Int.reduceLE, Int.reduceLT, Int.reduceEq, Int.reduceNe, Int.reduceBEq, Int.reduceBNe, Nat.reduceBEq, Nat.reduceBNe, ↓reduceIte, reduceCtorEq, ↓reduceDIte, W_draw]
            refine W_for (fun j s' => s'.t 3 = .ptr H.length 0 ∧ s'.t 7 = .ptr (H.length + 1) 0 ∧ s'.t 11 = .sl none ways ∧ s'.t 12 = .int .i64 j ∧ s'.H = H ++ [.row [.str op, .int .i64 k, .int .i64 i, .str s, sliceD nl l, .str who, .str name, sliceD m ps], .row [.int .i64 ta, .int .i64 tb]] ∧ s'.T = T ∧ j ≤ 46 ∧ (ways.take j).find? (wayQ op ta tb) = none) 46 ⟨0, by simp [upd, argT]⟩ (fun i s h => h.2.2.2.2.2.2.1) ?_ (XL_mono _)
            rintro j ⟨t, B, T'⟩ ⟨r3, r7, r11, r12, rfl, rfl, hj, hc⟩
            simp only at r3 r7 r11 r12
            by_cases ha : j < 46
            · have d1 : decide ((j : Int) < ways.length) = true := by rw [ways_len]; simp; omega
              obtain ⟨o, a', b', ty, e3⟩ := ways_get ha
              have nx := fun hp => find_take_succ (p := wayQ op ta tb) e3 hc hp
              have at' := fun hp => find_at (p := wayQ op ta tb) e3 hc hp
              have F : wayQ op ta tb (mkW o a' b' ty) = ((o == op) && (a' == ta) && (b' == tb)) := rfl
              rw [F] at nx at'
              have G : ((o == op) && (a' == ta) && (b' == tb)) = true → wayT op ta tb = (ty, 0) := fun h => by unfold wayT; rw [at' h]; rfl
              simp only [mkW] at e3
              clear at' F
              rcases tf (o == op) with g1 | g1
              · rcases tf (a' == ta) with g2 | g2
                · rcases tf (b' == tb) with g3 | g3
                  · rw [G (by rw [g1, g2, g3]; rfl)]
                    simp (config := { contextual := true, maxSteps := 10000000 }) only [r3, r7, r11, r12, d1, e3, g1, g2, g3, tupI, go_sem, Nat.reduceAdd, Nat.reduceSub, Nat.reduceMul, Nat.reduceEqDiff, Nat.reduceLeDiff, Nat.reduceLT, Int.reduceToNat, Int.reduceLE, Int.reduceLT, Int.reduceEq, Int.reduceNe, Int.reduceBEq, Int.reduceBNe, Nat.reduceBEq, Nat.reduceBNe, ↓reduceIte, reduceCtorEq, ↓reduceDIte, W_draw]
                  · have nx := nx (by rw [g1, g2, g3]; rfl)
                    simp (config := { contextual := true, maxSteps := 10000000 }) only [r3, r7, r11, r12, d1, e3, g1, g2, g3, wrap_succ j (by omega), go_sem, Nat.reduceAdd, Nat.reduceSub, Nat.reduceMul, Nat.reduceEqDiff, Nat.reduceLeDiff, Nat.reduceLT, Int.reduceToNat, Int.reduceLE, Int.reduceLT, Int.reduceEq, Int.reduceNe, Int.reduceBEq, Int.reduceBNe, Nat.reduceBEq, Nat.reduceBNe, ↓reduceIte, reduceCtorEq, ↓reduceDIte, W_draw]
                    exact ⟨by omega, nx⟩
                · have nx := nx (by rw [g1, g2]; rfl)
                  simp (config := { contextual := true, maxSteps := 10000000 }) only [r3, r7, r11, r12, d1, e3, g1, g2, wrap_succ j (by omega), go_sem, Nat.reduceAdd, Nat.reduceSub, Nat.reduceMul, Nat.reduceEqDiff, Nat.reduceLeDiff, Nat.reduceLT, Int.reduceToNat, Int.reduceLE, Int.reduceLT, Int.reduceEq, Int.reduceNe, Int.reduceBEq, Int.reduceBNe, Nat.reduceBEq, Nat.reduceBNe, ↓reduceIte, reduceCtorEq, ↓reduceDIte, W_draw]
                  exact ⟨by omega, nx⟩
              · have nx := nx (by rw [g1]; rfl)
                simp (config := { contextual := true, maxSteps := 10000000 }) only [r3, r7, r11, r12, d1, e3, g1, wrap_succ j (by omega), go_sem, Nat.reduceAdd, Nat.reduceSub, Nat.reduceMul, Nat.reduceEqDiff, Nat.reduceLeDiff, Nat.reduceLT, Int.reduceToNat, Int.reduceLE, Int.reduceLT, Int.reduceEq, Int.reduceNe, Int.reduceBEq, Int.reduceBNe, Nat.reduceBEq, Nat.reduceBNe, ↓reduceIte, reduceCtorEq, ↓reduceDIte, W_draw]
                exact ⟨by omega, nx⟩
            · have d1 : decide ((j : Int) < ways.length) = false := by rw [ways_len]; simp; omega
              have hA : wayT op ta tb = (0, 6) := by
                have : j = ways.length := by rw [ways_len]; omega
                subst this; rw [List.take_length] at hc
                unfold wayT; rw [hc]
              simp (config := { contextual := true, maxSteps := 10000000 }) only [r3, r7, r11, r12, d1, hA, tupI, go_sem, Nat.reduceAdd, Nat.reduceSub, Nat.reduceMul, Nat.reduceEqDiff, Nat.reduceLeDiff, Nat.reduceLT, Int.reduceToNat, Int.reduceLE, Int.reduceLT, Int.reduceEq, Int.reduceNe, Int.reduceBEq, Int.reduceBNe, Nat.reduceBEq, Nat.reduceBNe, ↓reduceIte, reduceCtorEq, ↓reduceDIte, W_draw]
        · exfalso; omega
      · cases h
    · cases h
end GP
set_option linter.unusedSimpArgs false
/- Facts with kinds; scenes that fit. -/
namespace GP
open Go Go.Proofs
set_option maxRecDepth 100000

open Classical in
noncomputable def φkinds9 : List D → Option D
  | [fs] => if isLs isF fs ∧ (elems fs).length ≤ 12 then some (sliceD true ((elems fs).map kindF)) else none
  | _ => none
theorem kind_isF {f : D} (h : isF f) : isF (kindF f) := by
  obtain ⟨who, name, kind, bag, rfl, h1, h2, h3, h4⟩ := h
  have := kindN_rg kind
  exact ⟨who, name, kindN kind, bag, rfl, h1, h2, by omega, by omega⟩
theorem kinds_isF {fs : D} (h : isLs isF fs) : isLs isF (sliceD true ((elems fs).map kindF)) := by
  obtain ⟨n, xs, rfl, h1, h2⟩ := h
  rw [elems_sliceD]
  refine ⟨true, _, rfl, by simpa using h1, fun x hx => ?_⟩
  obtain ⟨y, hy, rfl⟩ := List.mem_map.1 hx
  exact kind_isF (h2 y hy)
theorem isLs_cl {fs : D} (h : isLs isF fs) : fs.cl 0 0 = true := by
  obtain ⟨n, xs, rfl, h1, h2⟩ := h
  have e : D.clL 0 0 xs = true := by
    clear h1
    induction xs with
    | nil => rfl
    | cons x xs ih =>
      obtain ⟨who, name, kind, bag, rfl, _⟩ := h2 x (by simp)
      simp only [D.clL, mkF, D.cl, Bool.and_self, Bool.true_and]
      exact ih fun y hy => h2 y (by simp [hy])
  rcases sliceD_cases n xs with ⟨e1, rfl⟩ | e1 <;> rw [e1]
  · rfl
  · simp [D.cl, e]
theorem take_map_succ {f : D → D} {xs : List D} {j : Nat} {x : D} (hx : xs[j]? = some x) : (xs.take (j + 1)).map f = (xs.take j).map f ++ [f x] := by
  rw [List.take_add_one, hx]; simp
set_option maxHeartbeats 4000000 in
theorem ok14 : OkAt Try.prog 14 φkinds9 := by
  refine ok_of (l := []) .nil fn14 fun args r h => ?_
  unfold φkinds9 at h
  split at h
  · rename_i fs
    split at h
    · rename_i hv
      obtain ⟨hf, hl⟩ := hv
      injection h with h; subst h
      refine ⟨by simp, isLs_cl (kinds_isF hf), fun H T => ?_⟩
      obtain ⟨n, xs, rfl, _, hx⟩ := hf
      rw [elems_sliceD] at hl ⊢
      have ef : D.eraseL xs = xs := eraseL_id fun x h => isF_erase (hx x h)
      have eK : D.eraseL (xs.map kindF) = xs.map kindF := eraseL_id fun x h => by
        obtain ⟨y, hy, rfl⟩ := List.mem_map.1 h
        exact isF_erase (kind_isF (hx y hy))
      simp (config := { contextual := true, maxSteps := 10000000 }) only [c14, ef, go_sem, Nat.reduceAdd, Nat.reduceSub, Nat.reduceMul, Nat.reduceEqDiff, Nat.reduceLeDiff, Nat.reduceLT, Int.reduceToNat, Int.reduceLE, Int.reduceLT, Int.reduceEq, Int.reduceNe, Int.reduceBEq, Int.reduceBNe, Nat.reduceBEq, Nat.reduceBNe, ↓reduceIte, reduceCtorEq, ↓reduceDIte, W_draw]
      refine W_for (fun j s' => s'.t 0 = sliceD n xs ∧ s'.t 4 = .int .i64 j ∧ Ext H s'.H ∧ j ≤ xs.length ∧ ((j = 0 ∧ s'.t 3 = .nils ∧ s'.T = T) ∨ (0 < j ∧ ∃ L i, s'.T = T ++ L ∧ s'.t 3 = .sl (some (T.length + i)) ((xs.take j).map kindF) ∧ L[i]? = some (some (j, 4))))) xs.length ⟨0, by simp [upd, argT, ext_self]⟩ (fun i s h => h.2.2.2.1) ?_ (XL_mono _)
      rintro j ⟨t, B, T'⟩ ⟨r0, r4, hE, hj, hc⟩
      simp only at r0 r4 hE hc
      by_cases ha : j < xs.length
      · have d1 : decide ((j : Int) < xs.length) = true := by simpa using ha
        obtain ⟨w3, n3, k3, b3, e3, q3, q4⟩ := isF_get hx ha
        have tk := take_map_succ (f := kindF) e3
        have ek : kindF (mkF w3 n3 k3 b3) = .agg [.str w3, .str n3, .int .i64 (kindN k3), .bool b3] := rfl
        rw [ek] at tk
        simp only [mkF] at e3
        have kN : kindN k3 = IntKind.i64.wrap (1 + IntKind.i64.wrap ((IntKind.u64.wrap k3).tmod 4)) := rfl
        rw [kN] at tk
        rcases hc with ⟨rfl, r3, rfl⟩ | ⟨h0, L, i, rfl, r3, hL⟩
        · simp (config := { contextual := true, maxSteps := 10000000 }) only [r0, r3, r4, d1, e3, hE.ta, go_sem, Nat.reduceAdd, Nat.reduceSub, Nat.reduceMul, Nat.reduceEqDiff, Nat.reduceLeDiff, Nat.reduceLT, Int.reduceToNat, Int.reduceLE, Int.reduceLT, Int.reduceEq, Int.reduceNe, Int.reduceBEq, Int.reduceBNe, Nat.reduceBEq, Nat.reduceBNe, ↓reduceIte, reduceCtorEq, ↓reduceDIte, W_draw]
          have d1' : decide ((0 : Int) < xs.length) = true := d1
          refine ⟨fun _ => ⟨by decide, by decide, by rw [show IntKind.i64.wrap (0 + 1) = 1 from by decide], by omega, .inr ⟨[some (1, 4), some (1, 4)], 1, rfl, ?_, rfl⟩⟩, fun h => ?_⟩
          · rw [show (1 : Nat) = 0 + 1 from rfl, tk]; rfl
          · rw [d1'] at h; cases h
        · have hfit : ((xs.take j).map kindF).all (fit 4) = true := List.all_eq_true.2 fun x hx' => by
            obtain ⟨y, hy, rfl⟩ := List.mem_map.1 hx'
            rfl
          simp (config := { contextual := true, maxSteps := 10000000 }) only [r0, r3, r4, d1, e3, hE.ta, appK_tok, hfit, go_sem, Nat.reduceAdd, Nat.reduceSub, Nat.reduceMul, Nat.reduceEqDiff, Nat.reduceLeDiff, Nat.reduceLT, Int.reduceToNat, Int.reduceLE, Int.reduceLT, Int.reduceEq, Int.reduceNe, Int.reduceBEq, Int.reduceBNe, Nat.reduceBEq, Nat.reduceBNe, ↓reduceIte, reduceCtorEq, ↓reduceDIte, W_draw]
          have hlj : (List.map kindF (List.take j xs)).length = j := by simp; omega
          have hi : i < L.length := by
            rcases Nat.lt_or_ge i L.length with h | h
            · exact h
            · rw [List.getElem?_eq_none h] at hL; cases hL
          refine ⟨by rw [hlj, List.getElem?_append_left hi, hL], by rw [hlj]; omega, by rw [hlj]; omega, by rw [wrap_succ j (by omega)], by omega, .inr ⟨by omega, _, i, rfl, by rw [tk], ?_⟩⟩
          rw [hlj, List.getElem?_set_self (by simp; omega)]
      · have d1 : decide ((j : Int) < xs.length) = false := by simpa using ha
        have ej : j = xs.length := by omega
        subst ej
        rcases hc with ⟨h0, r3, rfl⟩ | ⟨h0, L, i, rfl, r3, hL⟩
        · have : xs = [] := List.length_eq_zero_iff.1 h0
          subst this
          simp (config := { contextual := true, maxSteps := 10000000 }) only [r0, r3, r4, d1, leaves_E hE (ExtT.refl _), go_sem, Nat.reduceAdd, Nat.reduceSub, Nat.reduceMul, Nat.reduceEqDiff, Nat.reduceLeDiff, Nat.reduceLT, Int.reduceToNat, Int.reduceLE, Int.reduceLT, Int.reduceEq, Int.reduceNe, Int.reduceBEq, Int.reduceBNe, Nat.reduceBEq, Nat.reduceBNe, ↓reduceIte, reduceCtorEq, ↓reduceDIte, W_draw]
          rfl
        · rw [List.take_length] at r3
          have hne : xs ≠ [] := by rintro rfl; simp at h0
          simp (config := { contextual := true, maxSteps := 10000000 }) only [r0, r3, r4, d1, leaves_E hE (ExtT.of T L), eK, go_sem, Nat.reduceAdd, Nat.reduceSub, Nat.reduceMul, Nat.reduceEqDiff, Nat.reduceLeDiff, Nat.reduceLT, Int.reduceToNat, Int.reduceLE, Int.reduceLT, Int.reduceEq, Int.reduceNe, Int.reduceBEq, Int.reduceBNe, Nat.reduceBEq, Nat.reduceBNe, ↓reduceIte, reduceCtorEq, ↓reduceDIte, W_draw]
          have : (List.map kindF xs).isEmpty = false := by
            cases xs with
            | nil => exact (hne rfl).elim
            | cons x xs => rfl
          simp [sliceD, this]
    · cases h
  · cases h

def attrE (who name : List UInt8) : D := mkE sAttr 0 0 [] true [] who name true []
theorem attr_isE {who name : List UInt8} (h1 : who.length ≤ 2 ^ 47) (h2 : name.length ≤ 2 ^ 47) : isE 1 (attrE who name) :=
  ⟨sAttr, 0, 0, [], true, [], who, name, true, [], rfl, by decide, h1, h2, ⟨by decide, by decide, by decide⟩, by simp, by simp⟩
theorem attr_typ (fs : List D) (who name : List UInt8) : typR 1 fs (attrE who name) = attR fs who name := by
  unfold typR lt0
  have e1 : eop (attrE who name) = sAttr := rfl
  have e2 : eps (attrE who name) = [] := rfl
  have e3 : arityI sAttr = 0 := by decide
  rw [e1, e2, e3]
  rw [if_neg (by decide), if_pos (by decide)]
  unfold leafR
  rw [e1, if_neg (by decide), if_neg (by decide), if_neg (by decide), if_neg (by decide)]
  rfl
open Classical in
noncomputable def φfits : List D → Option D
  | [fs, s] => if isLs isF fs ∧ isS s then some (.bool (fitsB (elems fs) s)) else none
  | _ => none
set_option maxHeartbeats 8000000 in
theorem ok16 : OkAt Try.prog 16 φfits := by
  refine ok_of (l := [(24, φright), (15, φtypR 1)]) (.cons ok24 (.cons (ok15 1) .nil)) fn16 fun args r h => ?_
  unfold φfits at h
  split at h
  · rename_i fs s
    split at h
    · rename_i hv
      obtain ⟨hf, hs⟩ := hv
      injection h with h; subst h
      refine ⟨by simp, by simp [D.cl], fun H T => ?_⟩
      have pr : φright [s] = some (.bool (rightB s)) := by simp only [φright]; rw [if_pos hs]
      have pt : ∀ who name : List UInt8, who.length ≤ 2 ^ 47 → name.length ≤ 2 ^ 47 → φtypR 1 [fs, attrE who name] = some (tupI (attR (elems fs) who name)) := fun who name h1 h2 => by
        simp only [φtypR]; rw [if_pos ⟨hf, attr_isE h1 h2⟩, attr_typ]
      have ef : fs.erase = fs := by
        obtain ⟨n, xs, rfl, _, hx⟩ := hf
        rw [erase_sliceD, eraseL_id fun x h => isF_erase (hx x h)]
      obtain ⟨now, R, A, rfl, n1, n2, hR, hA⟩ := hs
      have eR := isLs_erase (fun _ => isTx_erase) hR
      have eA := isLs_erase (fun _ => isH_erase) hA
      obtain ⟨nb, l, rfl, hl, hH⟩ := hA
      simp only [fitsB, sA_mk, elems_sliceD]
      obtain ⟨rb, hq⟩ : ∃ z, rightB (mkS now R (sliceD nb l)) = z := ⟨_, rfl⟩
      simp only [hq] at pr ⊢
      clear hq
      simp only [mkS] at pr
      cases rb with
      | false => simp (config := { contextual := true, maxSteps := 10000000 }) only [c16, mkS, eR, eA, ef, pr, go_sem, Nat.reduceAdd, Nat.reduceSub, Nat.reduceMul, Nat.reduceEqDiff, Nat.reduceLeDiff, Nat.reduceLT, Int.reduceToNat, Int.reduceLE, Int.reduceLT, Int.reduceEq, Int.reduceNe, Int.reduceBEq, Int.reduceBNe, Nat.reduceBEq, Nat.reduceBNe, ↓reduceIte, reduceCtorEq, ↓reduceDIte, W_draw]
      | true =>
      simp (config := { contextual := true, maxSteps := 10000000 }) only [c16, mkS, eR, eA, ef, pr, go_sem, Nat.reduceAdd, Nat.reduceSub, Nat.reduceMul, Nat.reduceEqDiff, Nat.reduceLeDiff, Nat.reduceLT, Int.reduceToNat, Int.reduceLE, Int.reduceLT, Int.reduceEq, Int.reduceNe, Int.reduceBEq, Int.reduceBNe, Nat.reduceBEq, Nat.reduceBNe, ↓reduceIte, reduceCtorEq, ↓reduceDIte, W_draw]
      refine W_for (fun j s' => s'.t 0 = fs ∧ s'.t 3 = .ptr H.length 0 ∧ s'.t 5 = .int .i64 j ∧ Ext (H ++ [.row [.int .i64 now, R, sliceD nb l]]) s'.H ∧ s'.T = T ∧ j ≤ l.length ∧ (l.take j).all (fitH (elems fs)) = true) l.length ⟨0, by simp [upd, argT, ext_self]⟩ (fun i s h => h.2.2.2.2.2.1) ?_ (XL_mono _)
      rintro j ⟨t, B, T'⟩ ⟨r0, r3, r5, hE, rfl, hj, hc⟩
      simp only at r0 r3 r5 hE
      have b1 := hE.get (o := H.length) (by simp; rfl)
      by_cases ha : j < l.length
      · have d1 : decide ((j : Int) < l.length) = true := by simpa using ha
        have hx := hH _ (List.getElem_mem ha)
        have ex : l[j]? = some l[j] := by simp [ha]
        have nx := fun hp => all_nx (p := fitH (elems fs)) ex hc hp
        have no := fun hp => all_no (p := fitH (elems fs)) ex hp
        obtain ⟨who, name, k, i, s, nl, l', e, w1, w2, hv⟩ := hx
        rw [e] at ex nx no
        have G : fitH (elems fs) (mkH who name k i s nl l') = (((attR (elems fs) who name).2 == 0) && sitB (mkV k i s nl l') (attR (elems fs) who name).1) := rfl
        rw [G] at nx no
        have pt := pt who name w1 w2
        obtain ⟨⟨ty, f⟩, hq⟩ : ∃ z, attR (elems fs) who name = z := ⟨_, rfl⟩
        simp only [hq] at pt nx no
        clear hq G
        have eL := (mkV_erase hv.1).1
        simp only [attrE, mkE, tupI, sAttr, sliceD, List.isEmpty_nil, Bool.and_self, if_true] at pt
        simp only [mkH] at ex
        simp only [sitB, kv, vk_mk, vl_mk] at nx no
        have eX : (f != 0) = !(f == 0) := rfl
        rcases tf (f == 0) with f1 | f1
        · have f1' : (f != 0) = false := by simp [bne, f1]
          have fin : ∀ kk : Int, True := fun _ => trivial
          rcases tf (k == 5) with g1 | g1
          · by_cases hz : 0 < l'.length
            · have dl : decide ((0 : Int) < l'.length) = true := by simpa using hz
              obtain ⟨k0', i0, s0, n0, l0, e0, _⟩ := get_isV (mkV_erase hv.1).2.2.2 hz
              have fk := vk0_get e0
              simp only [mkV] at e0
              rw [fk] at nx no
              simp only [f1, g1, dl, Bool.and_self, if_true, Bool.true_and] at nx no
              obtain ⟨kk, hq⟩ : ∃ z, IntKind.i64.wrap (10 + k0') = z := ⟨_, rfl⟩
              simp only [hq] at nx no
              rcases tf (kk == ty) with g2 | g2
              · have nx := nx (by rw [g2]; rfl)
                have g2' : (kk != ty) = false := by simp [bne, g2]
                simp (config := { contextual := true, maxSteps := 10000000 }) only [r0, r3, r5, d1, ex, eL, ef, pt, f1, rdAt_E b1, rdAt_Ea b1, hE.ta, leaves_E hE.pre (ExtT.refl _), leaves_Ea hE.pre (ExtT.refl _), f1', g1, dl, e0, hq, g2', wrap_succ j (by omega), go_sem, Nat.reduceAdd, Nat.reduceSub, Nat.reduceMul, Nat.reduceEqDiff, Nat.reduceLeDiff, Nat.reduceLT, Int.reduceToNat, Int.reduceLE, Int.reduceLT, Int.reduceEq, Int.reduceNe, Int.reduceBEq, Int.reduceBNe, Nat.reduceBEq, Nat.reduceBNe, ↓reduceIte, reduceCtorEq, ↓reduceDIte, W_draw]
                exact ⟨by omega, nx⟩
              · have g2' : (kk != ty) = true := by simp [bne, g2]
                rcases tf (kk == 5) with g3 | g3
                · rcases tf (decide (10 < ty)) with g4 | g4
                  · have nx := nx (by rw [g2, g3, g4]; rfl)
                    simp (config := { contextual := true, maxSteps := 10000000 }) only [r0, r3, r5, d1, ex, eL, ef, pt, f1, rdAt_E b1, rdAt_Ea b1, hE.ta, leaves_E hE.pre (ExtT.refl _), leaves_Ea hE.pre (ExtT.refl _), f1', g1, dl, e0, hq, g2', g3, g4, wrap_succ j (by omega), go_sem, Nat.reduceAdd, Nat.reduceSub, Nat.reduceMul, Nat.reduceEqDiff, Nat.reduceLeDiff, Nat.reduceLT, Int.reduceToNat, Int.reduceLE, Int.reduceLT, Int.reduceEq, Int.reduceNe, Int.reduceBEq, Int.reduceBNe, Nat.reduceBEq, Nat.reduceBNe, ↓reduceIte, reduceCtorEq, ↓reduceDIte, W_draw]
                    exact ⟨by omega, nx⟩
                  · have no := no (by rw [g2, g3, g4]; rfl)
                    simp (config := { contextual := true, maxSteps := 10000000 }) only [r0, r3, r5, d1, ex, eL, ef, pt, f1, rdAt_E b1, rdAt_Ea b1, hE.ta, leaves_E hE.pre (ExtT.refl _), leaves_Ea hE.pre (ExtT.refl _), f1', g1, dl, e0, hq, g2', g3, g4, no, go_sem, Nat.reduceAdd, Nat.reduceSub, Nat.reduceMul, Nat.reduceEqDiff, Nat.reduceLeDiff, Nat.reduceLT, Int.reduceToNat, Int.reduceLE, Int.reduceLT, Int.reduceEq, Int.reduceNe, Int.reduceBEq, Int.reduceBNe, Nat.reduceBEq, Nat.reduceBNe, ↓reduceIte, reduceCtorEq, ↓reduceDIte, W_draw]
                · have no := no (by rw [g2, g3]; rfl)
                  simp (config := { contextual := true, maxSteps := 10000000 }) only [r0, r3, r5, d1, ex, eL, ef, pt, f1, rdAt_E b1, rdAt_Ea b1, hE.ta, leaves_E hE.pre (ExtT.refl _), leaves_Ea hE.pre (ExtT.refl _), f1', g1, dl, e0, hq, g2', g3, no, go_sem, Nat.reduceAdd, Nat.reduceSub, Nat.reduceMul, Nat.reduceEqDiff, Nat.reduceLeDiff, Nat.reduceLT, Int.reduceToNat, Int.reduceLE, Int.reduceLT, Int.reduceEq, Int.reduceNe, Int.reduceBEq, Int.reduceBNe, Nat.reduceBEq, Nat.reduceBNe, ↓reduceIte, reduceCtorEq, ↓reduceDIte, W_draw]
            · have dl : decide ((0 : Int) < l'.length) = false := by simp only [decide_eq_false_iff_not]; omega
              simp only [f1, g1, dl, Bool.and_false, Bool.false_eq_true, if_false, Bool.true_and] at nx no
              rcases tf (k == ty) with g2 | g2
              · have nx := nx (by rw [g2]; rfl)
                have g2' : (k != ty) = false := by simp [bne, g2]
                simp (config := { contextual := true, maxSteps := 10000000 }) only [r0, r3, r5, d1, ex, eL, ef, pt, f1, rdAt_E b1, rdAt_Ea b1, hE.ta, leaves_E hE.pre (ExtT.refl _), leaves_Ea hE.pre (ExtT.refl _), f1', g1, dl, g2', wrap_succ j (by omega), go_sem, Nat.reduceAdd, Nat.reduceSub, Nat.reduceMul, Nat.reduceEqDiff, Nat.reduceLeDiff, Nat.reduceLT, Int.reduceToNat, Int.reduceLE, Int.reduceLT, Int.reduceEq, Int.reduceNe, Int.reduceBEq, Int.reduceBNe, Nat.reduceBEq, Nat.reduceBNe, ↓reduceIte, reduceCtorEq, ↓reduceDIte, W_draw]
                exact ⟨by omega, nx⟩
              · have g2' : (k != ty) = true := by simp [bne, g2]
                rcases tf (decide (10 < ty)) with g4 | g4
                · have nx := nx (by rw [g2, g4]; rfl)
                  simp (config := { contextual := true, maxSteps := 10000000 }) only [r0, r3, r5, d1, ex, eL, ef, pt, f1, rdAt_E b1, rdAt_Ea b1, hE.ta, leaves_E hE.pre (ExtT.refl _), leaves_Ea hE.pre (ExtT.refl _), f1', g1, dl, g2', g4, wrap_succ j (by omega), go_sem, Nat.reduceAdd, Nat.reduceSub, Nat.reduceMul, Nat.reduceEqDiff, Nat.reduceLeDiff, Nat.reduceLT, Int.reduceToNat, Int.reduceLE, Int.reduceLT, Int.reduceEq, Int.reduceNe, Int.reduceBEq, Int.reduceBNe, Nat.reduceBEq, Nat.reduceBNe, ↓reduceIte, reduceCtorEq, ↓reduceDIte, W_draw]
                  exact ⟨by omega, nx⟩
                · have no := no (by rw [g2, g4]; rfl)
                  simp (config := { contextual := true, maxSteps := 10000000 }) only [r0, r3, r5, d1, ex, eL, ef, pt, f1, rdAt_E b1, rdAt_Ea b1, hE.ta, leaves_E hE.pre (ExtT.refl _), leaves_Ea hE.pre (ExtT.refl _), f1', g1, dl, g2', g4, no, go_sem, Nat.reduceAdd, Nat.reduceSub, Nat.reduceMul, Nat.reduceEqDiff, Nat.reduceLeDiff, Nat.reduceLT, Int.reduceToNat, Int.reduceLE, Int.reduceLT, Int.reduceEq, Int.reduceNe, Int.reduceBEq, Int.reduceBNe, Nat.reduceBEq, Nat.reduceBNe, ↓reduceIte, reduceCtorEq, ↓reduceDIte, W_draw]
          · simp only [f1, g1, Bool.false_and, Bool.false_eq_true, if_false, Bool.true_and, Bool.or_false] at nx no
            rcases tf (k == ty) with g2 | g2
            · have nx := nx g2
              have g2' : (k != ty) = false := by simp [bne, g2]
              simp (config := { contextual := true, maxSteps := 10000000 }) only [r0, r3, r5, d1, ex, eL, ef, pt, f1, rdAt_E b1, rdAt_Ea b1, hE.ta, leaves_E hE.pre (ExtT.refl _), leaves_Ea hE.pre (ExtT.refl _), f1', g1, g2', wrap_succ j (by omega), go_sem, Nat.reduceAdd, Nat.reduceSub, Nat.reduceMul, Nat.reduceEqDiff, Nat.reduceLeDiff, Nat.reduceLT, Int.reduceToNat, Int.reduceLE, Int.reduceLT, Int.reduceEq, Int.reduceNe, Int.reduceBEq, Int.reduceBNe, Nat.reduceBEq, Nat.reduceBNe, ↓reduceIte, reduceCtorEq, ↓reduceDIte, W_draw]
              exact ⟨by omega, nx⟩
            · have g2' : (k != ty) = true := by simp [bne, g2]
              have no := no g2
              simp (config := { contextual := true, maxSteps := 10000000 }) only [r0, r3, r5, d1, ex, eL, ef, pt, f1, rdAt_E b1, rdAt_Ea b1, hE.ta, leaves_E hE.pre (ExtT.refl _), leaves_Ea hE.pre (ExtT.refl _), f1', g1, g2', no, go_sem, Nat.reduceAdd, Nat.reduceSub, Nat.reduceMul, Nat.reduceEqDiff, Nat.reduceLeDiff, Nat.reduceLT, Int.reduceToNat, Int.reduceLE, Int.reduceLT, Int.reduceEq, Int.reduceNe, Int.reduceBEq, Int.reduceBNe, Nat.reduceBEq, Nat.reduceBNe, ↓reduceIte, reduceCtorEq, ↓reduceDIte, W_draw]
        · have f1' : (f != 0) = true := by simp [bne, f1]
          have no := no (by rw [f1]; rfl)
          simp (config := { contextual := true, maxSteps := 10000000 }) only [r0, r3, r5, d1, ex, eL, ef, pt, f1, rdAt_E b1, rdAt_Ea b1, hE.ta, leaves_E hE.pre (ExtT.refl _), leaves_Ea hE.pre (ExtT.refl _), f1', no, go_sem, Nat.reduceAdd, Nat.reduceSub, Nat.reduceMul, Nat.reduceEqDiff, Nat.reduceLeDiff, Nat.reduceLT, Int.reduceToNat, Int.reduceLE, Int.reduceLT, Int.reduceEq, Int.reduceNe, Int.reduceBEq, Int.reduceBNe, Nat.reduceBEq, Nat.reduceBNe, ↓reduceIte, reduceCtorEq, ↓reduceDIte, W_draw]
      · have d1 : decide ((j : Int) < l.length) = false := by simpa using ha
        have hA : l.all (fitH (elems fs)) = true := by
          have : j = l.length := by omega
          subst this; rw [List.take_length] at hc; exact hc
        simp (config := { contextual := true, maxSteps := 10000000 }) only [r0, r3, r5, d1, hA, rdAt_E b1, leaves_E hE.pre (ExtT.refl _), go_sem, Nat.reduceAdd, Nat.reduceSub, Nat.reduceMul, Nat.reduceEqDiff, Nat.reduceLeDiff, Nat.reduceLT, Int.reduceToNat, Int.reduceLE, Int.reduceLT, Int.reduceEq, Int.reduceNe, Int.reduceBEq, Int.reduceBNe, Nat.reduceBEq, Nat.reduceBNe, ↓reduceIte, reduceCtorEq, ↓reduceDIte, W_draw]
    · cases h
  · cases h
end GP
