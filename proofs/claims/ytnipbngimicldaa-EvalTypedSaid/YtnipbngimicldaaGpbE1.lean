import Derived.Test.YtnipbngimicldaaGpbV3
import Derived.Test.YtnipbngimicldaaGpYe
set_option linter.unusedSimpArgs false
namespace GP
open Go Go.Proofs
set_option maxRecDepth 100000

/-! ### Shapes -/
def isVr (x : D) : Prop := x.isV = true ∧ -(2 ^ 63) ≤ vi x ∧ vi x < 2 ^ 63
def mkE (op : List UInt8) (k i : Int) (s : List UInt8) (nl : Bool) (l : List D) (who name : List UInt8) (m : Bool) (ps : List D) : D :=
  .agg [.str op, .int .i64 k, .int .i64 i, .str s, sliceD nl l, .str who, .str name, sliceD m ps]
/-- An expression's shape, so deep. -/
def isE : Nat → D → Prop
  | 0, _ => False
  | n + 1, d => ∃ op k i s nl l who name m ps, d = mkE op k i s nl l who name m ps ∧ op.length ≤ 2 ^ 47 ∧ who.length ≤ 2 ^ 47 ∧ name.length ≤ 2 ^ 47 ∧ isVr (mkV k i s nl l) ∧ ps.length ≤ 2 ^ 47 ∧ ∀ x ∈ ps, isE n x
theorem mkV_erase {k i : Int} {s : List UInt8} {nl : Bool} {l : List D} (h : (mkV k i s nl l).isV = true) : D.eraseL l = l ∧ s.length ≤ 2 ^ 47 ∧ l.length ≤ 2 ^ 47 ∧ ∀ x ∈ l, x.isV = true := by
  obtain ⟨k', i', s', n', l', e, h1, h2, h3⟩ := isV_elim h
  have e1 := congrArg vs e
  have e2 := congrArg vl e
  simp only [vs_mk, vl_mk] at e1 e2
  subst e1; subst e2
  exact ⟨erase_of_isV h3, h1, h2, h3⟩
theorem isE_mono : ∀ {n : Nat} {d : D}, isE n d → isE (n + 1) d
  | 0, _, h => h.elim
  | _ + 1, _, ⟨op, k, i, s, nl, l, who, name, m, ps, e, h1, h2, h3, h4, h5, h6⟩ => ⟨op, k, i, s, nl, l, who, name, m, ps, e, h1, h2, h3, h4, h5, fun x hx => isE_mono (h6 x hx)⟩
theorem isE_erase : ∀ {n : Nat} {d : D}, isE n d → d.erase = d
  | 0, _, h => h.elim
  | n + 1, d, ⟨op, k, i, s, nl, l, who, name, m, ps, e, h1, h2, h3, h4, h5, h6⟩ => by
    subst e
    have hp : D.eraseL ps = ps := by
      rw [eraseL_map]
      exact (List.map_congr_left fun x hx => isE_erase (h6 x hx)).trans (List.map_id'' (fun _ => rfl) ps)
    simp [mkE, D.erase, D.eraseL, erase_sliceD, (mkV_erase h4.1).1, hp]
theorem isE_cells {n : Nat} {d : D} (h : isE n d) : d.cells.length = 8 ∧ d.cells.take 8 = d.cells ∧ D.agg d.cells = d ∧ d.okc = true := by
  cases n with
  | zero => exact h.elim
  | succ n =>
    obtain ⟨op, k, i, s, nl, l, who, name, m, ps, rfl, _⟩ := h
    exact ⟨rfl, rfl, rfl, rfl⟩
def eop : D → List UInt8
  | .agg (.str s :: _) => s
  | _ => []
def eV : D → D
  | .agg (_ :: a :: b :: c :: d :: _) => .agg [a, b, c, d]
  | _ => .top
def ewho : D → List UInt8
  | .agg (_ :: _ :: _ :: _ :: _ :: .str s :: _) => s
  | _ => []
def ename : D → List UInt8
  | .agg (_ :: _ :: _ :: _ :: _ :: _ :: .str s :: _) => s
  | _ => []
def eps : D → List D
  | .agg (_ :: _ :: _ :: _ :: _ :: _ :: _ :: l :: _) => elems l
  | _ => []
section
variable (op : List UInt8) (k i : Int) (s : List UInt8) (nl : Bool) (l : List D) (who name : List UInt8) (m : Bool) (ps : List D)
theorem eop_mk : eop (mkE op k i s nl l who name m ps) = op := rfl
theorem eV_mk : eV (mkE op k i s nl l who name m ps) = mkV k i s nl l := rfl
theorem ewho_mk : ewho (mkE op k i s nl l who name m ps) = who := rfl
theorem ename_mk : ename (mkE op k i s nl l who name m ps) = name := rfl
theorem eps_mk : eps (mkE op k i s nl l who name m ps) = ps := by simp only [eps, mkE, elems_sliceD]
end

/-- A fact. -/
def mkF (who name : List UInt8) (kind : Int) (bag : Bool) : D := .agg [.str who, .str name, .int .i64 kind, .bool bag]
def isF (d : D) : Prop := ∃ who name kind bag, d = mkF who name kind bag ∧ who.length ≤ 2 ^ 47 ∧ name.length ≤ 2 ^ 47 ∧ -(2 ^ 63) ≤ kind ∧ kind < 2 ^ 63
def fwho : D → List UInt8
  | .agg (.str s :: _) => s
  | _ => []
def fname : D → List UInt8
  | .agg (_ :: .str s :: _) => s
  | _ => []
def fkind : D → Int
  | .agg (_ :: _ :: .int _ k :: _) => k
  | _ => 0
def fbag : D → Bool
  | .agg [_, _, _, .bool b] => b
  | _ => false
theorem isF_erase {d : D} (h : isF d) : d.erase = d := by
  obtain ⟨_, _, _, _, rfl, _⟩ := h; simp [mkF, D.erase, D.eraseL]

/-! ### check -/
def arity0 : List (List UInt8) := [[118, 97, 108, 117, 101], [110, 111, 119], [97, 116, 116, 114], [104, 97, 115], [114, 111, 108, 101]]
def arity1 : List (List UInt8) := [[110, 111, 116], [110, 101, 103], [115, 105, 122, 101]]
def arity2 : List (List UInt8) := [[97, 110, 100], [111, 114], [43], [45], [42], [61, 61], [33, 61], [60], [60, 61], [62], [62, 61], [105, 110]]
def arityI (op : List UInt8) : Int := if arity0.any (op == ·) then 0 else if arity1.any (op == ·) then 1 else if arity2.any (op == ·) then 2 else -1
def φarity : List D → Option D
  | [.str op] => some (.int .i64 (arityI op))
  | _ => none
set_option maxHeartbeats 1000000 in
theorem ok46 : OkAt Try.prog 46 φarity := by
  refine ok_of (l := []) .nil fn46 fun args r h => ?_
  unfold φarity at h
  split at h
  · rename_i op
    injection h with h; subst h
    refine ⟨by simp, by simp [D.cl], fun H T => ?_⟩
    simp only [arityI, arity0, arity1, arity2, List.any_cons, List.any_nil]
    simp (config := { contextual := true, maxSteps := 10000000 }) only [c46, go_sem, Nat.reduceAdd, Nat.reduceSub, Nat.reduceMul, Nat.reduceEqDiff, Nat.reduceLeDiff, Nat.reduceLT, Int.reduceToNat, Int.reduceLE, Int.reduceLT, Int.reduceEq, Int.reduceNe, Int.reduceBEq, Int.reduceBNe, Nat.reduceBEq, Nat.reduceBNe, ↓reduceIte, reduceCtorEq, ↓reduceDIte, W_draw]
  · cases h

def factI (fs : List D) (who name : List UInt8) : Int := match fs.find? (fun f => (fwho f == who) && (fname f == name)) with
  | some f => if fbag f then IntKind.i64.wrap (10 + fkind f) else fkind f
  | none => 0
open Classical in
noncomputable def φfact : List D → Option D
  | [fs, .str who, .str name] => if isLs isF fs then some (.int .i64 (factI (elems fs) who name)) else none
  | _ => none
theorem isF_get {xs : List D} (h : ∀ x ∈ xs, isF x) {i : Nat} (hi : i < xs.length) : ∃ who name kind bag, xs[i]? = some (mkF who name kind bag) ∧ -(2 ^ 63) ≤ kind ∧ kind < 2 ^ 63 := by
  obtain ⟨who, name, kind, bag, e, _, _, h3, h4⟩ := h _ (List.getElem_mem hi)
  exact ⟨who, name, kind, bag, by rw [← e]; simp [hi], h3, h4⟩
theorem find_take_succ {p : D → Bool} {xs : List D} {i : Nat} {x : D} (hx : xs[i]? = some x) (h : (xs.take i).find? p = none) (hp : p x = false) : (xs.take (i + 1)).find? p = none := by
  rw [List.take_add_one, hx]; simp [h, hp]
theorem find_at {p : D → Bool} {xs : List D} {i : Nat} {x : D} (hx : xs[i]? = some x) (h : (xs.take i).find? p = none) (hp : p x = true) : xs.find? p = some x := by
  have e : xs = xs.take i ++ x :: xs.drop (i + 1) := by
    have hi : i < xs.length := by
      rcases Nat.lt_or_ge i xs.length with h' | h'
      · exact h'
      · rw [List.getElem?_eq_none h'] at hx; cases hx
    have : x = xs[i] := by simpa [hi] using hx.symm
    subst this
    simp
  rw [e, List.find?_append, h]
  simp [hp]

set_option maxHeartbeats 2000000 in
theorem ok68 : OkAt Try.prog 68 φfact := by
  refine ok_of (l := []) .nil fn68 fun args r h => ?_
  unfold φfact at h
  split at h
  · rename_i fs who name
    split at h
    · rename_i hf
      injection h with h; subst h
      refine ⟨by simp, by simp [D.cl], fun H T => ?_⟩
      obtain ⟨n, xs, rfl, hl, hx⟩ := hf
      rw [elems_sliceD]
      simp (config := { contextual := true, maxSteps := 10000000 }) only [c68, go_sem, Nat.reduceAdd, Nat.reduceSub, Nat.reduceMul, Nat.reduceEqDiff, Nat.reduceLeDiff, Nat.reduceLT, Int.reduceToNat, Int.reduceLE, Int.reduceLT, Int.reduceEq, Int.reduceNe, Int.reduceBEq, Int.reduceBNe, Nat.reduceBEq, Nat.reduceBNe, ↓reduceIte, reduceCtorEq, ↓reduceDIte, W_draw]
      refine W_for (fun j s' => s'.t 0 = sliceD n xs ∧ s'.t 1 = .str who ∧ s'.t 2 = .str name ∧ s'.t 9 = sliceD n xs ∧ s'.t 10 = .int .i64 xs.length ∧ s'.t 11 = .int .i64 j ∧ Ext H s'.H ∧ s'.T = T ∧ j ≤ xs.length ∧ (xs.take j).find? (fun f => (fwho f == who) && (fname f == name)) = none) xs.length ⟨0, by simp [upd, argT, ext_self]⟩ (fun i s h => h.2.2.2.2.2.2.2.2.1) ?_ (XL_mono _)
      rintro j ⟨t, B, T'⟩ ⟨h0, h1, h2, h9, h10, h11, hE, rfl, hj, hc⟩
      simp only at h0 h1 h2 h9 h10 h11 hE
      by_cases ha : j < xs.length
      · have d1 : decide ((j : Int) < xs.length) = true := by simpa using ha
        obtain ⟨w3, n3, k3, b3, e3, r3, r4⟩ := isF_get hx ha
        have nx := fun hp => find_take_succ e3 hc hp
        have at' := fun hp => find_at e3 hc hp
        have F : ((fwho (mkF w3 n3 k3 b3) == who) && (fname (mkF w3 n3 k3 b3) == name)) = ((w3 == who) && (n3 == name)) := rfl
        rw [F] at nx at'
        have G : ((w3 == who) && (n3 == name)) = true → factI xs who name = if b3 then IntKind.i64.wrap (10 + k3) else k3 := fun h => by unfold factI; rw [at' h]; rfl
        clear at' F
        simp only [mkF] at e3
        simp (config := { contextual := true, maxSteps := 10000000 }) only [h0, h1, h2, h9, h10, h11, d1, e3, wrap_succ j (by omega), hE.ta, leaves_Ea hE (ExtT.refl _), go_sem, Nat.reduceAdd, Nat.reduceSub, Nat.reduceMul, Nat.reduceEqDiff, Nat.reduceLeDiff, Nat.reduceLT, Int.reduceToNat, Int.reduceLE, Int.reduceLT, Int.reduceEq, Int.reduceNe, Int.reduceBEq, Int.reduceBNe, Nat.reduceBEq, Nat.reduceBNe, ↓reduceIte, reduceCtorEq, ↓reduceDIte, W_draw]
        (all_goals ((repeat' (first | apply And.intro | intro _)) <;> (first | rfl | omega | (simp_all; done) | grind)))
      · have d1 : decide ((j : Int) < xs.length) = false := by simpa using ha
        have hA : factI xs who name = 0 := by
          have : j = xs.length := by omega
          subst this; rw [List.take_length] at hc
          unfold factI; rw [hc]
        simp (config := { contextual := true, maxSteps := 10000000 }) only [h0, h1, h2, h9, h10, h11, d1, hA, leaves_E hE (ExtT.refl _), go_sem, Nat.reduceAdd, Nat.reduceSub, Nat.reduceMul, Nat.reduceEqDiff, Nat.reduceLeDiff, Nat.reduceLT, Int.reduceToNat, Int.reduceLE, Int.reduceLT, Int.reduceEq, Int.reduceNe, Int.reduceBEq, Int.reduceBNe, Nat.reduceBEq, Nat.reduceBNe, ↓reduceIte, reduceCtorEq, ↓reduceDIte, W_draw]
    · cases h
  · cases h

/-- A literal's type; 0: it can't be in an expression. -/
def litI (v : D) : Int := if !(formedB v) || (vk v == 0) || ((vk v == 5) && (((vl v).length : Int) == 0)) then 0 else if vk v == 5 then IntKind.i64.wrap (10 + vk0 (vl v)) else vk v
open Classical in
noncomputable def φlit : List D → Option D
  | [v] => if isVr v then some (.int .i64 (litI v)) else none
  | _ => none
theorem ok67 : OkAt Try.prog 67 φlit := by
  refine ok_of (l := [(40, φFormed)]) (.cons ok40 .nil) fn67 fun args r h => ?_
  unfold φlit at h
  split at h
  · rename_i v
    split at h
    · rename_i hv
      injection h with h; subst h
      refine ⟨by simp, by simp [D.cl], fun H T => ?_⟩
      have pv : φFormed [v] = some (.bool (formedB v)) := by simp [φFormed, hv.1, formed_same]
      unfold litI
      generalize formedB v = fb at *
      obtain ⟨k, i, s, n, xs, rfl, hs, hx, hV⟩ := isV_elim hv.1
      have eL := erase_of_isV hV
      simp only [vk_mk, vl_mk]
      simp only [mkV] at pv
      by_cases h0 : 0 < xs.length
      · obtain ⟨k0, i0, s0, n0, l0, e0, _⟩ := get_isV hV h0
        have fk := vk0_get e0
        have d1 : (((xs.length : Int)) == 0) = false := by rw [beq_eq_false_iff_ne]; omega
        simp (config := { contextual := true, maxSteps := 10000000 }) only [c67, mkV, pv, eL, d1, e0, fk, go_sem, Nat.reduceAdd, Nat.reduceSub, Nat.reduceMul, Nat.reduceEqDiff, Nat.reduceLeDiff, Nat.reduceLT, Int.reduceToNat, Int.reduceLE, Int.reduceLT, Int.reduceEq, Int.reduceNe, Int.reduceBEq, Int.reduceBNe, Nat.reduceBEq, Nat.reduceBNe, ↓reduceIte, reduceCtorEq, ↓reduceDIte, W_draw]
        (all_goals ((repeat' (first | apply And.intro | intro _)) <;> (first | rfl | omega | (simp_all; done) | grind)))
      · have d1 : (((xs.length : Int)) == 0) = true := by rw [beq_iff_eq]; omega
        simp (config := { contextual := true, maxSteps := 10000000 }) only [c67, mkV, pv, eL, d1, go_sem, Nat.reduceAdd, Nat.reduceSub, Nat.reduceMul, Nat.reduceEqDiff, Nat.reduceLeDiff, Nat.reduceLT, Int.reduceToNat, Int.reduceLE, Int.reduceLT, Int.reduceEq, Int.reduceNe, Int.reduceBEq, Int.reduceBNe, Nat.reduceBEq, Nat.reduceBNe, ↓reduceIte, reduceCtorEq, ↓reduceDIte, W_draw]
        (all_goals ((repeat' (first | apply And.intro | intro _)) <;> (first | rfl | omega | (simp_all; done) | grind)))
    · cases h
  · cases h

def sVal : List UInt8 := [118, 97, 108, 117, 101]
def sNow : List UInt8 := [110, 111, 119]
def sAttr : List UInt8 := [97, 116, 116, 114]
def sHas : List UInt8 := [104, 97, 115]
def sRole : List UInt8 := [114, 111, 108, 101]
def sNot : List UInt8 := [110, 111, 116]
def sNeg : List UInt8 := [110, 101, 103]
def sSize : List UInt8 := [115, 105, 122, 101]
def sAnd : List UInt8 := [97, 110, 100]
def sOr : List UInt8 := [111, 114]
def sIn : List UInt8 := [105, 110]
/-- The type of what has no parts. -/
def noneI (fs : List D) (e : D) : Int × Int :=
  if eop e == sVal then (if litI (eV e) != 0 then (litI (eV e), 0) else (0, 2)) else
  if eop e == sNow then (4, 0) else if eop e == sRole then (1, 0) else
  if factI fs (ewho e) (ename e) == 0 then (0, 8) else if eop e == sHas then (1, 0) else (factI fs (ewho e) (ename e), 0)
def tupI (p : Int × Int) : D := .tup [.int .i64 p.1, .int .i64 p.2]
theorem tupI_cl (p : Int × Int) : (tupI p).cl 0 0 = true := by simp [tupI, D.cl, D.clL]
open Classical in
noncomputable def φnone : List D → Option D
  | [fs, e] => if isLs isF fs ∧ ∃ n, isE n e then some (tupI (noneI (elems fs) e)) else none
  | _ => none
theorem isE_elim {n : Nat} {d : D} (h : isE n d) : ∃ op k i s nl l who name m ps, d = mkE op k i s nl l who name m ps ∧ op.length ≤ 2 ^ 47 ∧ who.length ≤ 2 ^ 47 ∧ name.length ≤ 2 ^ 47 ∧ isVr (mkV k i s nl l) ∧ ps.length ≤ 2 ^ 47 ∧ (∀ x ∈ ps, isE (n - 1) x) ∧ D.eraseL l = l ∧ D.eraseL ps = ps := by
  cases n with
  | zero => exact h.elim
  | succ n =>
    obtain ⟨op, k, i, s, nl, l, who, name, m, ps, rfl, h1, h2, h3, h4, h5, h6⟩ := h
    exact ⟨op, k, i, s, nl, l, who, name, m, ps, rfl, h1, h2, h3, h4, h5, h6, (mkV_erase h4.1).1, eraseL_id fun x hx => isE_erase (h6 x hx)⟩
set_option maxHeartbeats 1000000 in
theorem ok47 : OkAt Try.prog 47 φnone := by
  refine ok_of (l := [(67, φlit), (68, φfact)]) (.cons ok67 (.cons ok68 .nil)) fn47 fun args r h => ?_
  unfold φnone at h
  split at h
  · rename_i fs e
    split at h
    · rename_i hv
      injection h with h; subst h
      refine ⟨by simp, tupI_cl _, fun H T => ?_⟩
      obtain ⟨hf, m, he⟩ := hv
      obtain ⟨op, k, i, s, nl, l, who, name, m, ps, rfl, h1, h2, h3, h4, h5, h6, eL, eP⟩ := isE_elim he
      have pf : φfact [fs, .str who, .str name] = some (.int .i64 (factI (elems fs) who name)) := by simp only [φfact]; rw [if_pos hf]
      have pv : φlit [mkV k i s nl l] = some (.int .i64 (litI (mkV k i s nl l))) := by simp only [φlit]; rw [if_pos h4]
      have ef : fs.erase = fs := by
        obtain ⟨n, xs, rfl, _, hx⟩ := hf
        rw [erase_sliceD, eraseL_id fun x h => isF_erase (hx x h)]
      simp only [noneI, eop_mk, eV_mk, ewho_mk, ename_mk, sVal, sNow, sRole, sHas]
      obtain ⟨lt, hlt⟩ : ∃ x, litI (mkV k i s nl l) = x := ⟨_, rfl⟩
      simp only [hlt] at pv ⊢
      simp only [mkV] at pv
      simp (config := { contextual := true, maxSteps := 10000000 }) only [c47, mkE, pf, pv, eL, eP, ef, tupI, go_sem, Nat.reduceAdd, Nat.reduceSub, Nat.reduceMul, Nat.reduceEqDiff, Nat.reduceLeDiff, Nat.reduceLT, Int.reduceToNat, Int.reduceLE, Int.reduceLT, Int.reduceEq, Int.reduceNe, Int.reduceBEq, Int.reduceBNe, Nat.reduceBEq, Nat.reduceBNe, ↓reduceIte, reduceCtorEq, ↓reduceDIte, W_draw]
      (all_goals ((repeat' (first | apply And.intro | intro _)) <;> (first | rfl | omega | (simp_all; done) | grind)))
    · cases h
  · cases h

def oneI (op : List UInt8) (t : Int) : Int := if (op == sNot) && (t == 1) then 1 else if (op == sNeg) && (t == 2) || (op == sSize) && decide (10 < t) then 2 else 0
def φone1 : List D → Option D
  | [.str op, .int .i64 t] => some (.int .i64 (oneI op t))
  | _ => none
theorem ok48 : OkAt Try.prog 48 φone1 := by
  refine ok_of (l := []) .nil fn48 fun args r h => ?_
  unfold φone1 at h
  split at h
  · injection h with h; subst h
    refine ⟨by simp, by simp [D.cl], fun H T => ?_⟩
    simp only [oneI, sNot, sNeg, sSize]
    simp (config := { contextual := true, maxSteps := 10000000 }) only [c48, go_sem, Nat.reduceAdd, Nat.reduceSub, Nat.reduceMul, Nat.reduceEqDiff, Nat.reduceLeDiff, Nat.reduceLT, Int.reduceToNat, Int.reduceLE, Int.reduceLT, Int.reduceEq, Int.reduceNe, Int.reduceBEq, Int.reduceBNe, Nat.reduceBEq, Nat.reduceBNe, ↓reduceIte, reduceCtorEq, ↓reduceDIte, W_draw]
    (all_goals ((repeat' (first | apply And.intro | intro _)) <;> (first | rfl | omega | (simp_all; done) | grind)))
  · cases h
def sumT (op : List UInt8) (a b : Int) : Int := if (a == 2) && (b == 2) then 2 else if (op != [42]) && (a == 4) && (b == 2) then 4 else if (op == [45]) && (a == 4) && (b == 4) then 2 else 0
def φsumT : List D → Option D
  | [.str op, .int .i64 a, .int .i64 b] => some (.int .i64 (sumT op a b))
  | _ => none
theorem ok69 : OkAt Try.prog 69 φsumT := by
  refine ok_of (l := []) .nil fn69 fun args r h => ?_
  unfold φsumT at h
  split at h
  · injection h with h; subst h
    refine ⟨by simp, by simp [D.cl], fun H T => ?_⟩
    simp only [sumT]
    simp (config := { contextual := true, maxSteps := 10000000 }) only [c69, go_sem, Nat.reduceAdd, Nat.reduceSub, Nat.reduceMul, Nat.reduceEqDiff, Nat.reduceLeDiff, Nat.reduceLT, Int.reduceToNat, Int.reduceLE, Int.reduceLT, Int.reduceEq, Int.reduceNe, Int.reduceBEq, Int.reduceBNe, Nat.reduceBEq, Nat.reduceBNe, ↓reduceIte, reduceCtorEq, ↓reduceDIte, W_draw]
    (all_goals ((repeat' (first | apply And.intro | intro _)) <;> (first | rfl | omega | (simp_all; done) | grind)))
  · cases h
def twoOk (op : List UInt8) (a b : Int) : Bool :=
  if (op == sAnd) || (op == sOr) then (a == 1) && (b == 1) else
  if (op == [61, 61]) || (op == [33, 61]) then a == b else
  if op == sIn then b == IntKind.i64.wrap (10 + a) else (a == b) && (a != 1) && decide (a < 10)
def twoI (op : List UInt8) (a b : Int) : Int := if (op == [43]) || (op == [45]) || (op == [42]) then sumT op a b else if twoOk op a b then 1 else 0
def φtwoT : List D → Option D
  | [.str op, .int .i64 a, .int .i64 b] => some (.int .i64 (twoI op a b))
  | _ => none
set_option maxHeartbeats 1000000 in
theorem ok49 : OkAt Try.prog 49 φtwoT := by
  refine ok_of (l := [(69, φsumT)]) (.cons ok69 .nil) fn49 fun args r h => ?_
  unfold φtwoT at h
  split at h
  · rename_i op a b
    injection h with h; subst h
    refine ⟨by simp, by simp [D.cl], fun H T => ?_⟩
    simp only [twoI, twoOk, sAnd, sOr, sIn]
    simp (config := { contextual := true, maxSteps := 10000000 }) only [c49, φsumT, go_sem, Nat.reduceAdd, Nat.reduceSub, Nat.reduceMul, Nat.reduceEqDiff, Nat.reduceLeDiff, Nat.reduceLT, Int.reduceToNat, Int.reduceLE, Int.reduceLT, Int.reduceEq, Int.reduceNe, Int.reduceBEq, Int.reduceBNe, Nat.reduceBEq, Nat.reduceBNe, ↓reduceIte, reduceCtorEq, ↓reduceDIte, W_draw]
    (all_goals ((repeat' (first | apply And.intro | intro _)) <;> (first | rfl | omega | (simp_all; done) | grind)))
  · cases h

/-- An expression's type, and its error. -/
def typI : Nat → List D → D → Int × Int
  | 0, _, _ => (0, 2)
  | n + 1, fs, e =>
    if decide (arityI (eop e) < 0) || (((eps e).length : Int) != arityI (eop e)) then (0, 2) else
    if arityI (eop e) == 0 then noneI fs e else
    if (typI n fs ((eps e).getD 0 .top)).2 != 0 then (0, (typI n fs ((eps e).getD 0 .top)).2) else
    if arityI (eop e) == 2 then
      if (typI n fs ((eps e).getD 1 .top)).2 != 0 then (0, (typI n fs ((eps e).getD 1 .top)).2) else
      if twoI (eop e) (typI n fs ((eps e).getD 0 .top)).1 (typI n fs ((eps e).getD 1 .top)).1 == 0 then (0, 6) else (twoI (eop e) (typI n fs ((eps e).getD 0 .top)).1 (typI n fs ((eps e).getD 1 .top)).1, 0)
    else if oneI (eop e) (typI n fs ((eps e).getD 0 .top)).1 == 0 then (0, 6) else (oneI (eop e) (typI n fs ((eps e).getD 0 .top)).1, 0)
open Classical in
noncomputable def φtyp (n : Nat) : List D → Option D
  | [fs, e] => if isLs isF fs ∧ isE n e then some (tupI (typI n (elems fs) e)) else none
  | _ => none
theorem arity_cases (op : List UInt8) : arityI op = 0 ∨ arityI op = 1 ∨ arityI op = 2 ∨ arityI op = -1 := by unfold arityI; (repeat' split) <;> simp
set_option maxHeartbeats 4000000 in
theorem ok30 : ∀ n, OkAt Try.prog 30 (φtyp n)
  | 0 => fun args r h => by
    unfold φtyp at h
    split at h
    · split at h
      · rename_i h'; exact h'.2.elim
      · cases h
    · cases h
  | n + 1 => by
    refine ok_of (l := [(46, φarity), (47, φnone), (48, φone1), (49, φtwoT), (30, φtyp n)]) (.cons ok46 (.cons ok47 (.cons ok48 (.cons ok49 (.cons (ok30 n) .nil))))) fn30 fun args r h => ?_
    unfold φtyp at h
    split at h
    · rename_i fs e
      split at h
      · rename_i hv
        injection h with h; subst h
        refine ⟨by simp, tupI_cl _, fun H T => ?_⟩
        obtain ⟨hf, he⟩ := hv
        have pn : φnone [fs, e] = some (tupI (noneI (elems fs) e)) := by simp only [φnone]; rw [if_pos ⟨hf, _, he⟩]
        obtain ⟨op, k, i, s, nl, l, who, name, m, ps, rfl, h1, h2, h3, h4, h5, h6, eL, eP⟩ := isE_elim he
        have ef : fs.erase = fs := by
          obtain ⟨n, xs, rfl, _, hx⟩ := hf
          rw [erase_sliceD, eraseL_id fun x h => isF_erase (hx x h)]
        simp only [typI, eop_mk, eps_mk]
        have ac := arity_cases op
        have pa : φarity [.str op] = some (.int .i64 (arityI op)) := rfl
        obtain ⟨nn, hnn⟩ : ∃ x, noneI (elems fs) (mkE op k i s nl l who name m ps) = x := ⟨_, rfl⟩
        simp only [hnn] at pn ⊢
        obtain ⟨ar, har⟩ : ∃ x, arityI op = x := ⟨_, rfl⟩
        simp only [har] at pa ac ⊢
        simp only [mkE] at pn
        have child : ∀ i, i < ps.length → ∃ x, ps[i]? = some x ∧ ps.getD i .top = x ∧ x.cells.length = 8 ∧ x.cells.take 8 = x.cells ∧ D.agg x.cells = x ∧ x.erase = x ∧ φtyp n [fs, x] = some (tupI (typI n (elems fs) x)) := fun i hi => by
          have hx := h6 _ (List.getElem_mem hi)
          obtain ⟨c1, c2, c3, _⟩ := isE_cells hx
          exact ⟨_, by simp [hi], by simp [hi], c1, c2, c3, isE_erase hx, by simp only [φtyp]; rw [if_pos ⟨hf, hx⟩]⟩
        by_cases hl : (ps.length : Int) = ar
        · have dl : ((ps.length : Int) != ar) = false := by simp [hl]
          rcases ac with rfl | rfl | rfl | rfl
          · simp (config := { contextual := true, maxSteps := 10000000 }) only [c30, mkE, pa, pn, eL, eP, ef, dl, tupI, go_sem, Nat.reduceAdd, Nat.reduceSub, Nat.reduceMul, Nat.reduceEqDiff, Nat.reduceLeDiff, Nat.reduceLT, Int.reduceToNat, Int.reduceLE, Int.reduceLT, Int.reduceEq, Int.reduceNe, Int.reduceBEq, Int.reduceBNe, Nat.reduceBEq, Nat.reduceBNe, ↓reduceIte, reduceCtorEq, ↓reduceDIte, W_draw]
          · obtain ⟨x, e0, g0, x1, x2, x3, x4, px⟩ := child 0 (by omega)
            rw [g0]
            obtain ⟨tx, htx⟩ : ∃ z, typI n (elems fs) x = z := ⟨_, rfl⟩
            simp only [htx] at px ⊢
            simp (config := { contextual := true, maxSteps := 10000000 }) only [c30, mkE, pa, pn, eL, eP, ef, dl, tupI, e0, x1, x2, x3, x4, px, φone1, go_sem, Nat.reduceAdd, Nat.reduceSub, Nat.reduceMul, Nat.reduceEqDiff, Nat.reduceLeDiff, Nat.reduceLT, Int.reduceToNat, Int.reduceLE, Int.reduceLT, Int.reduceEq, Int.reduceNe, Int.reduceBEq, Int.reduceBNe, Nat.reduceBEq, Nat.reduceBNe, ↓reduceIte, reduceCtorEq, ↓reduceDIte, W_draw]
            (all_goals ((repeat' (first | apply And.intro | intro _)) <;> (first | rfl | omega | (simp_all; done) | grind)))
          · obtain ⟨x, e0, g0, x1, x2, x3, x4, px⟩ := child 0 (by omega)
            obtain ⟨y, e1, g1, y1, y2, y3, y4, py⟩ := child 1 (by omega)
            rw [g0, g1]
            obtain ⟨tx, htx⟩ : ∃ z, typI n (elems fs) x = z := ⟨_, rfl⟩
            simp only [htx] at px ⊢
            obtain ⟨ty, hty⟩ : ∃ z, typI n (elems fs) y = z := ⟨_, rfl⟩
            simp only [hty] at py ⊢
            simp (config := { contextual := true, maxSteps := 10000000 }) only [c30, mkE, pa, pn, eL, eP, ef, dl, tupI, e0, x1, x2, x3, x4, px, e1, y1, y2, y3, y4, py, φone1, φtwoT, go_sem, Nat.reduceAdd, Nat.reduceSub, Nat.reduceMul, Nat.reduceEqDiff, Nat.reduceLeDiff, Nat.reduceLT, Int.reduceToNat, Int.reduceLE, Int.reduceLT, Int.reduceEq, Int.reduceNe, Int.reduceBEq, Int.reduceBNe, Nat.reduceBEq, Nat.reduceBNe, ↓reduceIte, reduceCtorEq, ↓reduceDIte, W_draw]
            (all_goals ((repeat' (first | apply And.intro | intro _)) <;> (first | rfl | omega | (simp_all; done) | grind)))
          · omega
        · have dl : ((ps.length : Int) != ar) = true := by simp [hl]
          simp (config := { contextual := true, maxSteps := 10000000 }) only [c30, mkE, pa, pn, eL, eP, ef, dl, tupI, go_sem, Nat.reduceAdd, Nat.reduceSub, Nat.reduceMul, Nat.reduceEqDiff, Nat.reduceLeDiff, Nat.reduceLT, Int.reduceToNat, Int.reduceLE, Int.reduceLT, Int.reduceEq, Int.reduceNe, Int.reduceBEq, Int.reduceBNe, Nat.reduceBEq, Nat.reduceBNe, ↓reduceIte, reduceCtorEq, ↓reduceDIte, W_draw]
          (all_goals ((repeat' (first | apply And.intro | intro _)) <;> (first | rfl | omega | (simp_all; done) | grind)))
      · cases h
    · cases h
end GP
