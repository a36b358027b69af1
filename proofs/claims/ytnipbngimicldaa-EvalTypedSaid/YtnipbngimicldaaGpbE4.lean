import Derived.Test.YtnipbngimicldaaGpbE3
set_option linter.unusedSimpArgs false
namespace GP
open Go Go.Proofs
set_option maxRecDepth 100000

/-! ### Values of expressions -/
def truV (b : Bool) : D := .agg [.int .i64 1, .int .i64 (if b then 1 else 0), .str [], .nils]
def tupV (p : D × Int) : D := .tup [p.1, .int .i64 p.2]
def unt : D → D × Int
  | .tup [v, .int _ e] => (v, e)
  | _ => (zeroV, 0)
def truT : D → D × Int
  | .tup [.bool b, .int _ e] => if e != 0 then (zeroV, e) else (truV b, 0)
  | _ => (zeroV, 0)
theorem isVr_zero : isVr zeroV := ⟨by decide, by decide, by decide⟩
theorem isVr_tru (b : Bool) : isVr (truV b) := by cases b <;> exact ⟨by decide, by decide, by decide⟩
theorem isVr_val {k n : Int} (h1 : -(2 ^ 63) ≤ n) (h2 : n < 2 ^ 63) : isVr (valV k n) := ⟨by simp [valV, D.isV], by simpa [valV, vi] using h1, by simpa [valV, vi] using h2⟩
theorem vOp {v : D} (h : isVr v) : v.okc = true ∧ v.cells.length = 4 ∧ v.cells.take 4 = v.cells ∧ D.agg v.cells = v ∧ v.erase = v ∧ v.cl 0 0 = true := by
  have e := isV_erase h.1
  have c := isVr_cl h
  obtain ⟨k, i, s, n, l, rfl, _⟩ := isV_elim h.1
  exact ⟨rfl, rfl, rfl, rfl, e, c⟩
def isRes (p : D × Int) : Prop := isVr p.1
theorem res_cl {p : D × Int} (h : isRes p) : (tupV p).cl 0 0 = true := by simp [tupV, D.cl, D.clL, (vOp h).2.2.2.2.2]
theorem wrap_rg (n : Int) : -(2 ^ 63) ≤ IntKind.i64.wrap n ∧ IntKind.i64.wrap n < 2 ^ 63 := by rw [wrapIY]; split <;> omega
theorem outN_res (n : Int) (ok : Bool) : ∃ p, outN (IntKind.i64.wrap n) ok = tupV p ∧ isRes p := by
  obtain ⟨a, b⟩ := wrap_rg n
  cases ok
  · exact ⟨(zeroV, 7), rfl, isVr_zero⟩
  · exact ⟨(num _, 0), rfl, isVr_val a b⟩
theorem outT_res (n : Int) (ok : Bool) : ∃ p, outT (IntKind.i64.wrap n) ok = tupV p ∧ isRes p := by
  obtain ⟨a, b⟩ := wrap_rg n
  unfold outT
  cases timeOk (IntKind.i64.wrap n) ok
  · exact ⟨(zeroV, 7), rfl, isVr_zero⟩
  · exact ⟨(valV 4 _, 0), rfl, isVr_val a b⟩
theorem addV_res (fa fb : Bool) (k1 i1 k2 i2 : Int) : ∃ p, addV fa fb k1 i1 k2 i2 = tupV p ∧ isRes p := by
  unfold addV
  split
  · exact ⟨(zeroV, 1), rfl, isVr_zero⟩
  · split
    · exact outN_res _ _
    · split
      · exact outT_res _ _
      · exact ⟨(zeroV, 6), rfl, isVr_zero⟩
theorem subV_res (fa fb : Bool) (k1 i1 k2 i2 : Int) : ∃ p, subV fa fb k1 i1 k2 i2 = tupV p ∧ isRes p := by
  unfold subV
  split
  · exact ⟨(zeroV, 1), rfl, isVr_zero⟩
  · split
    · exact outN_res _ _
    · split
      · exact outT_res _ _
      · exact ⟨(zeroV, 6), rfl, isVr_zero⟩
theorem mulV_res (fa fb : Bool) (k1 i1 k2 i2 : Int) : ∃ p, mulV fa fb k1 i1 k2 i2 = tupV p ∧ isRes p := by
  unfold mulV
  split
  · exact ⟨(zeroV, 1), rfl, isVr_zero⟩
  · split
    · exact ⟨(zeroV, 6), rfl, isVr_zero⟩
    · exact outN_res _ _
theorem unt_tup (p : D × Int) : unt (tupV p) = p := rfl

def leafI (s e : D) : D × Int :=
  if eop e == sVal then (eV e, 0) else if eop e == sNow then (valV 4 (sNw s), 0) else
  if eop e == sRole then (truV ((sR s).any (fun x => ename e == strOf x)), 0) else
  if eop e == sHas then (truV (hadV (sA s) (ewho e) (ename e)).isSome, 0) else
  match hadV (sA s) (ewho e) (ename e) with
  | some v => (v, 0)
  | none => (zeroV, 8)
def oneV (op : List UInt8) (v : D) : D × Int :=
  if (op == sNot) && (vk v == 1) then (truV (vi v == 0), 0) else
  if (op == sNeg) && (vk v == 2) then unt (subV (formedB (num 0)) (formedB v) (vk (num 0)) (vi (num 0)) (vk v) (vi v)) else
  if (op == sSize) && (vk v == 5) then (num ((vl v).length : Int), 0) else (zeroV, 6)
def twoV (op : List UInt8) (a b : D) : D × Int :=
  if op == [43] then unt (addV (formedB a) (formedB b) (vk a) (vi a) (vk b) (vi b)) else
  if op == [45] then unt (subV (formedB a) (formedB b) (vk a) (vi a) (vk b) (vi b)) else
  if op == [42] then unt (mulV (formedB a) (formedB b) (vk a) (vi a) (vk b) (vi b)) else
  if op == sIn then truT (inV a b) else truT (cmpV op a b)
def eitherV (p q : Bool × Int) (d : Bool) : D × Int :=
  if ((p.2 == 0) && (p.1 == d)) || ((q.2 == 0) && (q.1 == d)) then (truV d, 0) else
  if p.2 != 0 then (zeroV, p.2) else if q.2 != 0 then (zeroV, q.2) else (truV (!d), 0)
def tstE (p : D × Int) : Int := if (p.2 == 0) && (vk p.1 != 1) then 6 else p.2
def tstV (p : D × Int) : Bool × Int := ((tstE p == 0) && (vi p.1 == 1), tstE p)
def part (e : D) (i : Nat) : D := (eps e).getD i .top
/-- An expression's value in a scene. -/
def evI : Nat → D → D → D × Int
  | 0, _, _ => (zeroV, 0)
  | n + 1, s, e =>
    if ((eps e).length : Int) == 0 then leafI s e else
    if eop e == sAnd then eitherV (tstV (evI n s (part e 0))) (tstV (evI n s (part e 1))) false else
    if eop e == sOr then eitherV (tstV (evI n s (part e 0))) (tstV (evI n s (part e 1))) true else
    if (evI n s (part e 0)).2 != 0 then (zeroV, (evI n s (part e 0)).2) else
    if ((eps e).length : Int) == 1 then oneV (eop e) (evI n s (part e 0)).1 else
    if (evI n s (part e 1)).2 != 0 then (zeroV, (evI n s (part e 1)).2) else
    twoV (eop e) (evI n s (part e 0)).1 (evI n s (part e 1)).1
/-- All ops have as many parts as they take. -/
def fmA : Nat → D → Bool
  | 0, _ => false
  | n + 1, e => (((eps e).length : Int) == arityI (eop e)) && (eps e).all (fmA n)

theorem leafI_res {n : Nat} {s e : D} (hs : isS s) (he : isE n e) : isRes (leafI s e) := by
  obtain ⟨op, k, i, t, nl, l, who, name, m, ps, rfl, _, _, _, h4, _⟩ := isE_elim he
  obtain ⟨now, R, A, rfl, n1, n2, hR, hA⟩ := hs
  unfold leafI
  simp only [eV_mk, sNw_mk, sA_mk]
  split
  · exact h4
  split
  · exact isVr_val n1 n2
  split
  · exact isVr_tru _
  split
  · exact isVr_tru _
  obtain ⟨nb, l, rfl, hl, hH⟩ := hA
  simp only [hadV, elems_sliceD]
  cases h : l.find? (hadP (ewho (mkE op k i t nl _ who name m ps)) (ename (mkE op k i t nl _ who name m ps))) with
  | none => exact isVr_zero
  | some x => exact isH_V (hH x (List.mem_of_find?_eq_some h))
theorem truT_res (d : D) : isRes (truT d) := by
  unfold truT
  split
  · split
    · exact isVr_zero
    · exact isVr_tru _
  · exact isVr_zero
theorem oneV_res (op : List UInt8) {v : D} (hv : isVr v) : isRes (oneV op v) := by
  unfold oneV
  split
  · exact isVr_tru _
  split
  · obtain ⟨p, e, h⟩ := subV_res (formedB (num 0)) (formedB v) (vk (num 0)) (vi (num 0)) (vk v) (vi v)
    rw [e]; exact h
  split
  · obtain ⟨k, i, s, n, l, rfl, _, hl, _⟩ := isV_elim hv.1
    rw [vl_mk]; exact isVr_val (by omega) (by omega)
  · exact isVr_zero
theorem twoV_res (op : List UInt8) (a b : D) : isRes (twoV op a b) := by
  unfold twoV
  split
  · obtain ⟨p, e, h⟩ := addV_res (formedB a) (formedB b) (vk a) (vi a) (vk b) (vi b)
    rw [e]; exact h
  split
  · obtain ⟨p, e, h⟩ := subV_res (formedB a) (formedB b) (vk a) (vi a) (vk b) (vi b)
    rw [e]; exact h
  split
  · obtain ⟨p, e, h⟩ := mulV_res (formedB a) (formedB b) (vk a) (vi a) (vk b) (vi b)
    rw [e]; exact h
  split
  · exact truT_res _
  · exact truT_res _
theorem eitherV_res (p q : Bool × Int) (d : Bool) : isRes (eitherV p q d) := by
  unfold eitherV
  split
  · exact isVr_tru _
  split
  · exact isVr_zero
  split
  · exact isVr_zero
  · exact isVr_tru _
theorem part_isE {n : Nat} {e : D} (he : isE (n + 1) e) {i : Nat} (hi : i < (eps e).length) : isE n (part e i) ∧ part e i ∈ eps e := by
  obtain ⟨op, k, j, t, nl, l, who, name, m, ps, rfl, _, _, _, _, _, h6⟩ := he
  rw [eps_mk] at hi
  have e1 : part (mkE op k j t nl l who name m ps) i = ps[i] := by simp [part, eps_mk, hi]
  rw [e1, eps_mk]
  exact ⟨h6 _ (List.getElem_mem hi), List.getElem_mem hi⟩
theorem fmA_part {n : Nat} {e : D} (hf : fmA (n + 1) e = true) {x : D} (hx : x ∈ eps e) : fmA n x = true := by
  simp only [fmA, Bool.and_eq_true, List.all_eq_true] at hf
  exact hf.2 x hx
theorem fmA_len {n : Nat} {e : D} (hf : fmA (n + 1) e = true) : ((eps e).length : Int) = arityI (eop e) := by
  simp only [fmA, Bool.and_eq_true, beq_iff_eq] at hf
  exact hf.1
theorem evI_res : ∀ {n : Nat} {s e : D}, isS s → isE n e → fmA n e = true → isRes (evI n s e)
  | 0, _, _, _, _, _ => isVr_zero
  | n + 1, s, e, hs, he, hf => by
    have ha := fmA_len hf
    have h0 : 0 < (eps e).length → isRes (evI n s (part e 0)) := fun h => evI_res hs (part_isE he h).1 (fmA_part hf (part_isE he h).2)
    unfold evI
    split
    · exact leafI_res hs he
    rename_i hz
    have hz : 0 < (eps e).length := by
      simp only [beq_iff_eq] at hz; omega
    split
    · exact eitherV_res _ _ _
    split
    · exact eitherV_res _ _ _
    split
    · exact isVr_zero
    split
    · exact oneV_res _ (h0 hz)
    split
    · exact isVr_zero
    · exact twoV_res _ _ _
end GP
