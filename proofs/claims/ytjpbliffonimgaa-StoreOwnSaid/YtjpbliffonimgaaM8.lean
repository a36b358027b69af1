import Derived.Test.YtjpbliffonimgaaM6
import Derived.Test.YtjpbliffonimgaaM7
set_option linter.unusedSimpArgs false
set_option linter.unnecessarySimpa false
set_option linter.unusedSectionVars false
namespace GP
open Go Go.Proofs
set_option maxRecDepth 100000
variable [HasG Try.prog]
def isVr (x : D) : Prop := x.isV = true ∧ -(2 ^ 63) ≤ vi x ∧ vi x < 2 ^ 63
def mkE (op : List UInt8) (k i : Int) (s : List UInt8) (nl : Bool) (l : List D) (who name : List UInt8) (m : Bool) (ps : List D) : D :=
  .agg [.str op, .int .i64 k, .int .i64 i, .str s, sliceD nl l, .str who, .str name, sliceD m ps]
def isE : Nat → D → Prop
  | 0, _ => False
  | n + 1, d => ∃ op k i s nl l who name m ps, d = mkE op k i s nl l who name m ps ∧ op.length ≤ 2 ^ 47 ∧ who.length ≤ 2 ^ 47 ∧ name.length ≤ 2 ^ 47 ∧ isVr (mkV k i s nl l) ∧ ps.length ≤ 2 ^ 47 ∧ ∀ x ∈ ps, isE n x
theorem mkV_erase {k i : Int} {s : List UInt8} {nl : Bool} {l : List D} (h : (mkV k i s nl l).isV = true) : D.eraseL l = l ∧ s.length ≤ 2 ^ 47 ∧ l.length ≤ 2 ^ 47 ∧ ∀ x ∈ l, x.isV = true := by
  obtain ⟨k', i', s', n', l', e, h1, h2, h3⟩ := isV_elim h
  have e1 := congrArg vs e
  have e2 := congrArg vl e
  simp only [vs_mk, vl_mk] at e1 e2
  subst e1; subst e2
  exact ⟨erase_of_isV h3, h1, h2, h3⟩
theorem isE_erase : ∀ {n : Nat} {d : D}, isE n d → d.erase = d
  | 0, _, h => h.elim
  | n + 1, d, ⟨op, k, i, s, nl, l, who, name, m, ps, e, h1, h2, h3, h4, h5, h6⟩ => by
    subst e
    have hp : D.eraseL ps = ps := by
      rw [eraseL_map]
      exact (List.map_congr_left fun x hx => isE_erase (h6 x hx)).trans (List.map_id'' (fun _ => rfl) ps)
    simp [mkE, D.erase, D.eraseL, erase_sliceD, (mkV_erase h4.1).1, hp]
theorem isE_cells {n : Nat} {d : D} (h : isE n d) : d.cells.length = 8 ∧ d.cells.take 8 = d.cells ∧ D.agg d.cells = d ∧ d.okc = true := by
  cases n with
  | zero => exact h.elim
  | succ n =>
    obtain ⟨op, k, i, s, nl, l, who, name, m, ps, rfl, _⟩ := h
    exact ⟨rfl, rfl, rfl, rfl⟩
def eop : D → List UInt8
  | .agg (.str s :: _) => s
  | _ => []
def eV : D → D
  | .agg (_ :: a :: b :: c :: d :: _) => .agg [a, b, c, d]
  | _ => .top
def ewho : D → List UInt8
  | .agg (_ :: _ :: _ :: _ :: _ :: .str s :: _) => s
  | _ => []
def ename : D → List UInt8
  | .agg (_ :: _ :: _ :: _ :: _ :: _ :: .str s :: _) => s
  | _ => []
def eps : D → List D
  | .agg (_ :: _ :: _ :: _ :: _ :: _ :: _ :: l :: _) => elems l
  | _ => []
section
variable (op : List UInt8) (k i : Int) (s : List UInt8) (nl : Bool) (l : List D) (who name : List UInt8) (m : Bool) (ps : List D)
theorem eop_mk : eop (mkE op k i s nl l who name m ps) = op := rfl
theorem eV_mk : eV (mkE op k i s nl l who name m ps) = mkV k i s nl l := rfl
theorem ewho_mk : ewho (mkE op k i s nl l who name m ps) = who := rfl
theorem ename_mk : ename (mkE op k i s nl l who name m ps) = name := rfl
theorem eps_mk : eps (mkE op k i s nl l who name m ps) = ps := by simp only [eps, mkE, elems_sliceD]
end
def mkF (who name : List UInt8) (kind : Int) (bag : Bool) : D := .agg [.str who, .str name, .int .i64 kind, .bool bag]
def isF (d : D) : Prop := ∃ who name kind bag, d = mkF who name kind bag ∧ who.length ≤ 2 ^ 47 ∧ name.length ≤ 2 ^ 47 ∧ -(2 ^ 63) ≤ kind ∧ kind < 2 ^ 63
def fwho : D → List UInt8
  | .agg (.str s :: _) => s
  | _ => []
def fname : D → List UInt8
  | .agg (_ :: .str s :: _) => s
  | _ => []
def fkind : D → Int
  | .agg (_ :: _ :: .int _ k :: _) => k
  | _ => 0
def fbag : D → Bool
  | .agg [_, _, _, .bool b] => b
  | _ => false
theorem isF_erase {d : D} (h : isF d) : d.erase = d := by
  obtain ⟨_, _, _, _, rfl, _⟩ := h; simp [mkF, D.erase, D.eraseL]
def arity0 : List (List UInt8) := [[118, 97, 108, 117, 101], [110, 111, 119], [97, 116, 116, 114], [104, 97, 115], [114, 111, 108, 101]]
def arity1 : List (List UInt8) := [[110, 111, 116], [110, 101, 103], [115, 105, 122, 101]]
def arity2 : List (List UInt8) := [[97, 110, 100], [111, 114], [43], [45], [42], [61, 61], [33, 61], [60], [60, 61], [62], [62, 61], [105, 110]]
def arityI (op : List UInt8) : Int := if arity0.any (op == ·) then 0 else if arity1.any (op == ·) then 1 else if arity2.any (op == ·) then 2 else -1
def φarity : List D → Option D
  | [.str op] => some (.int .i64 (arityI op))
  | _ => none
set_option maxHeartbeats 1000000 in
theorem ok149 : OkAt Try.prog 149 φarity := by
  refine ok_of (l := []) .nil fn149 fun args r h => ?_
  unfold φarity at h
  split at h
  · rename_i op
    injection h with h; subst h
    refine ⟨by simp, by simp [D.cl], fun H T => ?_⟩
    simp only [arityI, arity0, arity1, arity2, List.any_cons, List.any_nil]
    simp +contextual (maxSteps := 10000000) only [c149, go_sem, W_draw]
  · cases h
def factI (fs : List D) (who name : List UInt8) : Int := match fs.find? (fun f => (fwho f == who) && (fname f == name)) with
  | some f => if fbag f then IntKind.i64.wrap (10 + fkind f) else fkind f
  | none => 0
open Classical in
noncomputable def φfact : List D → Option D
  | [fs, .str who, .str name] => if isLs isF fs then some (.int .i64 (factI (elems fs) who name)) else none
  | _ => none
theorem isF_get {xs : List D} (h : ∀ x ∈ xs, isF x) {i : Nat} (hi : i < xs.length) : ∃ who name kind bag, xs[i]? = some (mkF who name kind bag) ∧ -(2 ^ 63) ≤ kind ∧ kind < 2 ^ 63 := by
  obtain ⟨who, name, kind, bag, e, _, _, h3, h4⟩ := h _ (List.getElem_mem hi)
  exact ⟨who, name, kind, bag, by rw [← e]; simp [hi], h3, h4⟩
theorem find_take_succ {p : D → Bool} {xs : List D} {i : Nat} {x : D} (hx : xs[i]? = some x) (h : (xs.take i).find? p = none) (hp : p x = false) : (xs.take (i + 1)).find? p = none := by
  rw [List.take_add_one, hx]; simp [h, hp]
theorem find_at {p : D → Bool} {xs : List D} {i : Nat} {x : D} (hx : xs[i]? = some x) (h : (xs.take i).find? p = none) (hp : p x = true) : xs.find? p = some x := by
  have e : xs = xs.take i ++ x :: xs.drop (i + 1) := by
    have hi : i < xs.length := by
      rcases Nat.lt_or_ge i xs.length with h' | h'
      · exact h'
      · rw [List.getElem?_eq_none h'] at hx; cases hx
    have : x = xs[i] := by simpa [hi] using hx.symm
    subst this
    simp
  rw [e, List.find?_append, h]
  simp [hp]
set_option maxHeartbeats 2000000 in
theorem ok171 : OkAt Try.prog 171 φfact := by
  refine ok_of (l := []) .nil fn171 fun args r h => ?_
  unfold φfact at h
  split at h
  · rename_i fs who name
    split at h
    · rename_i hf
      injection h with h; subst h
      refine ⟨by simp, by simp [D.cl], fun H T => ?_⟩
      obtain ⟨n, xs, rfl, hl, hx⟩ := hf
      rw [elems_sliceD]
      simp +contextual (maxSteps := 10000000) only [c171, go_sem, W_draw]
      refine W_for (fun j s' => s'.t 0 = sliceD n xs ∧ s'.t 1 = .str who ∧ s'.t 2 = .str name ∧ s'.t 9 = sliceD n xs ∧ s'.t 10 = .int .i64 xs.length ∧ s'.t 11 = .int .i64 j ∧ Ext H s'.H ∧ s'.T = T ∧ j ≤ xs.length ∧ (xs.take j).find? (fun f => (fwho f == who) && (fname f == name)) = none) xs.length ⟨0, by simp [upd, argT, ext_self]⟩ (fun i s h => h.2.2.2.2.2.2.2.2.1) ?_ (XL_mono _)
      rintro j ⟨t, B, T'⟩ ⟨h0, h1, h2, h9, h10, h11, hE, rfl, hj, hc⟩
      simp only at h0 h1 h2 h9 h10 h11 hE
      by_cases ha : j < xs.length
      · have d1 : decide ((j : Int) < xs.length) = true := by simpa using ha
        obtain ⟨w3, n3, k3, b3, e3, r3, r4⟩ := isF_get hx ha
        have nx := fun hp => find_take_succ e3 hc hp
        have at' := fun hp => find_at e3 hc hp
        have F : ((fwho (mkF w3 n3 k3 b3) == who) && (fname (mkF w3 n3 k3 b3) == name)) = ((w3 == who) && (n3 == name)) := rfl
        rw [F] at nx at'
        have G : ((w3 == who) && (n3 == name)) = true → factI xs who name = if b3 then IntKind.i64.wrap (10 + k3) else k3 := fun h => by unfold factI; rw [at' h]; rfl
        clear at' F
        simp only [mkF] at e3
        simp +contextual (maxSteps := 10000000) only [h0, h1, h2, h9, h10, h11, d1, e3, wrap_succ j (by omega), hE.ta, leaves_Ea hE (ExtT.refl _), go_sem, W_draw]
        (all_goals ((repeat' (first | apply And.intro | intro _)) <;> (first | rfl | omega | (simp_all; done) | grind)))
      · have d1 : decide ((j : Int) < xs.length) = false := by simpa using ha
        have hA : factI xs who name = 0 := by
          have : j = xs.length := by omega
          subst this; rw [List.take_length] at hc
          unfold factI; rw [hc]
        simp +contextual (maxSteps := 10000000) only [h0, h1, h2, h9, h10, h11, d1, hA, leaves_E hE (ExtT.refl _), go_sem, W_draw]
    · cases h
  · cases h
def litI (v : D) : Int := if !(formedB v) || (vk v == 0) || ((vk v == 5) && (((vl v).length : Int) == 0)) then 0 else if vk v == 5 then IntKind.i64.wrap (10 + vk0 (vl v)) else vk v
open Classical in
noncomputable def φlit : List D → Option D
  | [v] => if isVr v then some (.int .i64 (litI v)) else none
  | _ => none
theorem ok170 : OkAt Try.prog 170 φlit := by
  refine ok_of (l := [(53, φFormed)]) (.cons ok53 .nil) fn170 fun args r h => ?_
  unfold φlit at h
  split at h
  · rename_i v
    split at h
    · rename_i hv
      injection h with h; subst h
      refine ⟨by simp, by simp [D.cl], fun H T => ?_⟩
      have pv : φFormed [v] = some (.bool (formedB v)) := by simp [φFormed, hv.1, formed_same]
      unfold litI
      generalize formedB v = fb at *
      obtain ⟨k, i, s, n, xs, rfl, hs, hx, hV⟩ := isV_elim hv.1
      have eL := erase_of_isV hV
      simp only [vk_mk, vl_mk]
      simp only [mkV] at pv
      by_cases h0 : 0 < xs.length
      · obtain ⟨k0, i0, s0, n0, l0, e0, _⟩ := get_isV hV h0
        have fk := vk0_get e0
        have d1 : (((xs.length : Int)) == 0) = false := by rw [beq_eq_false_iff_ne]; omega
        simp +contextual (maxSteps := 10000000) only [c170, mkV, pv, eL, d1, e0, fk, go_sem, W_draw]
        (all_goals ((repeat' (first | apply And.intro | intro _)) <;> (first | rfl | omega | (simp_all; done) | grind)))
      · have d1 : (((xs.length : Int)) == 0) = true := by rw [beq_iff_eq]; omega
        simp +contextual (maxSteps := 10000000) only [c170, mkV, pv, eL, d1, go_sem, W_draw]
        (all_goals ((repeat' (first | apply And.intro | intro _)) <;> (first | rfl | omega | (simp_all; done) | grind)))
    · cases h
  · cases h
def sVal : List UInt8 := [118, 97, 108, 117, 101]
def sNow : List UInt8 := [110, 111, 119]
def sAttr : List UInt8 := [97, 116, 116, 114]
def sHas : List UInt8 := [104, 97, 115]
def sRole : List UInt8 := [114, 111, 108, 101]
def sNot : List UInt8 := [110, 111, 116]
def sNeg : List UInt8 := [110, 101, 103]
def sSize : List UInt8 := [115, 105, 122, 101]
def sAnd : List UInt8 := [97, 110, 100]
def sOr : List UInt8 := [111, 114]
def sIn : List UInt8 := [105, 110]
def noneI (fs : List D) (e : D) : Int × Int :=
  if eop e == sVal then (if litI (eV e) != 0 then (litI (eV e), 0) else (0, 2)) else
  if eop e == sNow then (4, 0) else if eop e == sRole then (1, 0) else
  if factI fs (ewho e) (ename e) == 0 then (0, 8) else if eop e == sHas then (1, 0) else (factI fs (ewho e) (ename e), 0)
def tupI (p : Int × Int) : D := .tup [.int .i64 p.1, .int .i64 p.2]
theorem tupI_cl (p : Int × Int) : (tupI p).cl 0 0 = true := by simp [tupI, D.cl, D.clL]
open Classical in
noncomputable def φnone : List D → Option D
  | [fs, e] => if isLs isF fs ∧ ∃ n, isE n e then some (tupI (noneI (elems fs) e)) else none
  | _ => none
theorem isE_elim {n : Nat} {d : D} (h : isE n d) : ∃ op k i s nl l who name m ps, d = mkE op k i s nl l who name m ps ∧ op.length ≤ 2 ^ 47 ∧ who.length ≤ 2 ^ 47 ∧ name.length ≤ 2 ^ 47 ∧ isVr (mkV k i s nl l) ∧ ps.length ≤ 2 ^ 47 ∧ (∀ x ∈ ps, isE (n - 1) x) ∧ D.eraseL l = l ∧ D.eraseL ps = ps := by
  cases n with
  | zero => exact h.elim
  | succ n =>
    obtain ⟨op, k, i, s, nl, l, who, name, m, ps, rfl, h1, h2, h3, h4, h5, h6⟩ := h
    exact ⟨op, k, i, s, nl, l, who, name, m, ps, rfl, h1, h2, h3, h4, h5, h6, (mkV_erase h4.1).1, eraseL_id fun x hx => isE_erase (h6 x hx)⟩
set_option maxHeartbeats 1000000 in
theorem ok150 : OkAt Try.prog 150 φnone := by
  refine ok_of (l := [(170, φlit), (171, φfact)]) (.cons ok170 (.cons ok171 .nil)) fn150 fun args r h => ?_
  unfold φnone at h
  split at h
  · rename_i fs e
    split at h
    · rename_i hv
      injection h with h; subst h
      refine ⟨by simp, tupI_cl _, fun H T => ?_⟩
      obtain ⟨hf, m, he⟩ := hv
      obtain ⟨op, k, i, s, nl, l, who, name, m, ps, rfl, h1, h2, h3, h4, h5, h6, eL, eP⟩ := isE_elim he
      have pf : φfact [fs, .str who, .str name] = some (.int .i64 (factI (elems fs) who name)) := by simp only [φfact]; rw [if_pos hf]
      have pv : φlit [mkV k i s nl l] = some (.int .i64 (litI (mkV k i s nl l))) := by simp only [φlit]; rw [if_pos h4]
      have ef : fs.erase = fs := by
        obtain ⟨n, xs, rfl, _, hx⟩ := hf
        rw [erase_sliceD, eraseL_id fun x h => isF_erase (hx x h)]
      simp only [noneI, eop_mk, eV_mk, ewho_mk, ename_mk, sVal, sNow, sRole, sHas]
      obtain ⟨lt, hlt⟩ : ∃ x, litI (mkV k i s nl l) = x := ⟨_, rfl⟩
      simp only [hlt] at pv ⊢
      simp only [mkV] at pv
      simp +contextual (maxSteps := 10000000) only [c150, mkE, pf, pv, eL, eP, ef, tupI, go_sem, W_draw]
      (all_goals ((repeat' (first | apply And.intro | intro _)) <;> (first | rfl | omega | (simp_all; done) | grind)))
    · cases h
  · cases h
def oneI (op : List UInt8) (t : Int) : Int := if (op == sNot) && (t == 1) then 1 else if (op == sNeg) && (t == 2) || (op == sSize) && decide (10 < t) then 2 else 0
def φone1 : List D → Option D
  | [.str op, .int .i64 t] => some (.int .i64 (oneI op t))
  | _ => none
theorem ok151 : OkAt Try.prog 151 φone1 := by
  refine ok_of (l := []) .nil fn151 fun args r h => ?_
  unfold φone1 at h
  split at h
  · injection h with h; subst h
    refine ⟨by simp, by simp [D.cl], fun H T => ?_⟩
    simp only [oneI, sNot, sNeg, sSize]
    simp +contextual (maxSteps := 10000000) only [c151, go_sem, W_draw]
    (all_goals ((repeat' (first | apply And.intro | intro _)) <;> (first | rfl | omega | (simp_all; done) | grind)))
  · cases h
def sumT (op : List UInt8) (a b : Int) : Int := if (a == 2) && (b == 2) then 2 else if (op != [42]) && (a == 4) && (b == 2) then 4 else if (op == [45]) && (a == 4) && (b == 4) then 2 else 0
def φsumT : List D → Option D
  | [.str op, .int .i64 a, .int .i64 b] => some (.int .i64 (sumT op a b))
  | _ => none
theorem ok172 : OkAt Try.prog 172 φsumT := by
  refine ok_of (l := []) .nil fn172 fun args r h => ?_
  unfold φsumT at h
  split at h
  · injection h with h; subst h
    refine ⟨by simp, by simp [D.cl], fun H T => ?_⟩
    simp only [sumT]
    simp +contextual (maxSteps := 10000000) only [c172, go_sem, W_draw]
    (all_goals ((repeat' (first | apply And.intro | intro _)) <;> (first | rfl | omega | (simp_all; done) | grind)))
  · cases h
def twoOk (op : List UInt8) (a b : Int) : Bool :=
  if (op == sAnd) || (op == sOr) then (a == 1) && (b == 1) else
  if (op == [61, 61]) || (op == [33, 61]) then a == b else
  if op == sIn then b == IntKind.i64.wrap (10 + a) else (a == b) && (a != 1) && decide (a < 10)
def twoI (op : List UInt8) (a b : Int) : Int := if (op == [43]) || (op == [45]) || (op == [42]) then sumT op a b else if twoOk op a b then 1 else 0
def φtwoT : List D → Option D
  | [.str op, .int .i64 a, .int .i64 b] => some (.int .i64 (twoI op a b))
  | _ => none
set_option maxHeartbeats 1000000 in
theorem ok152 : OkAt Try.prog 152 φtwoT := by
  refine ok_of (l := [(172, φsumT)]) (.cons ok172 .nil) fn152 fun args r h => ?_
  unfold φtwoT at h
  split at h
  · rename_i op a b
    injection h with h; subst h
    refine ⟨by simp, by simp [D.cl], fun H T => ?_⟩
    simp only [twoI, twoOk, sAnd, sOr, sIn]
    simp +contextual (maxSteps := 10000000) only [c152, φsumT, go_sem, W_draw]
    (all_goals ((repeat' (first | apply And.intro | intro _)) <;> (first | rfl | omega | (simp_all; done) | grind)))
  · cases h
def typI : Nat → List D → D → Int × Int
  | 0, _, _ => (0, 2)
  | n + 1, fs, e =>
    if decide (arityI (eop e) < 0) || (((eps e).length : Int) != arityI (eop e)) then (0, 2) else
    if arityI (eop e) == 0 then noneI fs e else
    if (typI n fs ((eps e).getD 0 .top)).2 != 0 then (0, (typI n fs ((eps e).getD 0 .top)).2) else
    if arityI (eop e) == 2 then
      if (typI n fs ((eps e).getD 1 .top)).2 != 0 then (0, (typI n fs ((eps e).getD 1 .top)).2) else
      if twoI (eop e) (typI n fs ((eps e).getD 0 .top)).1 (typI n fs ((eps e).getD 1 .top)).1 == 0 then (0, 6) else (twoI (eop e) (typI n fs ((eps e).getD 0 .top)).1 (typI n fs ((eps e).getD 1 .top)).1, 0)
    else if oneI (eop e) (typI n fs ((eps e).getD 0 .top)).1 == 0 then (0, 6) else (oneI (eop e) (typI n fs ((eps e).getD 0 .top)).1, 0)
open Classical in
noncomputable def φtyp (n : Nat) : List D → Option D
  | [fs, e] => if isLs isF fs ∧ isE n e then some (tupI (typI n (elems fs) e)) else none
  | _ => none
theorem arity_cases (op : List UInt8) : arityI op = 0 ∨ arityI op = 1 ∨ arityI op = 2 ∨ arityI op = -1 := by unfold arityI; (repeat' split) <;> simp
set_option maxHeartbeats 4000000 in
theorem ok129 : ∀ n, OkAt Try.prog 129 (φtyp n)
  | 0 => fun args r h => by
    unfold φtyp at h
    split at h
    · split at h
      · rename_i h'; exact h'.2.elim
      · cases h
    · cases h
  | n + 1 => by
    refine ok_of (l := [(149, φarity), (150, φnone), (151, φone1), (152, φtwoT), (129, φtyp n)]) (.cons ok149 (.cons ok150 (.cons ok151 (.cons ok152 (.cons (ok129 n) .nil))))) fn129 fun args r h => ?_
    unfold φtyp at h
    split at h
    · rename_i fs e
      split at h
      · rename_i hv
        injection h with h; subst h
        refine ⟨by simp, tupI_cl _, fun H T => ?_⟩
        obtain ⟨hf, he⟩ := hv
        have pn : φnone [fs, e] = some (tupI (noneI (elems fs) e)) := by simp only [φnone]; rw [if_pos ⟨hf, _, he⟩]
        obtain ⟨op, k, i, s, nl, l, who, name, m, ps, rfl, h1, h2, h3, h4, h5, h6, eL, eP⟩ := isE_elim he
        have ef : fs.erase = fs := by
          obtain ⟨n, xs, rfl, _, hx⟩ := hf
          rw [erase_sliceD, eraseL_id fun x h => isF_erase (hx x h)]
        simp only [typI, eop_mk, eps_mk]
        have ac := arity_cases op
        have pa : φarity [.str op] = some (.int .i64 (arityI op)) := rfl
        obtain ⟨nn, hnn⟩ : ∃ x, noneI (elems fs) (mkE op k i s nl l who name m ps) = x := ⟨_, rfl⟩
        simp only [hnn] at pn ⊢
        obtain ⟨ar, har⟩ : ∃ x, arityI op = x := ⟨_, rfl⟩
        simp only [har] at pa ac ⊢
        simp only [mkE] at pn
        have child : ∀ i, i < ps.length → ∃ x, ps[i]? = some x ∧ ps.getD i .top = x ∧ x.cells.length = 8 ∧ x.cells.take 8 = x.cells ∧ D.agg x.cells = x ∧ x.erase = x ∧ φtyp n [fs, x] = some (tupI (typI n (elems fs) x)) := fun i hi => by
          have hx := h6 _ (List.getElem_mem hi)
          obtain ⟨c1, c2, c3, _⟩ := isE_cells hx
          exact ⟨_, by simp [hi], by simp [hi], c1, c2, c3, isE_erase hx, by simp only [φtyp]; rw [if_pos ⟨hf, hx⟩]⟩
        by_cases hl : (ps.length : Int) = ar
        · have dl : ((ps.length : Int) != ar) = false := by simp [hl]
          rcases ac with rfl | rfl | rfl | rfl
          · simp +contextual (maxSteps := 10000000) only [c129, mkE, pa, pn, eL, eP, ef, dl, tupI, go_sem, W_draw]
          · obtain ⟨x, e0, g0, x1, x2, x3, x4, px⟩ := child 0 (by omega)
            rw [g0]
            obtain ⟨tx, htx⟩ : ∃ z, typI n (elems fs) x = z := ⟨_, rfl⟩
            simp only [htx] at px ⊢
            simp +contextual (maxSteps := 10000000) only [c129, mkE, pa, pn, eL, eP, ef, dl, tupI, e0, x1, x2, x3, x4, px, φone1, go_sem, W_draw]
            (all_goals ((repeat' (first | apply And.intro | intro _)) <;> (first | rfl | omega | (simp_all; done) | grind)))
          · obtain ⟨x, e0, g0, x1, x2, x3, x4, px⟩ := child 0 (by omega)
            obtain ⟨y, e1, g1, y1, y2, y3, y4, py⟩ := child 1 (by omega)
            rw [g0, g1]
            obtain ⟨tx, htx⟩ : ∃ z, typI n (elems fs) x = z := ⟨_, rfl⟩
            simp only [htx] at px ⊢
            obtain ⟨ty, hty⟩ : ∃ z, typI n (elems fs) y = z := ⟨_, rfl⟩
            simp only [hty] at py ⊢
            simp +contextual (maxSteps := 10000000) only [c129, mkE, pa, pn, eL, eP, ef, dl, tupI, e0, x1, x2, x3, x4, px, e1, y1, y2, y3, y4, py, φone1, φtwoT, go_sem, W_draw]
            (all_goals ((repeat' (first | apply And.intro | intro _)) <;> (first | rfl | omega | (simp_all; done) | grind)))
          · omega
        · have dl : ((ps.length : Int) != ar) = true := by simp [hl]
          simp +contextual (maxSteps := 10000000) only [c129, mkE, pa, pn, eL, eP, ef, dl, tupI, go_sem, W_draw]
          (all_goals ((repeat' (first | apply And.intro | intro _)) <;> (first | rfl | omega | (simp_all; done) | grind)))
      · cases h
    · cases h
def mkH (who name : List UInt8) (k i : Int) (s : List UInt8) (nl : Bool) (l : List D) : D := .agg [.str who, .str name, .int .i64 k, .int .i64 i, .str s, sliceD nl l]
def isH (d : D) : Prop := ∃ who name k i s nl l, d = mkH who name k i s nl l ∧ who.length ≤ 2 ^ 47 ∧ name.length ≤ 2 ^ 47 ∧ isVr (mkV k i s nl l)
def hV : D → D
  | .agg (_ :: _ :: l) => .agg l
  | _ => .top
theorem isH_erase {d : D} (h : isH d) : d.erase = d := by
  obtain ⟨who, name, k, i, s, nl, l, rfl, _, _, hv⟩ := h
  simp [mkH, D.erase, D.eraseL, erase_sliceD, (mkV_erase hv.1).1]
def mkS (now : Int) (R A : D) : D := .agg [.int .i64 now, R, A]
def isS (d : D) : Prop := ∃ now R A, d = mkS now R A ∧ -(2 ^ 63) ≤ now ∧ now < 2 ^ 63 ∧ isLs isTx R ∧ isLs isH A
def sNw : D → Int
  | .agg (.int _ n :: _) => n
  | _ => 0
def sA : D → List D
  | .agg (_ :: _ :: l :: _) => elems l
  | _ => []
theorem sNw_mk (now : Int) (R A : D) : sNw (mkS now R A) = now := rfl
theorem sA_mk (now : Int) (R A : D) : sA (mkS now R A) = elems A := rfl
def part (e : D) (i : Nat) : D := (eps e).getD i .top
theorem part_isE {n : Nat} {e : D} (he : isE (n + 1) e) {i : Nat} (hi : i < (eps e).length) : isE n (part e i) ∧ part e i ∈ eps e := by
  obtain ⟨op, k, j, t, nl, l, who, name, m, ps, rfl, _, _, _, _, _, h6⟩ := he
  rw [eps_mk] at hi
  have e1 : part (mkE op k j t nl l who name m ps) i = ps[i] := by simp [part, eps_mk, hi]
  rw [e1, eps_mk]
  exact ⟨h6 _ (List.getElem_mem hi), List.getElem_mem hi⟩
theorem all_nx {p : D → Bool} {l : List D} {j : Nat} {x : D} (hx : l[j]? = some x) (h : (l.take j).all p = true) (hp : p x = true) : (l.take (j + 1)).all p = true := by rw [all_take_succ hx, h, hp]; rfl
theorem all_no {p : D → Bool} {l : List D} {j : Nat} {x : D} (hx : l[j]? = some x) (hp : p x = false) : l.all p = false :=
  List.all_eq_false.2 ⟨x, List.mem_of_getElem? hx, by simp [hp]⟩
def goodH (h : D) : Bool := formedB (hV h) && (vk (hV h) != 0)
def rightB (s : D) : Bool := (sA s).all goodH && decide (0 ≤ sNw s) && decide (sNw s ≤ 1099511627776)
open Classical in
noncomputable def φright : List D → Option D
  | [s] => if isS s then some (.bool (rightB s)) else none
  | _ => none
set_option maxHeartbeats 2000000 in
theorem ok130 : OkAt Try.prog 130 φright := by
  refine ok_of (l := [(53, φFormed)]) (.cons ok53 .nil) fn130 fun args r h => ?_
  unfold φright at h
  split at h
  · rename_i s
    split at h
    · rename_i hs
      injection h with h; subst h
      refine ⟨by simp, by simp [D.cl], fun H T => ?_⟩
      obtain ⟨now, R, A, rfl, n1, n2, hR, hA⟩ := hs
      have eR := isLs_erase (fun _ => isTx_erase) hR
      have eA := isLs_erase (fun _ => isH_erase) hA
      obtain ⟨nb, l, rfl, hl, hH⟩ := hA
      simp only [rightB, sA_mk, sNw_mk, elems_sliceD]
      simp +contextual (maxSteps := 10000000) only [c130, mkS, eR, eA, go_sem, W_draw]
      refine W_for (fun j s' => s'.t 1 = .ptr H.length 0 ∧ s'.t 6 = sliceD nb l ∧ s'.t 7 = .int .i64 l.length ∧ s'.t 8 = .int .i64 j ∧ Ext (H ++ [.row [.int .i64 now, R, sliceD nb l]]) s'.H ∧ s'.T = T ∧ j ≤ l.length ∧ (l.take j).all goodH = true) l.length ⟨0, by simp [upd, argT, ext_self]⟩ (fun i s h => h.2.2.2.2.2.2.1) ?_ (XL_mono _)
      rintro j ⟨t, B, T'⟩ ⟨h1, h6, h7, h8, hE, rfl, hj, hc⟩
      simp only at h1 h6 h7 h8 hE
      have b1 := hE.get (o := H.length) (by simp; rfl)
      by_cases ha : j < l.length
      · have d1 : decide ((j : Int) < l.length) = true := by simpa using ha
        have hx := hH _ (List.getElem_mem ha)
        have ex : l[j]? = some l[j] := by simp [ha]
        have nx := fun hp => all_nx (p := goodH) ex hc hp
        have no := fun hp => all_no (p := goodH) ex hp
        obtain ⟨who, name, k, i, s, nl, l', e, _, _, hv⟩ := hx
        rw [e] at ex nx no
        have G : goodH (mkH who name k i s nl l') = (formedB (mkV k i s nl l') && (k != 0)) := rfl
        rw [G] at nx no
        have pv : φFormed [mkV k i s nl l'] = some (.bool (formedB (mkV k i s nl l'))) := by simp only [φFormed]; rw [if_pos hv.1, formed_same]
        obtain ⟨fb, hq⟩ : ∃ z, formedB (mkV k i s nl l') = z := ⟨_, rfl⟩
        simp only [hq] at pv nx no
        clear hq
        have eL := (mkV_erase hv.1).1
        simp only [mkV] at pv
        simp only [mkH] at ex
        simp +contextual (maxSteps := 10000000) only [h1, h6, h7, h8, d1, ex, eL, pv, wrap_succ j (by omega), hE.ta, leaves_Ea hE.pre (ExtT.refl _), go_sem, W_draw]
        (all_goals ((repeat' (first | apply And.intro | intro _)) <;> (first | rfl | omega | (simp_all; done) | grind)))
      · have d1 : decide ((j : Int) < l.length) = false := by simpa using ha
        have hA : l.all goodH = true := by
          have : j = l.length := by omega
          subst this; rw [List.take_length] at hc; exact hc
        simp +contextual (maxSteps := 10000000) only [h1, h6, h7, h8, d1, hA, rdAt_E b1, leaves_E hE.pre (ExtT.refl _), go_sem, W_draw]
        (all_goals ((repeat' (first | apply And.intro | intro _)) <;> (first | rfl | omega | (simp_all; done) | grind)))
    · cases h
  · cases h
set_option maxHeartbeats 2000000 in
theorem ok104 : OkAt Try.prog 104 φright := by
  refine ok_of (l := [(51, φformed)]) (.cons ok51 .nil) fn104 fun args r h => ?_
  unfold φright at h
  split at h
  · rename_i s
    split at h
    · rename_i hs
      injection h with h; subst h
      refine ⟨by simp, by simp [D.cl], fun H T => ?_⟩
      obtain ⟨now, R, A, rfl, n1, n2, hR, hA⟩ := hs
      have eR := isLs_erase (fun _ => isTx_erase) hR
      have eA := isLs_erase (fun _ => isH_erase) hA
      obtain ⟨nb, l, rfl, hl, hH⟩ := hA
      simp only [rightB, sA_mk, sNw_mk, elems_sliceD]
      simp +contextual (maxSteps := 10000000) only [c104, mkS, eR, eA, go_sem, W_draw]
      refine W_for (fun j s' => s'.t 1 = .ptr H.length 0 ∧ s'.t 3 = .int .i64 j ∧ s'.H = H ++ [.row [.int .i64 now, R, sliceD nb l]] ∧ s'.T = T ∧ j ≤ l.length ∧ (l.take j).all goodH = true) l.length ⟨0, by simp [upd, argT]⟩ (fun i s h => h.2.2.2.2.1) ?_ (XL_mono _)
      rintro j ⟨t, B, T'⟩ ⟨h1, h3, rfl, rfl, hj, hc⟩
      simp only at h1 h3
      by_cases ha : j < l.length
      · have d1 : decide ((j : Int) < l.length) = true := by simpa using ha
        have hx := hH _ (List.getElem_mem ha)
        have ex : l[j]? = some l[j] := by simp [ha]
        have nx := fun hp => all_nx (p := goodH) ex hc hp
        have no := fun hp => all_no (p := goodH) ex hp
        obtain ⟨who, name, k, i, s, nl, l', e, _, _, hv⟩ := hx
        rw [e] at ex nx no
        have G : goodH (mkH who name k i s nl l') = (formedB (mkV k i s nl l') && (k != 0)) := rfl
        rw [G] at nx no
        have pv : φformed [mkV k i s nl l'] = some (.bool (formedB (mkV k i s nl l'))) := by simp only [φformed]; rw [if_pos hv.1]
        obtain ⟨fb, hq⟩ : ∃ z, formedB (mkV k i s nl l') = z := ⟨_, rfl⟩
        simp only [hq] at pv nx no
        clear hq
        have eL := (mkV_erase hv.1).1
        simp only [mkV] at pv
        simp only [mkH] at ex
        cases fb with
        | false =>
          have no := no rfl
          simp +contextual (maxSteps := 10000000) only [h1, h3, d1, ex, eL, pv, no, go_sem, W_draw]
        | true =>
        cases hk : (k == 0) with
        | true =>
          have no := no (by simp [bne, hk])
          simp +contextual (maxSteps := 10000000) only [h1, h3, d1, ex, eL, pv, hk, no, go_sem, W_draw]
        | false =>
          have nx := nx (by simp [bne, hk])
          simp +contextual (maxSteps := 10000000) only [h1, h3, d1, ex, eL, pv, hk, wrap_succ j (by omega), go_sem, W_draw]
          exact ⟨by omega, nx⟩
      · have d1 : decide ((j : Int) < l.length) = false := by simpa using ha
        have hA : l.all goodH = true := by
          have : j = l.length := by omega
          subst this; rw [List.take_length] at hc; exact hc
        simp +contextual (maxSteps := 10000000) only [h1, h3, d1, hA, go_sem, W_draw]
        (all_goals ((repeat' (first | apply And.intro | intro _)) <;> (first | rfl | omega | (simp_all; done) | grind)))
    · cases h
  · cases h
def litB (v : D) : Bool := formedB v && (vk v != 0) && !((vk v == 5) && (((vl v).length : Int) == 0))
end GP
namespace GP
open Go Go.Proofs
set_option maxRecDepth 100000
variable [HasG Try.prog]
def mkW (op : List UInt8) (a b t : Int) : D := .agg [.str op, .int .i64 a, .int .i64 b, .int .i64 t]
def wa : D → Int
  | .agg [_, .int _ k, _, _] => k
  | _ => 0
def wb : D → Int
  | .agg [_, _, .int _ k, _] => k
  | _ => 0
def wt : D → Int
  | .agg [_, _, _, .int _ k] => k
  | _ => 0
def waysP : List (List UInt8 × Int × Int × Int) := [
  ([110, 111, 116], 1, 0, 1), ([110, 101, 103], 2, 0, 2), ([97, 110, 100], 1, 1, 1), ([111, 114], 1, 1, 1), ([43], 2, 2, 2), ([45], 2, 2, 2), ([42], 2, 2, 2), ([43], 4, 2, 4), ([45], 4, 2, 4), ([45], 4, 4, 2),
  ([115, 105, 122, 101], 11, 0, 2), ([105, 110], 1, 11, 1), ([61, 61], 1, 1, 1), ([33, 61], 1, 1, 1), ([61, 61], 11, 11, 1), ([33, 61], 11, 11, 1),
  ([115, 105, 122, 101], 12, 0, 2), ([105, 110], 2, 12, 1), ([61, 61], 2, 2, 1), ([33, 61], 2, 2, 1), ([61, 61], 12, 12, 1), ([33, 61], 12, 12, 1),
  ([115, 105, 122, 101], 13, 0, 2), ([105, 110], 3, 13, 1), ([61, 61], 3, 3, 1), ([33, 61], 3, 3, 1), ([61, 61], 13, 13, 1), ([33, 61], 13, 13, 1),
  ([115, 105, 122, 101], 14, 0, 2), ([105, 110], 4, 14, 1), ([61, 61], 4, 4, 1), ([33, 61], 4, 4, 1), ([61, 61], 14, 14, 1), ([33, 61], 14, 14, 1),
  ([60], 2, 2, 1), ([60, 61], 2, 2, 1), ([62], 2, 2, 1), ([62, 61], 2, 2, 1),
  ([60], 3, 3, 1), ([60, 61], 3, 3, 1), ([62], 3, 3, 1), ([62, 61], 3, 3, 1),
  ([60], 4, 4, 1), ([60, 61], 4, 4, 1), ([62], 4, 4, 1), ([62, 61], 4, 4, 1)]
def ofW (w : List UInt8 × Int × Int × Int) : D := mkW w.1 w.2.1 w.2.2.1 w.2.2.2
def ways : List D := waysP.map ofW
theorem ways_len : ways.length = 46 := rfl
theorem ways_get {j : Nat} (h : j < 46) : ∃ op a b t, ways[j]? = some (mkW op a b t) := by
  refine ⟨(waysP[j]'h).1, (waysP[j]'h).2.1, (waysP[j]'h).2.2.1, (waysP[j]'h).2.2.2, ?_⟩
  simp only [ways, List.getElem?_map]
  rw [List.getElem?_eq_getElem h]; rfl
theorem ways_erase : D.eraseL ways = ways := rfl
def cntR (op : List UInt8) : Int := if arity0.any (op == ·) then 0 else match ways.find? (fun w => eop w == op) with
  | some w => if decide (0 < wb w) then 2 else 1
  | none => -1
theorem ways_ops : ∀ w ∈ waysP, w.1 ∈ arity1 ++ arity2 := by decide
theorem find_ways (p : D → Bool) : ways.find? p = (waysP.find? (fun w => p (ofW w))).map ofW := by
  unfold ways; rw [List.find?_map]; rfl
def cntP (op : List UInt8) : Int := if arity0.any (op == ·) then 0 else match waysP.find? (fun w => w.1 == op) with
  | some w => if decide (0 < w.2.2.1) then 2 else 1
  | none => -1
theorem cntR_P (op : List UInt8) : cntR op = cntP op := by
  unfold cntR cntP
  rw [find_ways]
  have : (fun w => eop (ofW w) == op) = (fun w : List UInt8 × Int × Int × Int => w.1 == op) := rfl
  rw [this]
  cases waysP.find? (fun w => w.1 == op) <;> rfl
theorem cntP_ok : ∀ op ∈ arity1 ++ arity2, cntP op = arityI op := by decide
theorem cntR_arity (op : List UInt8) : cntR op = arityI op := by
  rw [cntR_P]
  by_cases h : op ∈ arity1 ++ arity2
  · exact cntP_ok op h
  · have h1 : arity1.any (op == ·) = false := by
      rw [List.any_eq_false]; intro x hx hc
      have : op = x := by simpa using hc
      exact h (List.mem_append.2 (.inl (this ▸ hx)))
    have h2 : arity2.any (op == ·) = false := by
      rw [List.any_eq_false]; intro x hx hc
      have : op = x := by simpa using hc
      exact h (List.mem_append.2 (.inr (this ▸ hx)))
    have h3 : waysP.find? (fun w => w.1 == op) = none := by
      rw [List.find?_eq_none]; intro w hw hc
      have : w.1 = op := by simpa using hc
      exact h (this ▸ ways_ops w hw)
    unfold cntP arityI
    rw [h1, h2, h3]; rfl
def wayQ (op : List UInt8) (a b : Int) (w : D) : Bool := (eop w == op) && (wa w == a) && (wb w == b)
def wayT (op : List UInt8) (a b : Int) : Int × Int := match ways.find? (wayQ op a b) with
  | some w => (wt w, 0)
  | none => (0, 6)
def tF (f : D) : Int := if fbag f then IntKind.i64.wrap (fkind f + 10) else fkind f
def zeroF (f : D) : Int := if (fkind f == 0) && !(fbag f) then 8 else 0
def isOf (who name : List UInt8) (f : D) : Bool := (fwho f == who) && (fname f == name)
def attR (fs : List D) (who name : List UInt8) : Int × Int := match fs.find? (isOf who name) with
  | some f => if tF f == 0 then (0, 8) else (tF f, 0)
  | none => (0, 8)
def hasR (fs : List D) (who name : List UInt8) : Int × Int := match fs.find? (isOf who name) with
  | some f => (1, zeroF f)
  | none => (0, 8)
def valT (v : D) : Int := if vk v == 5 then IntKind.i64.wrap (10 + vk0 (vl v)) else vk v
def leafR (fs : List D) (e : D) : Int × Int :=
  if eop e == sNow then (4, 0) else if eop e == sRole then (1, 0) else
  if eop e == sVal then (if litB (eV e) then (valT (eV e), 0) else (0, 2)) else
  if eop e == sHas then hasR fs (ewho e) (ename e) else attR fs (ewho e) (ename e)
def lt0 (n : Int) : Bool := decide (n < 0)
def typR : Nat → List D → D → Int × Int
  | 0, _, _ => (0, 2)
  | n + 1, fs, e =>
    if lt0 (arityI (eop e)) || (((eps e).length : Int) != arityI (eop e)) then (0, 2) else
    if arityI (eop e) == 0 then leafR fs e else
    if (typR n fs (part e 0)).2 != 0 then (0, (typR n fs (part e 0)).2) else
    if arityI (eop e) == 2 then
      if (typR n fs (part e 1)).2 != 0 then (0, (typR n fs (part e 1)).2) else
      wayT (eop e) (typR n fs (part e 0)).1 (typR n fs (part e 1)).1
    else wayT (eop e) (typR n fs (part e 0)).1 0
def kindN (k : Int) : Int := IntKind.i64.wrap (1 + IntKind.i64.wrap ((IntKind.u64.wrap k).tmod 4))
def kindF (f : D) : D := mkF (fwho f) (fname f) (kindN (fkind f)) (fbag f)
theorem kindN_rg (k : Int) : 1 ≤ kindN k ∧ kindN k ≤ 4 := by
  have h0 : 0 ≤ IntKind.u64.wrap k := by
    have e : IntKind.u64.wrap k = k % 2 ^ 64 := by simp [IntKind.wrap, IntKind.bits, IntKind.signed]
    rw [e]; omega
  have h1 : 0 ≤ (IntKind.u64.wrap k).tmod 4 := Int.tmod_nonneg _ h0
  have h2 : (IntKind.u64.wrap k).tmod 4 < 4 := Int.tmod_lt_of_pos _ (by decide)
  unfold kindN
  rw [wrap_inY (a := (IntKind.u64.wrap k).tmod 4) (by omega) (by omega), wrap_inY (by omega) (by omega)]
  omega
def kv (v : D) : Int := if (vk v == 5) && decide ((0 : Int) < (vl v).length) then IntKind.i64.wrap (10 + vk0 (vl v)) else vk v
def sitB (v : D) (t : Int) : Bool := (kv v == t) || ((kv v == 5) && decide (10 < t))
def fitH (fs : List D) (h : D) : Bool := ((attR fs (fwho h) (fname h)).2 == 0) && sitB (hV h) (attR fs (fwho h) (fname h)).1
def fitsB (fs : List D) (s : D) : Bool := rightB s && (sA s).all (fitH fs)
open Classical in
noncomputable def φzero : List D → Option D
  | [f] => if isF f then some (.int .i64 (zeroF f)) else none
  | _ => none
theorem ok155 : OkAt Try.prog 155 φzero := by
  refine ok_of (l := []) .nil fn155 fun args r h => ?_
  unfold φzero at h
  split at h
  · rename_i f
    split at h
    · rename_i hf
      injection h with h; subst h
      refine ⟨by simp, by simp [D.cl], fun H T => ?_⟩
      obtain ⟨who, name, kind, bag, rfl, _⟩ := hf
      have e : zeroF (mkF who name kind bag) = if (kind == 0) && !bag then 8 else 0 := rfl
      rw [e]
      simp only [mkF]
      rcases tf (kind == 0) with h1 | h1
      · cases bag <;> simp only [h1] <;> simp +contextual (maxSteps := 10000000) only [c155, h1, go_sem, W_draw]
      · simp only [h1]; simp +contextual (maxSteps := 10000000) only [c155, h1, go_sem, W_draw]
    · cases h
  · cases h
def φways : List D → Option D
  | [] => some (.sl none ways)
  | _ => none
theorem ways_cl : (D.sl none ways).cl 0 0 = true := by decide
set_option maxHeartbeats 8000000 in
theorem ok135 : OkAt Try.prog 135 φways := by
  refine ok_of (l := []) .nil fn135 fun args r h => ?_
  unfold φways at h
  split at h
  · injection h with h; subst h
    refine ⟨by simp, ways_cl, fun H T => ?_⟩
    have w2 : IntKind.i64.wrap 2 = 2 := by decide
    have w3 : IntKind.i64.wrap 3 = 3 := by decide
    have w4 : IntKind.i64.wrap 4 = 4 := by decide
    have w5 : IntKind.i64.wrap 5 = 5 := by decide
    have w6 : IntKind.i64.wrap 6 = 6 := by decide
    have w7 : IntKind.i64.wrap 7 = 7 := by decide
    have w8 : IntKind.i64.wrap 8 = 8 := by decide
    have w9 : IntKind.i64.wrap 9 = 9 := by decide
    have w10 : IntKind.i64.wrap 10 = 10 := by decide
    have w11 : IntKind.i64.wrap 11 = 11 := by decide
    have w12 : IntKind.i64.wrap 12 = 12 := by decide
    have w13 : IntKind.i64.wrap 13 = 13 := by decide
    have w14 : IntKind.i64.wrap 14 = 14 := by decide
    simp +contextual (maxSteps := 10000000) only [c135, go_sem, W_draw]
    refine W_unr 5 ?_ (XL_mono _)
    simp +contextual (maxSteps := 10000000) only [unr_s, List.set_cons_zero, List.set_cons_succ, appK_tok, appK_tok0, Nat.reducePow, Int.reduceAdd, w2, w3, w4, w5, w6, w7, w8, w9, w10, w11, w12, w13, w14, go_sem, W_draw]
    refine W_unr 4 ?_ (XL_mono _)
    simp +contextual (maxSteps := 10000000) only [unr_s, List.set_cons_zero, List.set_cons_succ, appK_tok, appK_tok0, Nat.reducePow, Int.reduceAdd, w2, w3, w4, w5, w6, w7, w8, w9, w10, w11, w12, w13, w14, go_sem, W_draw]
    rfl
  · cases h
def φcount : List D → Option D
  | [.str op] => some (.int .i64 (arityI op))
  | _ => none
set_option maxHeartbeats 4000000 in
theorem ok133 : OkAt Try.prog 133 φcount := by
  refine ok_of (l := [(135, φways)]) (.cons ok135 .nil) fn133 fun args r h => ?_
  unfold φcount at h
  split at h
  · rename_i op
    injection h with h; subst h
    refine ⟨by simp, by simp [D.cl], fun H T => ?_⟩
    have pw : φways [] = some (.sl none ways) := rfl
    have E : arityI op = cntR op := (cntR_arity op).symm
    rcases tf (arity0.any (op == ·)) with h0 | h0
    · have e : arityI op = 0 := by unfold arityI; rw [h0]; rfl
      rw [e]
      clear E e
      simp only [arity0, List.any_cons, List.any_nil] at h0
      simp +contextual (maxSteps := 10000000) only [c133, pw, ways_erase, go_sem, W_draw]
      (all_goals ((repeat' (first | apply And.intro | intro _)) <;> (first | rfl | omega | (simp_all; done) | grind)))
    · have L : cntR op = match ways.find? (fun w => eop w == op) with | some w => if decide (0 < wb w) then 2 else 1 | none => -1 := by
        unfold cntR; rw [h0]; rfl
      simp only [arity0, List.any_cons, List.any_nil, Bool.or_eq_false_iff] at h0
      obtain ⟨a1, a2, a3, a4, a5, _⟩ := h0
      rw [E]
      simp +contextual (maxSteps := 10000000) only [c133, pw, ways_erase, a1, a2, a3, a4, a5, go_sem, W_draw]
      refine W_for (fun j s' => s'.t 0 = .str op ∧ s'.t 3 = .sl none ways ∧ s'.t 4 = .int .i64 j ∧ s'.H = H ∧ s'.T = T ∧ j ≤ 46 ∧ (ways.take j).find? (fun w => eop w == op) = none) 46 ⟨0, by simp [upd, argT]⟩ (fun i s h => h.2.2.2.2.2.1) ?_ (XL_mono _)
      rintro j ⟨t, B, T'⟩ ⟨r0, r3, r4, rfl, rfl, hj, hc⟩
      simp only at r0 r3 r4
      by_cases ha : j < 46
      · have d1 : decide ((j : Int) < ways.length) = true := by rw [ways_len]; simp; omega
        obtain ⟨o, a, b, ty, e3⟩ := ways_get ha
        have nx := fun hp => find_take_succ e3 hc hp
        have at' := fun hp => find_at e3 hc hp
        have F : (eop (mkW o a b ty) == op) = (o == op) := rfl
        rw [F] at nx at'
        have G : (o == op) = true → cntR op = if decide (0 < b) then 2 else 1 := fun h => by rw [L, at' h]; rfl
        simp only [mkW] at e3
        clear at' F L E
        rcases tf (o == op) with g | g
        · rw [G g]
          rcases tf (decide (0 < b)) with g2 | g2
          · simp +contextual (maxSteps := 10000000) only [r0, r3, r4, d1, e3, g, g2, go_sem, W_draw]
          · simp +contextual (maxSteps := 10000000) only [r0, r3, r4, d1, e3, g, g2, go_sem, W_draw]
        · have nx := nx g
          simp +contextual (maxSteps := 10000000) only [r0, r3, r4, d1, e3, g, wrap_succ j (by omega), go_sem, W_draw]
          exact ⟨by omega, nx⟩
      · have d1 : decide ((j : Int) < ways.length) = false := by rw [ways_len]; simp; omega
        have hA : cntR op = -1 := by
          have : j = ways.length := by rw [ways_len]; omega
          subst this; rw [List.take_length] at hc
          rw [L, hc]
        simp +contextual (maxSteps := 10000000) only [r0, r3, r4, d1, hA, go_sem, W_draw]
  · cases h
open Classical in
noncomputable def φleafR : List D → Option D
  | [fs, e] => if isLs isF fs ∧ ∃ n, isE n e then some (tupI (leafR (elems fs) e)) else none
  | _ => none
set_option maxHeartbeats 4000000 in
theorem ok134 : OkAt Try.prog 134 φleafR := by
  refine ok_of (l := [(51, φformed), (155, φzero)]) (.cons ok51 (.cons ok155 .nil)) fn134 fun args r h => ?_
  unfold φleafR at h
  split at h
  · rename_i fs e
    split at h
    · rename_i hv
      injection h with h; subst h
      refine ⟨by simp, tupI_cl _, fun H T => ?_⟩
      obtain ⟨⟨nf, xs, rfl, hl, hx⟩, m, he⟩ := hv
      obtain ⟨op, k, i, s, nl, l, who, name, m, ps, rfl, h1, h2, h3, h4, h5, h6, eL, eP⟩ := isE_elim he
      have pv : φformed [mkV k i s nl l] = some (.bool (formedB (mkV k i s nl l))) := by simp only [φformed]; rw [if_pos h4.1]
      have ef : D.eraseL xs = xs := eraseL_id fun x h => isF_erase (hx x h)
      simp only [leafR, eop_mk, eV_mk, ewho_mk, ename_mk, sNow, sRole, sVal, sHas, elems_sliceD]
      rcases tf (op == [110, 111, 119]) with g1 | g1
      · simp only [g1]; simp +contextual (maxSteps := 10000000) only [c134, mkE, eL, eP, ef, g1, tupI, go_sem, W_draw]
      rcases tf (op == [114, 111, 108, 101]) with g2 | g2
      · simp only [g1, g2]; simp +contextual (maxSteps := 10000000) only [c134, mkE, eL, eP, ef, g1, g2, tupI, go_sem, W_draw]
      rcases tf (op == [118, 97, 108, 117, 101]) with g3 | g3
      · simp only [g1, g2, g3, litB, valT, vk_mk, vl_mk, if_true, Bool.false_eq_true, if_false]
        obtain ⟨fb, hq⟩ : ∃ z, formedB (mkV k i s nl l) = z := ⟨_, rfl⟩
        simp only [hq] at pv ⊢
        clear hq
        simp only [mkV] at pv
        have k0 : (k == 0) = !(k != 0) := by simp [bne]
        cases fb with
        | false => simp +contextual (maxSteps := 10000000) only [c134, mkE, eL, eP, ef, g1, g2, g3, pv, tupI, go_sem, W_draw]
        | true =>
        rcases tf (k == 0) with g4 | g4
        · have g4' : (k != 0) = false := by simp [bne, g4]
          simp only [g4']; simp +contextual (maxSteps := 10000000) only [c134, mkE, eL, eP, ef, g1, g2, g3, g4, pv, tupI, go_sem, W_draw]
        have g4' : (k != 0) = true := by simp [bne, g4]
        rcases tf (k == 5) with g5 | g5
        · by_cases hz : 0 < l.length
          · obtain ⟨k0', i0, s0, n0, l0, e0, _⟩ := get_isV (mkV_erase h4.1).2.2.2 hz
            have fk := vk0_get e0
            have d1 : (((l.length : Int)) == 0) = false := by rw [beq_eq_false_iff_ne]; omega
            simp only [mkV] at e0
            simp only [g4', g5, d1, fk]; simp +contextual (maxSteps := 10000000) only [c134, mkE, eL, eP, ef, g1, g2, g3, g4, g5, d1, e0, pv, tupI, go_sem, W_draw]
          · have d1 : (((l.length : Int)) == 0) = true := by rw [beq_iff_eq]; omega
            simp only [g4', g5, d1]; simp +contextual (maxSteps := 10000000) only [c134, mkE, eL, eP, ef, g1, g2, g3, g4, g5, d1, pv, tupI, go_sem, W_draw]
        · simp only [g4', g5]; simp +contextual (maxSteps := 10000000) only [c134, mkE, eL, eP, ef, g1, g2, g3, g4, g5, pv, tupI, go_sem, W_draw]
      simp only [g1, g2, g3, Bool.false_eq_true, if_false]
      simp +contextual (maxSteps := 10000000) only [c134, mkE, eL, eP, ef, g1, g2, g3, go_sem, W_draw]
      refine W_for (fun j s' => s'.t 0 = sliceD nf xs ∧ s'.t 3 = .ptr H.length 0 ∧ s'.t 6 = .int .i64 j ∧ s'.H = H ++ [.row [.str op, .int .i64 k, .int .i64 i, .str s, sliceD nl l, .str who, .str name, sliceD m ps]] ∧ s'.T = T ∧ j ≤ xs.length ∧ (xs.take j).find? (isOf who name) = none) xs.length ⟨0, by simp [upd, argT]⟩ (fun i s h => h.2.2.2.2.2.1) ?_ (XL_mono _)
      rintro j ⟨t, B, T'⟩ ⟨r0, r3, r6, rfl, rfl, hj, hc⟩
      simp only at r0 r3 r6
      by_cases ha : j < xs.length
      · have d1 : decide ((j : Int) < xs.length) = true := by simpa using ha
        obtain ⟨w3, n3, k3, b3, e3, q3, q4⟩ := isF_get hx ha
        have hf := hx _ (List.mem_of_getElem? e3)
        have nx := fun hp => find_take_succ (p := isOf who name) e3 hc hp
        have at' := fun hp => find_at (p := isOf who name) e3 hc hp
        have F : isOf who name (mkF w3 n3 k3 b3) = ((w3 == who) && (n3 == name)) := rfl
        rw [F] at nx at'
        have pz : φzero [mkF w3 n3 k3 b3] = some (.int .i64 (zeroF (mkF w3 n3 k3 b3))) := by simp only [φzero]; rw [if_pos hf]
        have G1 : ((w3 == who) && (n3 == name)) = true → hasR xs who name = (1, zeroF (mkF w3 n3 k3 b3)) := fun h => by unfold hasR; rw [at' h]
        have G2 : ((w3 == who) && (n3 == name)) = true → attR xs who name = if (if b3 then IntKind.i64.wrap (k3 + 10) else k3) == 0 then (0, 8) else ((if b3 then IntKind.i64.wrap (k3 + 10) else k3), 0) := fun h => by unfold attR; rw [at' h]; rfl
        obtain ⟨zf, hq⟩ : ∃ z, zeroF (mkF w3 n3 k3 b3) = z := ⟨_, rfl⟩
        simp only [hq] at pz G1
        clear at' F hq
        simp only [mkF] at e3 pz
        rcases tf (w3 == who) with u1 | u1
        · rcases tf (n3 == name) with u2 | u2
          · have n1 : (w3 != who) = false := by simp [bne, u1]
            have n2 : (n3 != name) = false := by simp [bne, u2]
            have G1 := G1 (by rw [u1, u2]; rfl)
            have G2 := G2 (by rw [u1, u2]; rfl)
            rw [G1, G2]
            rcases tf (op == [104, 97, 115]) with g4 | g4
            · simp only [g4]; simp +contextual (maxSteps := 10000000) only [r0, r3, r6, d1, e3, n1, n2, g4, pz, tupI, go_sem, W_draw]
            · cases b3 with
              | true =>
                simp only [g4, if_true, Bool.false_eq_true, if_false]
                rcases tf (IntKind.i64.wrap (k3 + 10) == 0) with g5 | g5
                · simp only [g5]; simp +contextual (maxSteps := 10000000) only [r0, r3, r6, d1, e3, n1, n2, g4, g5, tupI, go_sem, W_draw]
                · simp only [g5]; simp +contextual (maxSteps := 10000000) only [r0, r3, r6, d1, e3, n1, n2, g4, g5, tupI, go_sem, W_draw]
              | false =>
                simp only [g4, if_true, Bool.false_eq_true, if_false]
                rcases tf (k3 == 0) with g5 | g5
                · simp only [g5]; simp +contextual (maxSteps := 10000000) only [r0, r3, r6, d1, e3, n1, n2, g4, g5, tupI, go_sem, W_draw]
                · simp only [g5]; simp +contextual (maxSteps := 10000000) only [r0, r3, r6, d1, e3, n1, n2, g4, g5, tupI, go_sem, W_draw]
          · have n1 : (w3 != who) = false := by simp [bne, u1]
            have n2 : (n3 != name) = true := by simp [bne, u2]
            have nx := nx (by rw [u1, u2]; rfl)
            simp +contextual (maxSteps := 10000000) only [r0, r3, r6, d1, e3, n1, n2, wrap_succ j (by omega), go_sem, W_draw]
            exact ⟨by omega, nx⟩
        · have n1 : (w3 != who) = true := by simp [bne, u1]
          have nx := nx (by rw [u1]; rfl)
          simp +contextual (maxSteps := 10000000) only [r0, r3, r6, d1, e3, n1, wrap_succ j (by omega), go_sem, W_draw]
          exact ⟨by omega, nx⟩
      · have d1 : decide ((j : Int) < xs.length) = false := by simpa using ha
        have : j = xs.length := by omega
        subst this; rw [List.take_length] at hc
        have A1 : hasR xs who name = (0, 8) := by unfold hasR; rw [hc]
        have A2 : attR xs who name = (0, 8) := by unfold attR; rw [hc]
        rw [A1, A2]
        rcases tf (op == [104, 97, 115]) with g4 | g4 <;> simp only [g4] <;> simp +contextual (maxSteps := 10000000) only [r0, r3, r6, d1, tupI, go_sem, W_draw]
    · cases h
  · cases h
def typS (ar len : Int) (lf a b : Int × Int) (op : List UInt8) : Int × Int :=
  if lt0 ar || (len != ar) then (0, 2) else if ar == 0 then lf else if a.2 != 0 then (0, a.2) else
  if ar == 2 then (if b.2 != 0 then (0, b.2) else wayT op a.1 b.1) else wayT op a.1 0
theorem typR_S (n : Nat) (fs : List D) (e : D) : typR (n + 1) fs e = typS (arityI (eop e)) (eps e).length (leafR fs e) (typR n fs (part e 0)) (typR n fs (part e 1)) (eop e) := rfl
open Classical in
noncomputable def φtypR (n : Nat) : List D → Option D
  | [fs, e] => if isLs isF fs ∧ isE n e then some (tupI (typR n (elems fs) e)) else none
  | _ => none
set_option maxHeartbeats 16000000 in
theorem ok105 : ∀ n, OkAt Try.prog 105 (φtypR n)
  | 0 => fun args r h => by
    unfold φtypR at h
    split at h
    · split at h
      · rename_i h'; exact h'.2.elim
      · cases h
    · cases h
  | n + 1 => by
    have h15 := ok105 n
    refine ok_of (l := [(133, φcount), (134, φleafR), (135, φways), (105, φtypR n)]) (.cons ok133 (.cons ok134 (.cons ok135 (.cons h15 .nil)))) fn105 fun args r h => ?_
    unfold φtypR at h
    split at h
    · rename_i fs e
      split at h
      · rename_i hv
        obtain ⟨hfs, he⟩ := hv
        injection h with h; subst h
        refine ⟨by simp, tupI_cl _, fun H T => ?_⟩
        have pl : φleafR [fs, e] = some (tupI (leafR (elems fs) e)) := by simp only [φleafR]; rw [if_pos ⟨hfs, _, he⟩]
        have pw : φways [] = some (.sl none ways) := rfl
        have P : ∀ i, i < (eps e).length → φtypR n [fs, part e i] = some (tupI (typR n (elems fs) (part e i))) := fun i hi => by
          simp only [φtypR]; rw [if_pos ⟨hfs, (part_isE he hi).1⟩]
        have Q : ∀ i, i < (eps e).length → (part e i).erase = part e i ∧ (part e i).cells.length = 8 ∧ (part e i).cells.take 8 = (part e i).cells ∧ D.agg (part e i).cells = part e i ∧ (part e i).okc = true ∧ (eps e)[i]? = some (part e i) := fun i hi => by
          have h1 := (part_isE he hi).1
          obtain ⟨c1, c2, c3, c4⟩ := isE_cells h1
          exact ⟨isE_erase h1, c1, c2, c3, c4, by simp [part, hi]⟩
        have ef : fs.erase = fs := by
          obtain ⟨n, xs, rfl, _, hx⟩ := hfs
          rw [erase_sliceD, eraseL_id fun x h => isF_erase (hx x h)]
        rw [typR_S]
        obtain ⟨⟨lt, le⟩, hq⟩ : ∃ z, leafR (elems fs) e = z := ⟨_, rfl⟩
        simp only [hq] at pl ⊢
        clear hq
        obtain ⟨⟨ta, fa⟩, hqa⟩ : ∃ z, typR n (elems fs) (part e 0) = z := ⟨_, rfl⟩
        obtain ⟨⟨tb, fb⟩, hqb⟩ : ∃ z, typR n (elems fs) (part e 1) = z := ⟨_, rfl⟩
        have P0 := P 0
        have P1 := P 1
        have Q0 := Q 0
        have Q1 := Q 1
        simp only [hqa] at P0 ⊢
        simp only [hqb] at P1 ⊢
        clear hqa hqb P Q
        obtain ⟨x, hx⟩ : ∃ z, part e 0 = z := ⟨_, rfl⟩
        obtain ⟨y, hy⟩ : ∃ z, part e 1 = z := ⟨_, rfl⟩
        rw [hx] at P0 Q0
        rw [hy] at P1 Q1
        clear hx hy
        obtain ⟨op, k, i, s, nl, l, who, name, m, ps, rfl, h1, h2, h3, h4, h5, h6, eL, eP⟩ := isE_elim he
        rw [eps_mk] at P0 P1 Q0 Q1
        simp only [eop_mk, eps_mk]
        have pc : φcount [.str op] = some (.int .i64 (arityI op)) := rfl
        have aC := arity_cases op
        have w1 : IntKind.i64.wrap 1 = 1 := by decide
        have w2 : IntKind.i64.wrap 2 = 2 := by decide
        obtain ⟨ar, hq⟩ : ∃ z, arityI op = z := ⟨_, rfl⟩
        rw [hq] at pc aC ⊢
        clear hq
        simp only [tupI, mkE] at pl P0 P1
        rcases tf ((ps.length : Int) != ar) with g1 | g1
        · unfold typS
          rw [g1]
          rcases aC with rfl | rfl | rfl | rfl <;> simp +contextual (maxSteps := 10000000) only [c105, mkE, eL, eP, ef, pc, g1, lt0, tupI, go_sem, W_draw]
        have hl : (ps.length : Int) = ar := by simpa using g1
        rcases aC with rfl | rfl | rfl | rfl
        · unfold typS; simp only [g1]
          simp +contextual (maxSteps := 10000000) only [c105, mkE, eL, eP, ef, pc, pl, g1, lt0, tupI, go_sem, W_draw]
        · have P0 := P0 (by omega)
          obtain ⟨x1, x2, x3, x4, x5, x6⟩ := Q0 (by omega)
          unfold typS
          simp only [g1]
          rcases tf (fa != 0) with f1 | f1
          · simp only [f1]
            simp +contextual (maxSteps := 10000000) only [c105, mkE, eL, eP, ef, pc, g1, lt0, tupI, go_sem, W_draw]
            refine W_unr 2 ?_ (XL_mono _)
            simp +contextual (maxSteps := 10000000) only [unr_s, Int.reduceAdd, w1, w2, P0, x1, x2, x3, x4, x5, x6, f1, ef, eP, tupI, go_sem, W_draw]
          · simp only [f1]
            simp +contextual (maxSteps := 10000000) only [c105, mkE, eL, eP, ef, pc, g1, lt0, tupI, go_sem, W_draw]
            refine W_unr 2 ?_ (XL_mono _)
            simp +contextual (maxSteps := 10000000) only [unr_s, Int.reduceAdd, w1, w2, P0, x1, x2, x3, x4, x5, x6, f1, ef, eP, pw, ways_erase, tupI, go_sem, W_draw]
            refine W_for (fun j s' => s'.t 3 = .ptr H.length 0 ∧ s'.t 7 = .ptr (H.length + 1) 0 ∧ s'.t 11 = .sl none ways ∧ s'.t 12 = .int .i64 j ∧ s'.H = H ++ [.row [.str op, .int .i64 k, .int .i64 i, .str s, sliceD nl l, .str who, .str name, sliceD m ps], .row [.int .i64 ta, .int .i64 0]] ∧ s'.T = T ∧ j ≤ 46 ∧ (ways.take j).find? (wayQ op ta 0) = none) 46 ⟨0, by simp [upd, argT]⟩ (fun i s h => h.2.2.2.2.2.2.1) ?_ (XL_mono _)
            rintro j ⟨t, B, T'⟩ ⟨r3, r7, r11, r12, rfl, rfl, hj, hc⟩
            simp only at r3 r7 r11 r12
            by_cases ha : j < 46
            · have d1 : decide ((j : Int) < ways.length) = true := by rw [ways_len]; simp; omega
              obtain ⟨o, a', b', ty, e3⟩ := ways_get ha
              have nx := fun hp => find_take_succ (p := wayQ op ta 0) e3 hc hp
              have at' := fun hp => find_at (p := wayQ op ta 0) e3 hc hp
              have F : wayQ op ta 0 (mkW o a' b' ty) = ((o == op) && (a' == ta) && (b' == 0)) := rfl
              rw [F] at nx at'
              have G : ((o == op) && (a' == ta) && (b' == 0)) = true → wayT op ta 0 = (ty, 0) := fun h => by unfold wayT; rw [at' h]; rfl
              simp only [mkW] at e3
              clear at' F
              rcases tf (o == op) with g1 | g1
              · rcases tf (a' == ta) with g2 | g2
                · rcases tf (b' == 0) with g3 | g3
                  · rw [G (by rw [g1, g2, g3]; rfl)]
                    simp +contextual (maxSteps := 10000000) only [r3, r7, r11, r12, d1, e3, g1, g2, g3, tupI, go_sem, W_draw]
                  · have nx := nx (by rw [g1, g2, g3]; rfl)
                    simp +contextual (maxSteps := 10000000) only [r3, r7, r11, r12, d1, e3, g1, g2, g3, wrap_succ j (by omega), go_sem, W_draw]
                    exact ⟨by omega, nx⟩
                · have nx := nx (by rw [g1, g2]; rfl)
                  simp +contextual (maxSteps := 10000000) only [r3, r7, r11, r12, d1, e3, g1, g2, wrap_succ j (by omega), go_sem, W_draw]
                  exact ⟨by omega, nx⟩
              · have nx := nx (by rw [g1]; rfl)
                simp +contextual (maxSteps := 10000000) only [r3, r7, r11, r12, d1, e3, g1, wrap_succ j (by omega), go_sem, W_draw]
                exact ⟨by omega, nx⟩
            · have d1 : decide ((j : Int) < ways.length) = false := by rw [ways_len]; simp; omega
              have hA : wayT op ta 0 = (0, 6) := by
                have : j = ways.length := by rw [ways_len]; omega
                subst this; rw [List.take_length] at hc
                unfold wayT; rw [hc]
              simp +contextual (maxSteps := 10000000) only [r3, r7, r11, r12, d1, hA, tupI, go_sem, W_draw]
        · have P0 := P0 (by omega)
          have P1 := P1 (by omega)
          obtain ⟨x1, x2, x3, x4, x5, x6⟩ := Q0 (by omega)
          obtain ⟨y1, y2, y3, y4, y5, y6⟩ := Q1 (by omega)
          unfold typS
          simp only [g1]
          rcases tf (fa != 0) with f1 | f1
          · simp only [f1]
            simp +contextual (maxSteps := 10000000) only [c105, mkE, eL, eP, ef, pc, g1, lt0, tupI, go_sem, W_draw]
            refine W_unr 3 ?_ (XL_mono _)
            simp +contextual (maxSteps := 10000000) only [unr_s, Int.reduceAdd, w1, w2, P0, x1, x2, x3, x4, x5, x6, f1, ef, eP, tupI, go_sem, W_draw]
          rcases tf (fb != 0) with f2 | f2
          · simp only [f1, f2]
            simp +contextual (maxSteps := 10000000) only [c105, mkE, eL, eP, ef, pc, g1, lt0, tupI, go_sem, W_draw]
            refine W_unr 3 ?_ (XL_mono _)
            simp +contextual (maxSteps := 10000000) only [unr_s, Int.reduceAdd, w1, w2, P0, x1, x2, x3, x4, x5, x6, P1, y1, y2, y3, y4, y5, y6, f1, f2, ef, eP, tupI, go_sem, W_draw]
          · simp only [f1, f2]
            simp +contextual (maxSteps := 10000000) only [c105, mkE, eL, eP, ef, pc, g1, lt0, tupI, go_sem, W_draw]
            refine W_unr 3 ?_ (XL_mono _)
            simp +contextual (maxSteps := 10000000) only [unr_s, Int.reduceAdd, w1, w2, P0, x1, x2, x3, x4, x5, x6, P1, y1, y2, y3, y4, y5, y6, f1, f2, ef, eP, pw, ways_erase, tupI, go_sem, W_draw]
            refine W_for (fun j s' => s'.t 3 = .ptr H.length 0 ∧ s'.t 7 = .ptr (H.length + 1) 0 ∧ s'.t 11 = .sl none ways ∧ s'.t 12 = .int .i64 j ∧ s'.H = H ++ [.row [.str op, .int .i64 k, .int .i64 i, .str s, sliceD nl l, .str who, .str name, sliceD m ps], .row [.int .i64 ta, .int .i64 tb]] ∧ s'.T = T ∧ j ≤ 46 ∧ (ways.take j).find? (wayQ op ta tb) = none) 46 ⟨0, by simp [upd, argT]⟩ (fun i s h => h.2.2.2.2.2.2.1) ?_ (XL_mono _)
            rintro j ⟨t, B, T'⟩ ⟨r3, r7, r11, r12, rfl, rfl, hj, hc⟩
            simp only at r3 r7 r11 r12
            by_cases ha : j < 46
            · have d1 : decide ((j : Int) < ways.length) = true := by rw [ways_len]; simp; omega
              obtain ⟨o, a', b', ty, e3⟩ := ways_get ha
              have nx := fun hp => find_take_succ (p := wayQ op ta tb) e3 hc hp
              have at' := fun hp => find_at (p := wayQ op ta tb) e3 hc hp
              have F : wayQ op ta tb (mkW o a' b' ty) = ((o == op) && (a' == ta) && (b' == tb)) := rfl
              rw [F] at nx at'
              have G : ((o == op) && (a' == ta) && (b' == tb)) = true → wayT op ta tb = (ty, 0) := fun h => by unfold wayT; rw [at' h]; rfl
              simp only [mkW] at e3
              clear at' F
              rcases tf (o == op) with g1 | g1
              · rcases tf (a' == ta) with g2 | g2
                · rcases tf (b' == tb) with g3 | g3
                  · rw [G (by rw [g1, g2, g3]; rfl)]
                    simp +contextual (maxSteps := 10000000) only [r3, r7, r11, r12, d1, e3, g1, g2, g3, tupI, go_sem, W_draw]
                  · have nx := nx (by rw [g1, g2, g3]; rfl)
                    simp +contextual (maxSteps := 10000000) only [r3, r7, r11, r12, d1, e3, g1, g2, g3, wrap_succ j (by omega), go_sem, W_draw]
                    exact ⟨by omega, nx⟩
                · have nx := nx (by rw [g1, g2]; rfl)
                  simp +contextual (maxSteps := 10000000) only [r3, r7, r11, r12, d1, e3, g1, g2, wrap_succ j (by omega), go_sem, W_draw]
                  exact ⟨by omega, nx⟩
              · have nx := nx (by rw [g1]; rfl)
                simp +contextual (maxSteps := 10000000) only [r3, r7, r11, r12, d1, e3, g1, wrap_succ j (by omega), go_sem, W_draw]
                exact ⟨by omega, nx⟩
            · have d1 : decide ((j : Int) < ways.length) = false := by rw [ways_len]; simp; omega
              have hA : wayT op ta tb = (0, 6) := by
                have : j = ways.length := by rw [ways_len]; omega
                subst this; rw [List.take_length] at hc
                unfold wayT; rw [hc]
              simp +contextual (maxSteps := 10000000) only [r3, r7, r11, r12, d1, hA, tupI, go_sem, W_draw]
        · exfalso; omega
      · cases h
    · cases h
open Classical in
noncomputable def φkinds9 : List D → Option D
  | [fs] => if isLs isF fs ∧ (elems fs).length ≤ 12 then some (sliceD true ((elems fs).map kindF)) else none
  | _ => none
theorem kind_isF {f : D} (h : isF f) : isF (kindF f) := by
  obtain ⟨who, name, kind, bag, rfl, h1, h2, h3, h4⟩ := h
  have := kindN_rg kind
  exact ⟨who, name, kindN kind, bag, rfl, h1, h2, by omega, by omega⟩
theorem kinds_isF {fs : D} (h : isLs isF fs) : isLs isF (sliceD true ((elems fs).map kindF)) := by
  obtain ⟨n, xs, rfl, h1, h2⟩ := h
  rw [elems_sliceD]
  refine ⟨true, _, rfl, by simpa using h1, fun x hx => ?_⟩
  obtain ⟨y, hy, rfl⟩ := List.mem_map.1 hx
  exact kind_isF (h2 y hy)
theorem isLs_cl {fs : D} (h : isLs isF fs) : fs.cl 0 0 = true := by
  obtain ⟨n, xs, rfl, h1, h2⟩ := h
  have e : D.clL 0 0 xs = true := by
    clear h1
    induction xs with
    | nil => rfl
    | cons x xs ih =>
      obtain ⟨who, name, kind, bag, rfl, _⟩ := h2 x (by simp)
      simp only [D.clL, mkF, D.cl, Bool.and_self, Bool.true_and]
      exact ih fun y hy => h2 y (by simp [hy])
  rcases sliceD_cases n xs with ⟨e1, rfl⟩ | e1 <;> rw [e1]
  · rfl
  · simp [D.cl, e]
theorem take_map_succ {f : D → D} {xs : List D} {j : Nat} {x : D} (hx : xs[j]? = some x) : (xs.take (j + 1)).map f = (xs.take j).map f ++ [f x] := by
  rw [List.take_add_one, hx]; simp
set_option maxHeartbeats 4000000 in
theorem ok19 : OkAt Try.prog 19 φkinds9 := by
  refine ok_of (l := []) .nil fn19 fun args r h => ?_
  unfold φkinds9 at h
  split at h
  · rename_i fs
    split at h
    · rename_i hv
      obtain ⟨hf, hl⟩ := hv
      injection h with h; subst h
      refine ⟨by simp, isLs_cl (kinds_isF hf), fun H T => ?_⟩
      obtain ⟨n, xs, rfl, _, hx⟩ := hf
      rw [elems_sliceD] at hl ⊢
      have ef : D.eraseL xs = xs := eraseL_id fun x h => isF_erase (hx x h)
      have eK : D.eraseL (xs.map kindF) = xs.map kindF := eraseL_id fun x h => by
        obtain ⟨y, hy, rfl⟩ := List.mem_map.1 h
        exact isF_erase (kind_isF (hx y hy))
      simp +contextual (maxSteps := 10000000) only [c19, ef, go_sem, W_draw]
      refine W_for (fun j s' => s'.t 0 = sliceD n xs ∧ s'.t 4 = .int .i64 j ∧ Ext H s'.H ∧ j ≤ xs.length ∧ ((j = 0 ∧ s'.t 3 = .nils ∧ s'.T = T) ∨ (0 < j ∧ ∃ L i, s'.T = T ++ L ∧ s'.t 3 = .sl (some (T.length + i)) ((xs.take j).map kindF) ∧ L[i]? = some (some (j, 4))))) xs.length ⟨0, by simp [upd, argT, ext_self]⟩ (fun i s h => h.2.2.2.1) ?_ (XL_mono _)
      rintro j ⟨t, B, T'⟩ ⟨r0, r4, hE, hj, hc⟩
      simp only at r0 r4 hE hc
      by_cases ha : j < xs.length
      · have d1 : decide ((j : Int) < xs.length) = true := by simpa using ha
        obtain ⟨w3, n3, k3, b3, e3, q3, q4⟩ := isF_get hx ha
        have tk := take_map_succ (f := kindF) e3
        have ek : kindF (mkF w3 n3 k3 b3) = .agg [.str w3, .str n3, .int .i64 (kindN k3), .bool b3] := rfl
        rw [ek] at tk
        simp only [mkF] at e3
        have kN : kindN k3 = IntKind.i64.wrap (1 + IntKind.i64.wrap ((IntKind.u64.wrap k3).tmod 4)) := rfl
        rw [kN] at tk
        rcases hc with ⟨rfl, r3, rfl⟩ | ⟨h0, L, i, rfl, r3, hL⟩
        · simp +contextual (maxSteps := 10000000) only [r0, r3, r4, d1, e3, hE.ta, go_sem, W_draw]
          have d1' : decide ((0 : Int) < xs.length) = true := d1
          refine ⟨fun _ => ⟨by decide, by decide, by rw [show IntKind.i64.wrap (0 + 1) = 1 from by decide], by omega, .inr ⟨[some (1, 4), some (1, 4)], 1, rfl, ?_, rfl⟩⟩, fun h => ?_⟩
          · rw [show (1 : Nat) = 0 + 1 from rfl, tk]; rfl
          · rw [d1'] at h; cases h
        · have hfit : ((xs.take j).map kindF).all (fit 4) = true := List.all_eq_true.2 fun x hx' => by
            obtain ⟨y, hy, rfl⟩ := List.mem_map.1 hx'
            rfl
          simp +contextual (maxSteps := 10000000) only [r0, r3, r4, d1, e3, hE.ta, appK_tok, hfit, go_sem, W_draw]
          have hlj : (List.map kindF (List.take j xs)).length = j := by simp; omega
          have hi : i < L.length := by
            rcases Nat.lt_or_ge i L.length with h | h
            · exact h
            · rw [List.getElem?_eq_none h] at hL; cases hL
          refine ⟨by rw [hlj, List.getElem?_append_left hi, hL], by rw [hlj]; omega, by rw [hlj]; omega, by rw [wrap_succ j (by omega)], by omega, .inr ⟨by omega, _, i, rfl, by rw [tk], ?_⟩⟩
          rw [hlj, List.getElem?_set_self (by simp; omega)]
      · have d1 : decide ((j : Int) < xs.length) = false := by simpa using ha
        have ej : j = xs.length := by omega
        subst ej
        rcases hc with ⟨h0, r3, rfl⟩ | ⟨h0, L, i, rfl, r3, hL⟩
        · have : xs = [] := List.length_eq_zero_iff.1 h0
          subst this
          simp +contextual (maxSteps := 10000000) only [r0, r3, r4, d1, leaves_E hE (ExtT.refl _), go_sem, W_draw]
          rfl
        · rw [List.take_length] at r3
          have hne : xs ≠ [] := by rintro rfl; simp at h0
          simp +contextual (maxSteps := 10000000) only [r0, r3, r4, d1, leaves_E hE (ExtT.of T L), eK, go_sem, W_draw]
          have : (List.map kindF xs).isEmpty = false := by
            cases xs with
            | nil => exact (hne rfl).elim
            | cons x xs => rfl
          simp [sliceD, this]
    · cases h
  · cases h
def attrE (who name : List UInt8) : D := mkE sAttr 0 0 [] true [] who name true []
theorem attr_isE {who name : List UInt8} (h1 : who.length ≤ 2 ^ 47) (h2 : name.length ≤ 2 ^ 47) : isE 1 (attrE who name) :=
  ⟨sAttr, 0, 0, [], true, [], who, name, true, [], rfl, by decide, h1, h2, ⟨by decide, by decide, by decide⟩, by simp, by simp⟩
theorem attr_typ (fs : List D) (who name : List UInt8) : typR 1 fs (attrE who name) = attR fs who name := by
  unfold typR lt0
  have e1 : eop (attrE who name) = sAttr := rfl
  have e2 : eps (attrE who name) = [] := rfl
  have e3 : arityI sAttr = 0 := by decide
  rw [e1, e2, e3]
  rw [if_neg (by decide), if_pos (by decide)]
  unfold leafR
  rw [e1, if_neg (by decide), if_neg (by decide), if_neg (by decide), if_neg (by decide)]
  rfl
open Classical in
noncomputable def φfits : List D → Option D
  | [fs, s] => if isLs isF fs ∧ isS s then some (.bool (fitsB (elems fs) s)) else none
  | _ => none
set_option maxHeartbeats 8000000 in
theorem ok66 : OkAt Try.prog 66 φfits := by
  refine ok_of (l := [(104, φright), (105, φtypR 1)]) (.cons ok104 (.cons (ok105 1) .nil)) fn66 fun args r h => ?_
  unfold φfits at h
  split at h
  · rename_i fs s
    split at h
    · rename_i hv
      obtain ⟨hf, hs⟩ := hv
      injection h with h; subst h
      refine ⟨by simp, by simp [D.cl], fun H T => ?_⟩
      have pr : φright [s] = some (.bool (rightB s)) := by simp only [φright]; rw [if_pos hs]
      have pt : ∀ who name : List UInt8, who.length ≤ 2 ^ 47 → name.length ≤ 2 ^ 47 → φtypR 1 [fs, attrE who name] = some (tupI (attR (elems fs) who name)) := fun who name h1 h2 => by
        simp only [φtypR]; rw [if_pos ⟨hf, attr_isE h1 h2⟩, attr_typ]
      have ef : fs.erase = fs := by
        obtain ⟨n, xs, rfl, _, hx⟩ := hf
        rw [erase_sliceD, eraseL_id fun x h => isF_erase (hx x h)]
      obtain ⟨now, R, A, rfl, n1, n2, hR, hA⟩ := hs
      have eR := isLs_erase (fun _ => isTx_erase) hR
      have eA := isLs_erase (fun _ => isH_erase) hA
      obtain ⟨nb, l, rfl, hl, hH⟩ := hA
      simp only [fitsB, sA_mk, elems_sliceD]
      obtain ⟨rb, hq⟩ : ∃ z, rightB (mkS now R (sliceD nb l)) = z := ⟨_, rfl⟩
      simp only [hq] at pr ⊢
      clear hq
      simp only [mkS] at pr
      cases rb with
      | false => simp +contextual (maxSteps := 10000000) only [c66, mkS, eR, eA, ef, pr, go_sem, W_draw]
      | true =>
      simp +contextual (maxSteps := 10000000) only [c66, mkS, eR, eA, ef, pr, go_sem, W_draw]
      refine W_for (fun j s' => s'.t 0 = fs ∧ s'.t 3 = .ptr H.length 0 ∧ s'.t 5 = .int .i64 j ∧ Ext (H ++ [.row [.int .i64 now, R, sliceD nb l]]) s'.H ∧ s'.T = T ∧ j ≤ l.length ∧ (l.take j).all (fitH (elems fs)) = true) l.length ⟨0, by simp [upd, argT, ext_self]⟩ (fun i s h => h.2.2.2.2.2.1) ?_ (XL_mono _)
      rintro j ⟨t, B, T'⟩ ⟨r0, r3, r5, hE, rfl, hj, hc⟩
      simp only at r0 r3 r5 hE
      have b1 := hE.get (o := H.length) (by simp; rfl)
      by_cases ha : j < l.length
      · have d1 : decide ((j : Int) < l.length) = true := by simpa using ha
        have hx := hH _ (List.getElem_mem ha)
        have ex : l[j]? = some l[j] := by simp [ha]
        have nx := fun hp => all_nx (p := fitH (elems fs)) ex hc hp
        have no := fun hp => all_no (p := fitH (elems fs)) ex hp
        obtain ⟨who, name, k, i, s, nl, l', e, w1, w2, hv⟩ := hx
        rw [e] at ex nx no
        have G : fitH (elems fs) (mkH who name k i s nl l') = (((attR (elems fs) who name).2 == 0) && sitB (mkV k i s nl l') (attR (elems fs) who name).1) := rfl
        rw [G] at nx no
        have pt := pt who name w1 w2
        obtain ⟨⟨ty, f⟩, hq⟩ : ∃ z, attR (elems fs) who name = z := ⟨_, rfl⟩
        simp only [hq] at pt nx no
        clear hq G
        have eL := (mkV_erase hv.1).1
        simp only [attrE, mkE, tupI, sAttr, sliceD, List.isEmpty_nil, Bool.and_self, if_true] at pt
        simp only [mkH] at ex
        simp only [sitB, kv, vk_mk, vl_mk] at nx no
        have eX : (f != 0) = !(f == 0) := rfl
        rcases tf (f == 0) with f1 | f1
        · have f1' : (f != 0) = false := by simp [bne, f1]
          have fin : ∀ kk : Int, True := fun _ => trivial
          rcases tf (k == 5) with g1 | g1
          · by_cases hz : 0 < l'.length
            · have dl : decide ((0 : Int) < l'.length) = true := by simpa using hz
              obtain ⟨k0', i0, s0, n0, l0, e0, _⟩ := get_isV (mkV_erase hv.1).2.2.2 hz
              have fk := vk0_get e0
              simp only [mkV] at e0
              rw [fk] at nx no
              simp only [f1, g1, dl, Bool.and_self, if_true, Bool.true_and] at nx no
              obtain ⟨kk, hq⟩ : ∃ z, IntKind.i64.wrap (10 + k0') = z := ⟨_, rfl⟩
              simp only [hq] at nx no
              rcases tf (kk == ty) with g2 | g2
              · have nx := nx (by rw [g2]; rfl)
                have g2' : (kk != ty) = false := by simp [bne, g2]
                simp +contextual (maxSteps := 10000000) only [r0, r3, r5, d1, ex, eL, ef, pt, f1, rdAt_E b1, rdAt_Ea b1, hE.ta, leaves_E hE.pre (ExtT.refl _), leaves_Ea hE.pre (ExtT.refl _), f1', g1, dl, e0, hq, g2', wrap_succ j (by omega), go_sem, W_draw]
                exact ⟨by omega, nx⟩
              · have g2' : (kk != ty) = true := by simp [bne, g2]
                rcases tf (kk == 5) with g3 | g3
                · rcases tf (decide (10 < ty)) with g4 | g4
                  · have nx := nx (by rw [g2, g3, g4]; rfl)
                    simp +contextual (maxSteps := 10000000) only [r0, r3, r5, d1, ex, eL, ef, pt, f1, rdAt_E b1, rdAt_Ea b1, hE.ta, leaves_E hE.pre (ExtT.refl _), leaves_Ea hE.pre (ExtT.refl _), f1', g1, dl, e0, hq, g2', g3, g4, wrap_succ j (by omega), go_sem, W_draw]
                    exact ⟨by omega, nx⟩
                  · have no := no (by rw [g2, g3, g4]; rfl)
                    simp +contextual (maxSteps := 10000000) only [r0, r3, r5, d1, ex, eL, ef, pt, f1, rdAt_E b1, rdAt_Ea b1, hE.ta, leaves_E hE.pre (ExtT.refl _), leaves_Ea hE.pre (ExtT.refl _), f1', g1, dl, e0, hq, g2', g3, g4, no, go_sem, W_draw]
                · have no := no (by rw [g2, g3]; rfl)
                  simp +contextual (maxSteps := 10000000) only [r0, r3, r5, d1, ex, eL, ef, pt, f1, rdAt_E b1, rdAt_Ea b1, hE.ta, leaves_E hE.pre (ExtT.refl _), leaves_Ea hE.pre (ExtT.refl _), f1', g1, dl, e0, hq, g2', g3, no, go_sem, W_draw]
            · have dl : decide ((0 : Int) < l'.length) = false := by simp only [decide_eq_false_iff_not]; omega
              simp only [f1, g1, dl, Bool.and_false, Bool.false_eq_true, if_false, Bool.true_and] at nx no
              rcases tf (k == ty) with g2 | g2
              · have nx := nx (by rw [g2]; rfl)
                have g2' : (k != ty) = false := by simp [bne, g2]
                simp +contextual (maxSteps := 10000000) only [r0, r3, r5, d1, ex, eL, ef, pt, f1, rdAt_E b1, rdAt_Ea b1, hE.ta, leaves_E hE.pre (ExtT.refl _), leaves_Ea hE.pre (ExtT.refl _), f1', g1, dl, g2', wrap_succ j (by omega), go_sem, W_draw]
                exact ⟨by omega, nx⟩
              · have g2' : (k != ty) = true := by simp [bne, g2]
                rcases tf (decide (10 < ty)) with g4 | g4
                · have nx := nx (by rw [g2, g4]; rfl)
                  simp +contextual (maxSteps := 10000000) only [r0, r3, r5, d1, ex, eL, ef, pt, f1, rdAt_E b1, rdAt_Ea b1, hE.ta, leaves_E hE.pre (ExtT.refl _), leaves_Ea hE.pre (ExtT.refl _), f1', g1, dl, g2', g4, wrap_succ j (by omega), go_sem, W_draw]
                  exact ⟨by omega, nx⟩
                · have no := no (by rw [g2, g4]; rfl)
                  simp +contextual (maxSteps := 10000000) only [r0, r3, r5, d1, ex, eL, ef, pt, f1, rdAt_E b1, rdAt_Ea b1, hE.ta, leaves_E hE.pre (ExtT.refl _), leaves_Ea hE.pre (ExtT.refl _), f1', g1, dl, g2', g4, no, go_sem, W_draw]
          · simp only [f1, g1, Bool.false_and, Bool.false_eq_true, if_false, Bool.true_and, Bool.or_false] at nx no
            rcases tf (k == ty) with g2 | g2
            · have nx := nx g2
              have g2' : (k != ty) = false := by simp [bne, g2]
              simp +contextual (maxSteps := 10000000) only [r0, r3, r5, d1, ex, eL, ef, pt, f1, rdAt_E b1, rdAt_Ea b1, hE.ta, leaves_E hE.pre (ExtT.refl _), leaves_Ea hE.pre (ExtT.refl _), f1', g1, g2', wrap_succ j (by omega), go_sem, W_draw]
              exact ⟨by omega, nx⟩
            · have g2' : (k != ty) = true := by simp [bne, g2]
              have no := no g2
              simp +contextual (maxSteps := 10000000) only [r0, r3, r5, d1, ex, eL, ef, pt, f1, rdAt_E b1, rdAt_Ea b1, hE.ta, leaves_E hE.pre (ExtT.refl _), leaves_Ea hE.pre (ExtT.refl _), f1', g1, g2', no, go_sem, W_draw]
        · have f1' : (f != 0) = true := by simp [bne, f1]
          have no := no (by rw [f1]; rfl)
          simp +contextual (maxSteps := 10000000) only [r0, r3, r5, d1, ex, eL, ef, pt, f1, rdAt_E b1, rdAt_Ea b1, hE.ta, leaves_E hE.pre (ExtT.refl _), leaves_Ea hE.pre (ExtT.refl _), f1', no, go_sem, W_draw]
      · have d1 : decide ((j : Int) < l.length) = false := by simpa using ha
        have hA : l.all (fitH (elems fs)) = true := by
          have : j = l.length := by omega
          subst this; rw [List.take_length] at hc; exact hc
        simp +contextual (maxSteps := 10000000) only [r0, r3, r5, d1, hA, rdAt_E b1, leaves_E hE.pre (ExtT.refl _), go_sem, W_draw]
    · cases h
  · cases h
end GP
namespace GP
open Go Go.Proofs
set_option maxRecDepth 100000
variable [HasG Try.prog]
theorem kind0_of {v : D} (hf : formedB v = true) (h5 : vk v = 5) (hl : 0 < (vl v).length) : 1 ≤ vk0 (vl v) ∧ vk0 (vl v) ≤ 4 := by
  unfold formedB at hf
  rw [if_neg (by simp [h5])] at hf
  split at hf
  · cases hf
  · unfold adjB at hf
    have h0 := List.all_eq_true.1 hf 0 (by simp; exact hl)
    unfold okEl at h0
    cases hx : vl v with
    | nil => rw [hx] at hl; simp at hl
    | cons x xs =>
      rw [hx] at h0
      have e : (x :: xs)[0]? = some x := rfl
      rw [e] at h0
      simp only [Bool.and_eq_true, bne_iff_ne, ne_eq] at h0
      obtain ⟨⟨⟨h1, h2⟩, _⟩, _⟩ := h0
      show 1 ≤ vk x ∧ vk x ≤ 4
      unfold one1 plainB at h1
      split at h1
      · cases h1
      split at h1
      · cases h1
      split at h1
      · rename_i h; simp at h; omega
      split at h1
      · rename_i h; simp at h; omega
      split at h1
      · rename_i h; simp at h; omega
      split at h1
      · rename_i h; simp at h; omega
      split at h1
      · rename_i h; simp at h; omega
      · cases h1
structure Rw where
  who : List UInt8
  name : List UInt8
  attr : List UInt8
  k : Int
  i : Int
  s : List UInt8
  n : Bool
  l : List D
def Rw.v (r : Rw) : D := mkV r.k r.i r.s r.n r.l
def rwD (r : Rw) : D := .agg [.str r.who, .str r.name, .str r.attr, .int .i64 r.k, .int .i64 r.i, .str r.s, sliceD r.n r.l]
structure Rw.Ok (r : Rw) : Prop where
  who : r.who.length ≤ 2 ^ 47
  name : r.name.length ≤ 2 ^ 47
  attr : r.attr.length ≤ 2 ^ 47
  v : isVr r.v
  ll : r.l.length ≤ 2 ^ 30
def isRw (d : D) : Prop := ∃ r : Rw, d = rwD r ∧ r.Ok
def rwho : D → List UInt8
  | .agg (.str w :: _) => w
  | _ => []
def rname : D → List UInt8
  | .agg (_ :: .str w :: _) => w
  | _ => []
def rattr : D → List UInt8
  | .agg (_ :: _ :: .str w :: _) => w
  | _ => []
def rV : D → D
  | .agg (_ :: _ :: _ :: l) => .agg l
  | _ => .top
theorem rwho_mk (r : Rw) : rwho (rwD r) = r.who := rfl
theorem rname_mk (r : Rw) : rname (rwD r) = r.name := rfl
theorem rattr_mk (r : Rw) : rattr (rwD r) = r.attr := rfl
theorem Rw.Ok.eL {r : Rw} (h : r.Ok) : D.eraseL r.l = r.l := (mkV_erase h.v.1).1
theorem isRw_erase {d : D} (h : isRw d) : d.erase = d := by
  obtain ⟨r, rfl, h⟩ := h
  simp only [rwD, D.erase, D.eraseL, erase_sliceD, h.eL]
theorem att_typI (fs : List D) (who name : List UInt8) : typI 1 fs (attrE who name) = if factI fs who name == 0 then (0, 8) else (factI fs who name, 0) := by
  unfold typI
  have e1 : eop (attrE who name) = sAttr := rfl
  have e2 : eps (attrE who name) = [] := rfl
  have e3 : arityI sAttr = 0 := by decide
  rw [e1, e2, e3, if_neg (by decide), if_pos (by decide)]
  unfold noneI
  rw [e1, if_neg (by decide), if_neg (by decide), if_neg (by decide)]
  have e4 : ewho (attrE who name) = who := rfl
  have e5 : ename (attrE who name) = name := rfl
  rw [e4, e5]
  rfl
def vtyp (v : D) : Int × Int := if litI v != 0 then (litI v, 0) else (0, 2)
theorem val_typI (fs : List D) (k i : Int) (s : List UInt8) (n : Bool) (l : List D) : typI 1 fs (mkE sVal k i s n l [] [] true []) = vtyp (mkV k i s n l) := by
  unfold typI
  have e1 : eop (mkE sVal k i s n l [] [] true []) = sVal := rfl
  have e2 : eps (mkE sVal k i s n l [] [] true []) = [] := rfl
  have e3 : arityI sVal = 0 := by decide
  rw [e1, e2, e3, if_neg (by decide), if_pos (by decide)]
  unfold noneI
  rw [e1, if_pos (by decide)]
  rfl
def atyp (fs : List D) (who name : List UInt8) : Int × Int := if factI fs who name == 0 then (0, 8) else (factI fs who name, 0)
def fitP (t f k g : Int) (v : D) : Bool := !((f != 0) || (!((vk v == 5) && (((vl v).length : Int) == 0) && decide (10 < t)) && ((g != 0) || (k != t))))
def fitHP (fs : List D) (h : D) : Bool := fitP (atyp fs (fwho h) (fname h)).1 (atyp fs (fwho h) (fname h)).2 (vtyp (hV h)).1 (vtyp (hV h)).2 (hV h)
def fitsP (fs : List D) (s : D) : Bool := (sA s).all (fitHP fs) && rightB s
open Classical in
noncomputable def φfitsP : List D → Option D
  | [fs, s] => if isLs isF fs ∧ isS s then some (.bool (fitsP (elems fs) s)) else none
  | _ => none
set_option maxHeartbeats 8000000 in
theorem ok99 : OkAt Try.prog 99 φfitsP := by
  refine ok_of (l := [(130, φright), (129, φtyp 1)]) (.cons ok130 (.cons (ok129 1) .nil)) fn99 fun args r h => ?_
  unfold φfitsP at h
  split at h
  · rename_i fs s
    split at h
    · rename_i hv
      obtain ⟨hf, hs⟩ := hv
      injection h with h; subst h
      refine ⟨by simp, by simp [D.cl], fun H T => ?_⟩
      have pr : φright [s] = some (.bool (rightB s)) := by simp only [φright]; rw [if_pos hs]
      have pt : ∀ who name : List UInt8, who.length ≤ 2 ^ 47 → name.length ≤ 2 ^ 47 → φtyp 1 [fs, attrE who name] = some (tupI (atyp (elems fs) who name)) := fun who name h1 h2 => by
        simp only [φtyp]; rw [if_pos ⟨hf, attr_isE h1 h2⟩, att_typI]; rfl
      have pu : ∀ (k i : Int) (s : List UInt8) (n : Bool) (l : List D), isVr (mkV k i s n l) → φtyp 1 [.nils, mkE sVal k i s n l [] [] true []] = some (tupI (vtyp (mkV k i s n l))) := fun k i s n l hv => by
        simp only [φtyp]
        rw [if_pos ⟨isLs_nils _, ⟨sVal, k, i, s, n, l, [], [], true, [], rfl, by decide, by simp, by simp, hv, by simp, by simp⟩⟩]
        exact congrArg (fun x => some (tupI x)) (val_typI _ k i s n l)
      have ef : fs.erase = fs := by
        obtain ⟨n, xs, rfl, _, hx⟩ := hf
        rw [erase_sliceD, eraseL_id fun x h => isF_erase (hx x h)]
      obtain ⟨now, R, A, rfl, n1, n2, hR, hA⟩ := hs
      have eR := isLs_erase (fun _ => isTx_erase) hR
      have eA := isLs_erase (fun _ => isH_erase) hA
      obtain ⟨nb, l, rfl, hl, hH⟩ := hA
      simp only [fitsP, sA_mk, elems_sliceD]
      obtain ⟨rb, hq⟩ : ∃ z, rightB (mkS now R (sliceD nb l)) = z := ⟨_, rfl⟩
      simp only [hq] at pr ⊢
      clear hq
      simp only [mkS] at pr
      simp +contextual (maxSteps := 10000000) only [c99, mkS, eR, eA, ef, go_sem, W_draw]
      refine W_for (fun j s' => s'.t 0 = fs ∧ s'.t 3 = .ptr H.length 0 ∧ s'.t 13 = sliceD nb l ∧ s'.t 14 = .int .i64 l.length ∧ s'.t 15 = .int .i64 j ∧ Ext (H ++ [.row [.int .i64 now, R, sliceD nb l]]) s'.H ∧ s'.T = T ∧ j ≤ l.length ∧ (l.take j).all (fitHP (elems fs)) = true) l.length ⟨0, by simp [upd, argT, ext_self]⟩ (fun i s h => h.2.2.2.2.2.2.2.1) ?_ (XL_mono _)
      rintro j ⟨t, B, T'⟩ ⟨r0, r3, r13, r14, r15, hE, rfl, hj, hc⟩
      simp only at r0 r3 r13 r14 r15 hE
      have b1 := hE.get (o := H.length) (by simp; rfl)
      by_cases ha : j < l.length
      · have d1 : decide ((j : Int) < l.length) = true := by simpa using ha
        have hx := hH _ (List.getElem_mem ha)
        have ex : l[j]? = some l[j] := by simp [ha]
        have nx := fun hp => all_nx (p := fitHP (elems fs)) ex hc hp
        have no := fun hp => all_no (p := fitHP (elems fs)) ex hp
        obtain ⟨who, name, k, i, s, nl, l', e, w1, w2, hv⟩ := hx
        rw [e] at ex nx no
        have G : fitHP (elems fs) (mkH who name k i s nl l') = fitP (atyp (elems fs) who name).1 (atyp (elems fs) who name).2 (vtyp (mkV k i s nl l')).1 (vtyp (mkV k i s nl l')).2 (mkV k i s nl l') := rfl
        rw [G] at nx no
        have pt := pt who name w1 w2
        have pu := pu k i s nl l' hv
        obtain ⟨⟨ty, f⟩, hq⟩ : ∃ z, atyp (elems fs) who name = z := ⟨_, rfl⟩
        obtain ⟨⟨ky, g⟩, hq2⟩ : ∃ z, vtyp (mkV k i s nl l') = z := ⟨_, rfl⟩
        simp only [hq] at pt nx no
        simp only [hq2] at pu nx no
        clear hq hq2 G
        have eL := (mkV_erase hv.1).1
        simp only [attrE, mkE, tupI, sAttr, sliceD, List.isEmpty_nil, Bool.and_self, if_true] at pt
        simp only [mkE, tupI, sVal, sliceD, List.isEmpty_nil, Bool.and_self, if_true] at pu
        have pu' : φtyp 1 [.nils, .agg [.str [118, 97, 108, 117, 101], .int .i64 k, .int .i64 i, .str s, sliceD nl l', .str [], .str [], .nils]] = some (.tup [.int .i64 ky, .int .i64 g]) := pu
        simp only [mkH] at ex
        simp only [fitP, vk_mk, vl_mk] at nx no
        obtain ⟨f0, hf0⟩ : ∃ b, (f != 0) = b := ⟨_, rfl⟩
        obtain ⟨k5, hk5⟩ : ∃ b, (k == 5) = b := ⟨_, rfl⟩
        obtain ⟨l0, hl0⟩ : ∃ b, ((l'.length : Int) == 0) = b := ⟨_, rfl⟩
        obtain ⟨t0, ht0⟩ : ∃ b, decide (10 < ty) = b := ⟨_, rfl⟩
        obtain ⟨g0, hg0⟩ : ∃ b, (g != 0) = b := ⟨_, rfl⟩
        obtain ⟨kt, hkt⟩ : ∃ b, (ky != ty) = b := ⟨_, rfl⟩
        simp only [hf0, hk5, hl0, ht0, hg0, hkt] at nx no
        have ht0' : decide (ty > 10) = t0 := ht0
        cases f0 <;> cases k5 <;> cases l0 <;> cases t0 <;> cases g0 <;> cases kt <;> simp only [Bool.not_true, Bool.not_false, Bool.and_true, Bool.and_false, Bool.or_true, Bool.or_false, Bool.true_and, Bool.false_and, Bool.true_or, Bool.false_or, Bool.and_self, Bool.or_self, Bool.true_eq_false, Bool.false_eq_true, false_implies, true_implies] at nx no <;>
          simp +contextual (maxSteps := 10000000) only [r0, r3, r13, r14, r15, d1, ex, eL, ef, pt, pu', hf0, hk5, hl0, ht0, ht0', hg0, hkt, rdAt_E b1, rdAt_Ea b1, hE.ta, leaves_E hE.pre (ExtT.refl _), leaves_Ea hE.pre (ExtT.refl _), wrap_succ j (by omega), go_sem, W_draw] <;>
          first | (rw [no]; done) | (rw [no]; rfl) | exact ⟨by omega, nx⟩ | (simp [no]; done)
      · have d1 : decide ((j : Int) < l.length) = false := by simpa using ha
        have hA : l.all (fitHP (elems fs)) = true := by
          have : j = l.length := by omega
          subst this; rw [List.take_length] at hc; exact hc
        simp +contextual (maxSteps := 10000000) only [r0, r3, r13, r14, r15, d1, hA, pr, eR, eA, rdAt_E b1, leaves_E hE.pre (ExtT.refl _), go_sem, W_draw]
    · cases h
  · cases h
end GP
namespace GP
open Go Go.Proofs
set_option maxRecDepth 100000
variable [HasG Try.prog]
def row3 : Ob → Option (List UInt8 × List UInt8)
  | .row (.str w :: _ :: .str a :: _) => some (w, a)
  | _ => none
open Classical in
noncomputable def φ98 (H : Hp) : List D → Option D
  | [x, .ptr o 0] => if isF x then match H[o]?.bind row3 with
    | some (w, a) => some (.bool ((fwho x == w) && (fname x == a)))
    | _ => none
    else none
  | _ => none
theorem row3_mono {H H' : Hp} (hl : Hle H H') {o : Nat} {p : List UInt8 × List UInt8} (h : H[o]?.bind row3 = some p) : H'[o]?.bind row3 = some p := by
  cases ho : H[o]? with
  | none => rw [ho] at h; cases h
  | some x =>
    rw [ho] at h
    simp only [Option.bind_some] at h
    have hb : x.blank = false := by
      unfold row3 at h
      split at h
      · rfl
      · cases h
    rw [hl o x ho hb]; exact h
theorem φ98_mono : Mo φ98 := by
  intro H H' a r hl h
  unfold φ98 at h ⊢
  split at h
  · split at h
    · rename_i hx
      rw [if_pos hx]
      split at h
      · rename_i h1
        rw [row3_mono hl h1]; exact h
      · cases h
    · cases h
  · cases h
theorem isF_El' {d : D} (h : isF d) : El true 4 d := by
  obtain ⟨who, name, kind, bag, rfl, _⟩ := h
  exact El.agg rfl rfl rfl
theorem row3_row {H : Hp} {o : Nat} {w a : List UInt8} (h1 : H[o]?.bind row3 = some (w, a)) : ∃ q tl, H[o]? = some (.row (.str w :: q :: .str a :: tl)) := by
  cases ho : H[o]? with
  | none => rw [ho] at h1; cases h1
  | some x =>
    rw [ho] at h1
    simp only [Option.bind_some] at h1
    unfold row3 at h1
    split at h1
    · injection h1 with h1; injection h1 with e1 e2; subst e1; subst e2; exact ⟨_, _, rfl⟩
    · cases h1
theorem rdAt_in {B L : Hp} {o : Nat} {cs : List D} (h : B[o]? = some (.row cs)) (off : Nat) : rdAt (B ++ L) (.ptr o off) = some (cs.drop off) := by
  have : o < B.length := by
    rcases Nat.lt_or_ge o B.length with h' | h'
    · exact h'
    · rw [List.getElem?_eq_none h'] at h; cases h
  simp only [rdAt]
  rw [List.getElem?_append_left this, h]
theorem ok98 : OkAtH Try.prog 98 φ98 := by
  refine okH_of (l := []) (m := []) .nil .nil fn98 fun H args r h => ?_
  unfold φ98 at h
  split at h
  · rename_i x o
    split at h
    · rename_i hx
      split at h
      · rename_i w a h1
        injection h with h; subst h
        refine ⟨by simp, by simp [D.cl], fun T => ?_⟩
        obtain ⟨who, name, kind, bag, rfl, _⟩ := hx
        obtain ⟨q, tl, hr⟩ := row3_row h1
        simp only [fwho, fname, mkF]
        simp +contextual (maxSteps := 10000000) only [c98, rdAt_in hr, go_sem, W_draw]
        (all_goals ((repeat' (first | apply And.intro | intro _)) <;> (first | rfl | omega | (simp_all; done) | grind)))
      · cases h
    · cases h
  · cases h
theorem ok128 : OkAtH Try.prog 128 (φidx 98 φ98 isF) := okIdx (ag := true) (sz := 4) fn128 ok98 φ98_mono fun _ => isF_El'
theorem ok97 : OkAtH Try.prog 97 (φcf 98 φ98 isF) := okCf (M := 128) fn97 (fun _ => isF_erase) ok128 φ98_mono
def hadD (d : D) : D := match rV d with
  | .agg l => .agg (.str (rwho d) :: .str (rattr d) :: l)
  | _ => .top
def hasF (fs : List D) (d : D) : Bool := fs.any fun f => (fwho f == rwho d) && (fname f == rattr d)
def scD (d : D) : D := mkS 0 .nils (.sl none [hadD d])
def fitI (fs : List D) (d : D) : Int := if hasF fs d then (if fitsP fs (scD d) then 0 else 6) else 8
def fitR (fs : List D) (d : D) : Int := if hasF fs d then (if fitsB fs (scD d) then 0 else 6) else 8
theorem scD_isS {d : D} (h : isRw d) : isS (scD d) := by
  obtain ⟨r, rfl, h⟩ := h
  refine ⟨0, .nils, .sl none [hadD (rwD r)], rfl, by decide, by decide, isLs_nils _, false, _, rfl, by simp, fun x hx => ?_⟩
  rw [List.mem_singleton] at hx
  subst hx
  exact ⟨r.who, r.attr, r.k, r.i, r.s, r.n, r.l, rfl, h.who, h.attr, h.v⟩
open Classical in
noncomputable def φ59 : List D → Option D
  | [fs, d] => if isLs isF fs ∧ isRw d then some (.int .i64 (fitI (elems fs) d)) else none
  | _ => none
open Classical in
noncomputable def φ29 : List D → Option D
  | [fs, d] => if isLs isF fs ∧ isRw d then some (.int .i64 (fitR (elems fs) d)) else none
  | _ => none
set_option maxHeartbeats 2000000 in
theorem ok59 : OkAt Try.prog 59 φ59 := by
  have hM : MonoH [(97, φcf 98 φ98 isF)] := .cons (φcf_mono φ98_mono _) .nil
  refine OkAtH.low (okH_of (l := [(99, φfitsP)]) (m := [(97, φcf 98 φ98 isF)]) (.cons ok99 .nil) (.cons ok97 .nil) fn59 fun H args r h => ?_)
  unfold φ59 at h
  split at h
  · rename_i fs d
    split at h
    · rename_i hv
      obtain ⟨hf, hr⟩ := hv
      injection h with h; subst h
      have hs := scD_isS hr
      obtain ⟨r, rfl, hr⟩ := hr
      refine ⟨by simp, by simp [D.cl], fun T => ?_⟩
      have eL := hr.eL
      have ef : fs.erase = fs := by
        obtain ⟨n, xs, rfl, _, hx⟩ := hf
        rw [erase_sliceD, eraseL_id fun x h => isF_erase (hx x h)]
      have pc : ∀ L, φcf 98 φ98 isF (H ++ .row [.str r.who, .str r.name, .str r.attr, .int .i64 r.k, .int .i64 r.i, .str r.s, sliceD r.n r.l] :: L) [fs, .fn 98 [] [.ptr H.length 0]] = some (.bool (hasF (elems fs) (rwD r))) := fun L => by
        have hg : (H ++ .row [.str r.who, .str r.name, .str r.attr, .int .i64 r.k, .int .i64 r.i, .str r.s, sliceD r.n r.l] :: L)[H.length]?.bind row3 = some (r.who, r.attr) := by simp [row3]
        obtain ⟨n, xs, rfl, hl, hx⟩ := hf
        simp only [φcf, elems_sliceD]
        rw [if_pos ⟨rfl, ⟨n, xs, rfl, hl, hx⟩, rfl, fun x hxx => ⟨(fwho x == r.who) && (fname x == r.attr), by rw [elems_sliceD] at hxx; simp only [φ98]; rw [if_pos (hx x hxx), hg]⟩⟩]
        congr 2
        unfold hasF
        rw [Bool.eq_iff_iff, List.any_eq_true, List.any_eq_true]
        constructor
        · rintro ⟨x, hxx, h5⟩
          refine ⟨x, hxx, ?_⟩
          simp only [φ98] at h5; rw [if_pos (hx x hxx), hg] at h5; exact h5
        · rintro ⟨x, hxx, h5⟩
          refine ⟨x, hxx, ?_⟩
          simp only [φ98]; rw [if_pos (hx x hxx), hg]; exact h5
      have pf : φfitsP [fs, scD (rwD r)] = some (.bool (fitsP (elems fs) (scD (rwD r)))) := by simp only [φfitsP]; rw [if_pos ⟨hf, hs⟩]
      have pf' : φfitsP [fs, .agg [.int .i64 0, .nils, .sl none [.agg [.str r.who, .str r.attr, .int .i64 r.k, .int .i64 r.i, .str r.s, sliceD r.n r.l]]]] = some (.bool (fitsP (elems fs) (scD (rwD r)))) := pf
      simp only [fitI]
      rcases tf (hasF (elems fs) (rwD r)) with c1 | c1
      · rcases tf (fitsP (elems fs) (scD (rwD r))) with c2 | c2
        · rw [if_pos c1, if_pos c2]
          rw [c1] at pc
          rw [c2] at pf'
          simp +contextual (maxSteps := 10000000) only [c59, rwD, eL, ef, pc, pf', pcallH hM, lookH_cons, lookH_nil, orK_n, orK_s, go_sem, W_draw]
        · rw [if_pos c1, c2, if_neg (by decide)]
          rw [c1] at pc
          rw [c2] at pf'
          simp +contextual (maxSteps := 10000000) only [c59, rwD, eL, ef, pc, pf', pcallH hM, lookH_cons, lookH_nil, orK_n, orK_s, go_sem, W_draw]
      · rw [c1, if_neg (by decide)]
        rw [c1] at pc
        simp +contextual (maxSteps := 10000000) only [c59, rwD, eL, ef, pc, pf', pcallH hM, lookH_cons, lookH_nil, orK_n, orK_s, go_sem, W_draw]
    · cases h
  · cases h
end GP
namespace GP
open Go Go.Proofs
set_option maxRecDepth 100000
variable [HasG Try.prog]
theorem any_take_succ {p : D → Bool} {xs : List D} {j : Nat} {x : D} (hx : xs[j]? = some x) : (xs.take (j + 1)).any p = ((xs.take j).any p || p x) := by
  rw [List.take_add_one, hx]; simp
def factIs (w a : List UInt8) (f : D) : Bool := (fwho f == w) && (fname f == a)
set_option maxHeartbeats 2000000 in
theorem ok29 : OkAt Try.prog 29 φ29 := by
  refine ok_of (l := [(66, φfits)]) (.cons ok66 .nil) fn29 fun args r h => ?_
  unfold φ29 at h
  split at h
  · rename_i fs d
    split at h
    · rename_i hv
      obtain ⟨hf, hr⟩ := hv
      injection h with h; subst h
      have hs := scD_isS hr
      obtain ⟨r, rfl, hr⟩ := hr
      refine ⟨by simp, by simp [D.cl], fun H T => ?_⟩
      have eL := hr.eL
      have ef : fs.erase = fs := by
        obtain ⟨n, xs, rfl, _, hx⟩ := hf
        rw [erase_sliceD, eraseL_id fun x h => isF_erase (hx x h)]
      have pf : φfits [fs, scD (rwD r)] = some (.bool (fitsB (elems fs) (scD (rwD r)))) := by simp only [φfits]; rw [if_pos ⟨hf, hs⟩]
      have pf' : φfits [fs, .agg [.int .i64 0, .nils, .sl none [.agg [.str r.who, .str r.attr, .int .i64 r.k, .int .i64 r.i, .str r.s, sliceD r.n r.l]]]] = some (.bool (fitsB (elems fs) (scD (rwD r)))) := pf
      obtain ⟨n, xs, rfl, hl, hx⟩ := hf
      simp only [fitR, elems_sliceD] at pf' ⊢
      have hH : hasF xs (rwD r) = xs.any (factIs r.who r.attr) := rfl
      obtain ⟨fb, hfb⟩ : ∃ b, fitsB xs (scD (rwD r)) = b := ⟨_, rfl⟩
      rw [hH, hfb]
      rw [hfb] at pf'
      simp +contextual (maxSteps := 10000000) only [c29, rwD, eL, go_sem, W_draw]
      refine W_for (fun j s' => s'.t 0 = sliceD n xs ∧ s'.t 3 = .ptr H.length 0 ∧ s'.t 5 = .bool ((xs.take j).any (factIs r.who r.attr)) ∧ s'.t 6 = .int .i64 j ∧ s'.H = H ++ [.row [.str r.who, .str r.name, .str r.attr, .int .i64 r.k, .int .i64 r.i, .str r.s, sliceD r.n r.l]] ∧ s'.T = T ∧ j ≤ xs.length) xs.length
        ⟨0, by simp [upd, argT], by simp [upd], by simp [upd], by simp [upd], rfl, rfl, by omega⟩ (fun i s h => h.2.2.2.2.2.2) ?_ (XL_mono _)
      rintro j ⟨t, B, T'⟩ ⟨r0, r3, r5, r6, rfl, rfl, hj⟩
      simp only at r0 r3 r5 r6
      by_cases ha : j < xs.length
      · have d1 : decide ((j : Int) < xs.length) = true := by simpa using ha
        obtain ⟨w3, n3, k3, b3, e3, _, _⟩ := isF_get hx ha
        have sx := any_take_succ (p := factIs r.who r.attr) e3
        have hp : factIs r.who r.attr (mkF w3 n3 k3 b3) = ((w3 == r.who) && (n3 == r.attr)) := rfl
        rw [hp] at sx
        simp only [mkF] at e3
        rcases tf ((xs.take j).any (factIs r.who r.attr)) with c1 | c1
        · rw [c1] at r5 sx
          simp +contextual (maxSteps := 10000000) only [r0, r3, r5, r6, d1, e3, wrap_succ j (by omega), go_sem, W_draw]
          exact ⟨by rw [sx]; rfl, by omega⟩
        · rw [c1] at r5 sx
          rcases tf (w3 == r.who) with c2 | c2
          · rw [c2] at sx
            simp +contextual (maxSteps := 10000000) only [r0, r3, r5, r6, d1, e3, c2, wrap_succ j (by omega), go_sem, W_draw]
            exact ⟨by rw [sx]; simp, by omega⟩
          · rw [c2] at sx
            simp +contextual (maxSteps := 10000000) only [r0, r3, r5, r6, d1, e3, c2, wrap_succ j (by omega), go_sem, W_draw]
            exact ⟨by rw [sx]; rfl, by omega⟩
      · have d1 : decide ((j : Int) < xs.length) = false := by simpa using ha
        have hjl : xs.take j = xs := List.take_of_length_le (by omega)
        rw [hjl] at r5
        rcases tf (xs.any (factIs r.who r.attr)) with c1 | c1
        · rw [c1] at r5
          rw [if_pos c1]
          cases fb with
          | true => simp +contextual (maxSteps := 10000000) only [r0, r3, r5, r6, d1, rwD, eL, ef, pf', go_sem, W_draw]
          | false => simp +contextual (maxSteps := 10000000) only [r0, r3, r5, r6, d1, rwD, eL, ef, pf', go_sem, W_draw]
        · rw [c1, if_neg (by decide)]
          rw [c1] at r5
          simp +contextual (maxSteps := 10000000) only [r0, r3, r5, r6, d1, rwD, eL, ef, pf', go_sem, W_draw]
    · cases h
  · cases h
def kindsOk (fs : List D) : Prop := ∀ f ∈ fs, 1 ≤ fkind f ∧ fkind f ≤ 4
theorem atyp_attR {fs : List D} (hk : kindsOk fs) (w n : List UInt8) : atyp fs w n = attR fs w n ∧ ((attR fs w n).2 = 0 → (1 ≤ (attR fs w n).1 ∧ (attR fs w n).1 ≤ 4) ∨ (11 ≤ (attR fs w n).1 ∧ (attR fs w n).1 ≤ 14)) := by
  unfold atyp attR factI
  have : (fun f => (fwho f == w) && (fname f == n)) = isOf w n := rfl
  rw [this]
  cases hf : fs.find? (isOf w n) with
  | none => exact ⟨rfl, fun h => by cases h⟩
  | some f =>
    obtain ⟨h1, h2⟩ := hk f (List.mem_of_find?_eq_some hf)
    have hT : ∃ T : Int, (if fbag f then IntKind.i64.wrap (10 + fkind f) else fkind f) = T ∧ tF f = T ∧ ((1 ≤ T ∧ T ≤ 4) ∨ (11 ≤ T ∧ T ≤ 14)) := by
      unfold tF
      by_cases hb : fbag f = true
      · rw [if_pos hb, if_pos hb, wrap_inY (a := 10 + fkind f) (by omega) (by omega), wrap_inY (a := fkind f + 10) (by omega) (by omega)]
        exact ⟨_, rfl, by omega, .inr (by omega)⟩
      · rw [if_neg hb, if_neg hb]
        exact ⟨_, rfl, rfl, .inl (by omega)⟩
    obtain ⟨T, e1, e2, hr⟩ := hT
    simp only [e1, e2]
    have e3 : (T == 0) = false := by rw [beq_eq_false_iff_ne]; omega
    rw [e3]
    exact ⟨by simp, fun _ => by simpa using hr⟩
theorem fit_one {t f : Int} {v : D} (hf : formedB v = true) (h0 : vk v ≠ 0) (ht : f = 0 → (1 ≤ t ∧ t ≤ 4) ∨ (11 ≤ t ∧ t ≤ 14)) : fitP t f (vtyp v).1 (vtyp v).2 v = ((f == 0) && sitB v t) := by
  unfold fitP
  by_cases h : f = 0
  · subst h
    have ht := ht rfl
    have e0 : ((0 : Int) != 0) = false := rfl
    have e0' : ((0 : Int) == 0) = true := rfl
    rw [e0, e0', Bool.false_or, Bool.true_and]
    have l0 : (vk v == 0) = false := by rw [beq_eq_false_iff_ne]; exact h0
    unfold sitB kv vtyp litI
    rw [hf, l0]
    by_cases h5 : vk v = 5
    · rw [h5]
      by_cases hz : 0 < (vl v).length
      · have := kind0_of hf h5 hz
        have z1 : (((vl v).length : Int) == 0) = false := by rw [beq_eq_false_iff_ne]; omega
        have z2 : decide ((0 : Int) < (vl v).length) = true := by simp; omega
        rw [z1, z2, wrap_inY (a := 10 + vk0 (vl v)) (by omega) (by omega)]
        obtain ⟨q, hq⟩ : ∃ q, 10 + vk0 (vl v) = q := ⟨_, rfl⟩
        rw [hq]
        have q0 : (q != 0) = true := by simp [bne]; omega
        have q5 : (q == 5) = false := by rw [beq_eq_false_iff_ne]; omega
        have q0' : q ≠ 0 := by omega
        simp [q0, q5, q0', bne]
      · have z1 : (((vl v).length : Int) == 0) = true := by rw [beq_iff_eq]; omega
        have z2 : decide ((0 : Int) < (vl v).length) = false := decide_eq_false (by omega)
        have t5 : ((5 : Int) == t) = false := by rw [beq_eq_false_iff_ne]; rcases ht with h | h <;> omega
        rw [z1, z2]
        simp [t5]
    · have k5 : (vk v == 5) = false := by rw [beq_eq_false_iff_ne]; exact h5
      have q0 : (vk v != 0) = true := by simp [bne, l0]
      rw [k5]
      simp [q0, l0, k5, bne]
      try (intro h; exact absurd h h0)
  · have e0 : (f != 0) = true := by simpa [bne] using h
    have e0' : (f == 0) = false := by rw [beq_eq_false_iff_ne]; exact h
    rw [e0, e0']; rfl
theorem fit_same {fs : List D} (hk : kindsOk fs) {d : D} (hr : isRw d) (hf : formedB (rV d) = true) (h0 : vk (rV d) ≠ 0) : fitI fs d = fitR fs d := by
  obtain ⟨r, rfl, hr⟩ := hr
  unfold fitI fitR
  have e : fitsP fs (scD (rwD r)) = fitsB fs (scD (rwD r)) := by
    have hg : goodH (hadD (rwD r)) = true := by
      have : hV (hadD (rwD r)) = rV (rwD r) := rfl
      unfold goodH
      rw [this, hf]
      simpa [bne] using h0
    have hR : rightB (scD (rwD r)) = true := by
      unfold rightB scD
      simp only [sA_mk, sNw_mk]
      simp [elems, hg]
    unfold fitsP fitsB
    rw [hR, Bool.and_true, Bool.true_and]
    have hs : sA (scD (rwD r)) = [hadD (rwD r)] := rfl
    rw [hs]
    simp only [List.all_cons, List.all_nil, Bool.and_true]
    unfold fitHP fitH
    obtain ⟨q1, q2⟩ := atyp_attR hk (fwho (hadD (rwD r))) (fname (hadD (rwD r)))
    rw [q1]
    exact fit_one hf h0 q2
  rw [e]
end GP
namespace GP
open Go Go.Proofs
set_option maxRecDepth 100000
variable [HasG Try.prog]
theorem isRw_El {d : D} (h : isRw d) : El true 7 d := by
  have he := isRw_erase h
  obtain ⟨r, rfl, _⟩ := h
  refine El.agg he ?_ ?_
  · simp [rwD, D.cells]
  · simp [rwD, D.cells]
def ordD (a b : D) : Int := or3 (cmpS (rwho a) (rwho b)) (cmpS (rname a) (rname b)) (cmpS (rattr a) (rattr b))
def keyB (a b : D) : Bool := (rwho a == rwho b) && (rname a == rname b) && (rattr a == rattr b)
open Classical in
noncomputable def φ61 : List D → Option D
  | [a, b] => if isRw a ∧ isRw b then some (.int .i64 (ordD a b)) else none
  | _ => none
theorem ok61 : OkAt Try.prog 61 φ61 := by
  refine ok_of (l := [(101, φcmp), (100, φOr)]) (.cons ok101 (.cons ok100 .nil)) fn61 fun args r h => ?_
  unfold φ61 at h
  split at h
  · rename_i a b
    split at h
    · rename_i hv
      obtain ⟨⟨r, rfl, hr⟩, ⟨q, rfl, hq⟩⟩ := hv
      injection h with h; subst h
      refine ⟨by simp, by simp [D.cl], fun H T => ?_⟩
      have e1 := hr.eL
      have e2 := hq.eL
      simp only [ordD, rwho_mk, rname_mk, rattr_mk]
      simp +contextual (maxSteps := 10000000) only [c61, rwD, e1, e2, φcmp, φOr, go_sem, W_draw]
    · cases h
  · cases h
open Classical in
noncomputable def φ63 : List D → Option D
  | [.agg [fs, rows], d] => if isLs isF fs ∧ isLs isRw rows ∧ isRw d then some (.int .i64 (idxP (fun x => keyB x d) (elems rows))) else none
  | _ => none
theorem isF_lc {fs : D} (h : isLs isF fs) : fs.erase = fs ∧ fs.okc = true ∧ fs.cells = [fs] := by
  obtain ⟨n, xs, rfl, _, hx⟩ := h
  refine ⟨by rw [erase_sliceD, eraseL_id fun x h => isF_erase (hx x h)], ?_, ?_⟩
  · rcases sliceD_cases n xs with ⟨e, _⟩ | e <;> rw [e] <;> rfl
  · rcases sliceD_cases n xs with ⟨e, _⟩ | e <;> rw [e] <;> rfl
set_option maxHeartbeats 2000000 in
theorem ok63 : OkAt Try.prog 63 φ63 := by
  refine ok_of (l := []) .nil fn63 fun args r h => ?_
  unfold φ63 at h
  split at h
  · rename_i fs rows d
    split at h
    · rename_i hv
      obtain ⟨hf, ⟨n, xs, rfl, hl, hx⟩, ⟨r, rfl, hr⟩⟩ := hv
      injection h with h; subst h
      refine ⟨by simp, by simp [D.cl], fun H T => ?_⟩
      obtain ⟨ef, of, cf⟩ := isF_lc hf
      have eL := hr.eL
      have ex : D.eraseL xs = xs := eraseL_id fun x h => isRw_erase (hx x h)
      rw [elems_sliceD]
      obtain ⟨d, hd⟩ : ∃ d, rwD r = d := ⟨_, rfl⟩
      have hd1 : rwho d = r.who := by rw [← hd]; rfl
      have hd2 : rname d = r.name := by rw [← hd]; rfl
      have hd3 : rattr d = r.attr := by rw [← hd]; rfl
      have hk : ∀ q : Rw, keyB (rwD q) d = ((q.who == r.who) && (q.name == r.name) && (q.attr == r.attr)) := fun q => by unfold keyB; rw [hd1, hd2, hd3]; rfl
      have hd' := hd
      simp only [rwD] at hd'
      rw [hd]
      simp only [← hd']
      simp +contextual (maxSteps := 10000000) only [c63, eL, ef, of, cf, ex, go_sem, W_draw]
      rw [hd']
      refine W_for (fun j s' => s'.t 2 = .ptr H.length 0 ∧ s'.t 3 = .ptr (H.length + 1) 0 ∧ s'.t 5 = .int .i64 (j : Nat) ∧ s'.H = H ++ [.row [fs, sliceD n xs], .row [.str r.who, .str r.name, .str r.attr, .int .i64 r.k, .int .i64 r.i, .str r.s, sliceD r.n r.l]] ∧ s'.T = T ∧ j ≤ xs.length ∧ ∀ (i : Nat) x, i < j → xs[i]? = some x → keyB x d = false) xs.length
        ⟨0, by simp [upd], by simp [upd], by simp [upd], rfl, rfl, by omega, fun i x h => by omega⟩ (fun i s h => h.2.2.2.2.2.1) ?_ (XL_mono _)
      rintro j ⟨t, B, T'⟩ ⟨r2, r3, r5, rfl, rfl, hj, hF⟩
      simp only at r2 r3 r5
      have g0 : rdAt (H ++ [.row [fs, sliceD n xs], .row [.str r.who, .str r.name, .str r.attr, .int .i64 r.k, .int .i64 r.i, .str r.s, sliceD r.n r.l]]) (.ptr H.length 1) = some [sliceD n xs] := by simp [rdAt]
      by_cases ha : j < xs.length
      · have d1 : decide ((j : Int) < xs.length) = true := by simpa using ha
        obtain ⟨q, hq, _⟩ := hx _ (List.getElem_mem ha)
        have e : xs[j]? = some (rwD q) := by rw [← hq]; simp [ha]
        have nk := hk q
        have hF' : keyB (rwD q) d = false → ∀ (i : Nat) x, i < j + 1 → xs[i]? = some x → keyB x d = false := fun g i x hi hxi => by
          rcases Nat.lt_or_ge i j with h' | h'
          · exact hF i x h' hxi
          · have : i = j := by omega
            subst this; rw [e] at hxi; injection hxi with hxi; rw [← hxi]; exact g
        have fin : keyB (rwD q) d = true → idxP (fun x => keyB x d) xs = j := fun g => by
          unfold idxP
          rw [findIdx_at e g fun i y hi hy => hF i y hi hy]
        rw [nk] at hF' fin
        have e' := e
        simp only [rwD] at e'
        rcases tf (q.who == r.who) with c1 | c1
        · rcases tf (q.name == r.name) with c2 | c2
          · rcases tf (q.attr == r.attr) with c3 | c3
            · simp +contextual (maxSteps := 10000000) only [r2, r3, r5, d1, e', g0, c1, c2, c3, go_sem, W_draw]
              rw [fin (by rw [c1, c2, c3]; rfl)]
            · simp +contextual (maxSteps := 10000000) only [r2, r3, r5, d1, e', g0, c1, c2, c3, wrap_succ j (by omega), go_sem, W_draw]
              exact ⟨by omega, hF' (by rw [c1, c2, c3]; rfl)⟩
          · simp +contextual (maxSteps := 10000000) only [r2, r3, r5, d1, e', g0, c1, c2, wrap_succ j (by omega), go_sem, W_draw]
            exact ⟨by omega, hF' (by rw [c1, c2]; rfl)⟩
        · simp +contextual (maxSteps := 10000000) only [r2, r3, r5, d1, e', g0, c1, wrap_succ j (by omega), go_sem, W_draw]
          exact ⟨by omega, hF' (by rw [c1]; rfl)⟩
      · have d1 : decide ((j : Int) < xs.length) = false := by simpa using ha
        have : idxP (fun x => keyB x d) xs = -1 := by
          unfold idxP
          rw [findIdx_no fun i y hy => hF i y (by
            rcases Nat.lt_or_ge i xs.length with h' | h'
            · omega
            · rw [List.getElem?_eq_none h'] at hy; cases hy) hy]
        simp +contextual (maxSteps := 10000000) only [r2, r3, r5, d1, g0, this, go_sem, W_draw]
    · cases h
  · cases h
end GP
