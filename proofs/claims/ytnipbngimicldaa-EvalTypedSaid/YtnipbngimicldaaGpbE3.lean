import Derived.Test.YtnipbngimicldaaGpbE1
import Derived.Test.YtnipbngimicldaaGpbV4
import Derived.Test.YtnipbngimicldaaGpbV7
import Derived.Test.YtnipbngimicldaaGpYe
set_option linter.unusedSimpArgs false
namespace GP
open Go Go.Proofs
set_option maxRecDepth 100000

/-! ### Scenes -/
def mkH (who name : List UInt8) (k i : Int) (s : List UInt8) (nl : Bool) (l : List D) : D := .agg [.str who, .str name, .int .i64 k, .int .i64 i, .str s, sliceD nl l]
def isH (d : D) : Prop := ∃ who name k i s nl l, d = mkH who name k i s nl l ∧ who.length ≤ 2 ^ 47 ∧ name.length ≤ 2 ^ 47 ∧ isVr (mkV k i s nl l)
def hV : D → D
  | .agg (_ :: _ :: l) => .agg l
  | _ => .top
theorem hV_mk (who name : List UInt8) (k i : Int) (s : List UInt8) (nl : Bool) (l : List D) : hV (mkH who name k i s nl l) = mkV k i s nl l := rfl
theorem isH_V {d : D} (h : isH d) : isVr (hV d) := by obtain ⟨who, name, k, i, s, nl, l, rfl, _, _, hv⟩ := h; exact hv
theorem isH_erase {d : D} (h : isH d) : d.erase = d := by
  obtain ⟨who, name, k, i, s, nl, l, rfl, _, _, hv⟩ := h
  simp [mkH, D.erase, D.eraseL, erase_sliceD, (mkV_erase hv.1).1]
theorem isH_El {d : D} (h : isH d) : El true 6 d := by
  refine .agg (isH_erase h) ?_ ?_ <;> (obtain ⟨who, name, k, i, s, nl, l, rfl, _, _, hv⟩ := h; rfl)
def mkS (now : Int) (R A : D) : D := .agg [.int .i64 now, R, A]
def isS (d : D) : Prop := ∃ now R A, d = mkS now R A ∧ -(2 ^ 63) ≤ now ∧ now < 2 ^ 63 ∧ isLs isTx R ∧ isLs isH A
def sNw : D → Int
  | .agg (.int _ n :: _) => n
  | _ => 0
def sR : D → List D
  | .agg (_ :: l :: _) => elems l
  | _ => []
def sA : D → List D
  | .agg (_ :: _ :: l :: _) => elems l
  | _ => []
theorem sNw_mk (now : Int) (R A : D) : sNw (mkS now R A) = now := rfl
theorem sR_mk (now : Int) (R A : D) : sR (mkS now R A) = elems R := rfl
theorem sA_mk (now : Int) (R A : D) : sA (mkS now R A) = elems A := rfl
theorem isS_erase {d : D} (h : isS d) : d.erase = d := by
  obtain ⟨now, R, A, rfl, _, _, hR, hA⟩ := h
  simp [mkS, D.erase, D.eraseL, isLs_erase (fun _ => isTx_erase) hR, isLs_erase (fun _ => isH_erase) hA]
theorem isS_cells {d : D} (h : isS d) : d.cells.length = 3 ∧ d.cells.take 3 = d.cells ∧ D.agg d.cells = d ∧ d.okc = true := by
  obtain ⟨now, R, A, rfl, _⟩ := h
  exact ⟨rfl, rfl, rfl, rfl⟩

/-! ### What is had -/
def hadP (who name : List UInt8) (x : D) : Bool := (fwho x == who) && (fname x == name)
def hadV (l : List D) (who name : List UInt8) : Option D := (l.find? (hadP who name)).map hV
def txtAt (H : Hp) (o : Nat) : Option (List UInt8) := match H[o]? with
  | some (.row [.str s]) => some s
  | _ => none
theorem txtAt_mono {H H' : Hp} {o : Nat} {v : List UInt8} (hl : Hle H H') (h : txtAt H o = some v) : txtAt H' o = some v := by
  unfold txtAt at h ⊢
  split at h
  · rename_i cs hcs
    rw [hl o _ hcs rfl]; exact h
  · cases h
theorem txtAt_row {H : Hp} {o : Nat} {v : List UInt8} (h : txtAt H o = some v) : H[o]? = some (.row [.str v]) := by
  unfold txtAt at h
  split at h
  · rename_i cs hcs
    injection h with h; subst h; exact hcs
  · cases h
open Classical in
noncomputable def φhad1 (H : Hp) : List D → Option D
  | [x, .ptr o 0, .ptr o2 0] => if isH x then match txtAt H o, txtAt H o2 with
    | some who, some name => some (.bool (hadP who name x))
    | _, _ => none
    else none
  | _ => none
theorem φhad1_mono : Mo φhad1 := by
  intro H H' a r hl h
  unfold φhad1 at h ⊢
  split at h
  · split at h
    · rename_i hx
      rw [if_pos hx]
      split at h
      · rename_i h1 h2
        rw [txtAt_mono hl h1, txtAt_mono hl h2]; exact h
      · cases h
    · cases h
  · cases h
theorem ok90 : OkAtH Try.prog 90 φhad1 := by
  refine okH_of (l := []) (m := []) .nil .nil fn90 fun H args r h => ?_
  unfold φhad1 at h
  split at h
  · split at h
    · rename_i hx
      split at h
      · rename_i h1 h2
        injection h with h; subst h
        refine ⟨by simp, by simp [D.cl], fun T => ?_⟩
        obtain ⟨who, name, k, i, s, nl, l, rfl, _, _, hv⟩ := hx
        have e1 := txtAt_row h1
        have e2 := txtAt_row h2
        have eL := (mkV_erase hv.1).1
        simp only [hadP]
        simp only [mkH, fwho, fname]
        simp (config := { contextual := true, maxSteps := 10000000 }) only [c90, eL, rdAt_in e1, rdAt_in e2, go_sem, Nat.reduceAdd, Nat.reduceSub, Nat.reduceMul, Nat.reduceEqDiff, Nat.reduceLeDiff, Nat.reduceLT, Int.reduceToNat, Int.reduceLE, Int.reduceLT, Int.reduceEq, Int.reduceNe, Int.reduceBEq, Int.reduceBNe, Nat.reduceBEq, Nat.reduceBNe, ↓reduceIte, reduceCtorEq, ↓reduceDIte, W_draw]
        (all_goals ((repeat' (first | apply And.intro | intro _)) <;> (first | rfl | omega | (simp_all; done) | grind)))
      · cases h
    · cases h
  · cases h
theorem ok89 : OkAtH Try.prog 89 (φidx 90 φhad1 isH) := okIdx fn89 ok90 φhad1_mono fun _ => isH_El
theorem M89 : MonoH [(89, φidx 90 φhad1 isH)] := .cons (φidx_mono φhad1_mono _) .nil
theorem had_idx (l : List D) (p : D → Bool) : (∃ (i : Nat) (x : D), l[i]? = some x ∧ l.find? p = some x ∧ idxP p l = i) ∨ (l.find? p = none ∧ idxP p l = -1) := by
  unfold idxP
  cases h : l.findIdx? p with
  | some i =>
    rw [List.findIdx?_eq_some_iff_getElem] at h
    obtain ⟨h1, h2, h3⟩ := h
    refine .inl ⟨i, l[i], by simp [h1], ?_, rfl⟩
    rw [List.find?_eq_some_iff_getElem]
    exact ⟨h2, i, h1, rfl, fun j hj => by have := h3 j hj; simpa using this⟩
  | none =>
    rw [List.findIdx?_eq_none_iff] at h
    exact .inr ⟨List.find?_eq_none.2 fun x hx => by simp [h x hx], rfl⟩
def hadD (o : Option D) : D := match o with
  | some v => .tup [v, .bool true]
  | none => .tup [zeroV, .bool false]
open Classical in
noncomputable def φhad : List D → Option D
  | [s, .str who, .str name] => if isS s then some (hadD (hadV (sA s) who name)) else none
  | _ => none
theorem isVr_cl {v : D} (h : isVr v) : v.cl 0 0 = true := isV_cl h.1
set_option maxHeartbeats 2000000 in
theorem ok74 : OkAt Try.prog 74 φhad := by
  refine OkAtH.low (okH_of (l := []) (m := [(89, φidx 90 φhad1 isH)]) .nil (.cons ok89 .nil) fn74 fun H args r h => ?_)
  unfold φhad at h
  split at h
  · rename_i s who name
    split at h
    · rename_i hs
      injection h with h; subst h
      obtain ⟨now, R, A, rfl, n1, n2, hR, hA⟩ := hs
      have eR := isLs_erase (fun _ => isTx_erase) hR
      have eA := isLs_erase (fun _ => isH_erase) hA
      obtain ⟨nb, l, rfl, hl, hH⟩ := hA
      simp only [sA_mk, elems_sliceD, hadV]
      have p : ∀ L, φidx 90 φhad1 isH (H ++ .row [.int .i64 now, R, sliceD nb l] :: .row [.str who] :: .row [.str name] :: L) [sliceD nb l, .fn 90 [] [.ptr (H.length + 1) 0, .ptr (H.length + 2) 0]] = some (.int .i64 (idxP (hadP who name) l)) := fun L => by
        have t1 : txtAt (H ++ .row [.int .i64 now, R, sliceD nb l] :: .row [.str who] :: .row [.str name] :: L) (H.length + 1) = some who := by
          simp [txtAt]
        have t2 : txtAt (H ++ .row [.int .i64 now, R, sliceD nb l] :: .row [.str who] :: .row [.str name] :: L) (H.length + 2) = some name := by
          simp [txtAt]
        have q : ∀ x ∈ l, φhad1 (H ++ .row [.int .i64 now, R, sliceD nb l] :: .row [.str who] :: .row [.str name] :: L) [x, .ptr (H.length + 1) 0, .ptr (H.length + 2) 0] = some (.bool (hadP who name x)) := fun x hx => by
          simp only [φhad1, t1, t2]; rw [if_pos (hH x hx)]
        simp only [φidx]
        rw [if_pos ⟨rfl, ⟨nb, l, rfl, hl, hH⟩, rfl, by rw [elems_sliceD]; exact fun x hx => ⟨_, q x hx⟩⟩, elems_sliceD]
        congr 2
        exact idxP_congr fun x hx => by rw [q x hx]; rfl
      rcases had_idx l (hadP who name) with ⟨i, x, e1, e2, e3⟩ | ⟨e2, e3⟩
      · have hx := hH x (List.mem_of_getElem? e1)
        obtain ⟨who', name', k', i', s', nl', l', rfl, _, _, hv⟩ := hx
        have eL := (mkV_erase hv.1).1
        have hc := isVr_cl hv
        rw [e3] at p
        refine ⟨by simp, ?_, fun T => ?_⟩
        · rw [e2, Option.map_some, hV_mk]; simp [hadD, D.cl, D.clL, hc]
        · rw [e2, Option.map_some, hV_mk]
          simp only [mkH] at e1
          have d1 : decide ((i : Int) < 0) = false := by simp
          simp (config := { contextual := true, maxSteps := 10000000 }) only [c74, mkS, eR, eA, p, e1, eL, d1, hadD, mkV, pcallH M89, orK_n, lookH_cons, lookH_nil, go_sem, Nat.reduceAdd, Nat.reduceSub, Nat.reduceMul, Nat.reduceEqDiff, Nat.reduceLeDiff, Nat.reduceLT, Int.reduceToNat, Int.reduceLE, Int.reduceLT, Int.reduceEq, Int.reduceNe, Int.reduceBEq, Int.reduceBNe, Nat.reduceBEq, Nat.reduceBNe, ↓reduceIte, reduceCtorEq, ↓reduceDIte, W_draw]
      · rw [e3] at p
        refine ⟨by simp, ?_, fun T => ?_⟩
        · rw [e2, Option.map_none]; simp [hadD, zeroV, D.cl, D.clL]
        · rw [e2, Option.map_none]
          simp (config := { contextual := true, maxSteps := 10000000 }) only [c74, mkS, eR, eA, p, hadD, zeroV, pcallH M89, orK_n, lookH_cons, lookH_nil, go_sem, Nat.reduceAdd, Nat.reduceSub, Nat.reduceMul, Nat.reduceEqDiff, Nat.reduceLeDiff, Nat.reduceLT, Int.reduceToNat, Int.reduceLE, Int.reduceLT, Int.reduceEq, Int.reduceNe, Int.reduceBEq, Int.reduceBNe, Nat.reduceBEq, Nat.reduceBNe, ↓reduceIte, reduceCtorEq, ↓reduceDIte, W_draw]
    · cases h
  · cases h
theorem ok88s : OkAt Try.prog 88 φidxS := okIdxS fn88
theorem ok73s : OkAt Try.prog 73 φcontS := okContS fn73 ok88s
end GP
