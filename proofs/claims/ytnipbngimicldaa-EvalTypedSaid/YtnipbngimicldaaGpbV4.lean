import Derived.Test.YtnipbngimicldaaGpbV3
import Derived.Test.YtnipbngimicldaaGpYe
set_option linter.unusedSimpArgs false
namespace GP
open Go Go.Proofs
set_option maxRecDepth 100000

/-- A value that the order can look at. -/
def flat (x : D) : Bool := x.isV && (vl x).all leaf

def rowV (H : Hp) (o : Nat) : Option D := match H[o]? with
  | some (.row v) => if flat (.agg v) then some (.agg v) else none
  | _ => none

theorem rowV_elim {H : Hp} {o : Nat} {v : D} (h : rowV H o = some v) : ∃ k i s n l, v = mkV k i s n l ∧ H[o]? = some (.row [.int .i64 k, .int .i64 i, .str s, sliceD n l]) ∧ flat v = true ∧ D.eraseL l = l := by
  unfold rowV at h
  split at h
  · rename_i cs hcs
    split at h
    · rename_i hf
      injection h with h; subst h
      have hv : (D.agg cs).isV = true := by simp only [flat, Bool.and_eq_true] at hf; exact hf.1
      obtain ⟨k, i, s, n, l, e, _, _, hV⟩ := isV_elim hv
      have e' : cs = [.int .i64 k, .int .i64 i, .str s, sliceD n l] := by unfold mkV at e; injection e
      subst e'
      exact ⟨k, i, s, n, l, rfl, hcs, hf, erase_of_isV hV⟩
    · cases h
  · cases h

theorem rowV_mono {H H' : Hp} {o : Nat} {v : D} (hl : Hle H H') (h : rowV H o = some v) : rowV H' o = some v := by
  unfold rowV at h ⊢
  split at h
  · rename_i cs hcs
    rw [hl o _ hcs rfl]; exact h
  · cases h

theorem rdAt_in {B L : Hp} {o : Nat} {cs : List D} (h : B[o]? = some (.row cs)) (off : Nat) : rdAt (B ++ L) (.ptr o off) = some (cs.drop off) := by
  have : o < B.length := by
    rcases Nat.lt_or_ge o B.length with h' | h'
    · exact h'
    · simp [List.getElem?_eq_none h'] at h
  simp [rdAt, List.getElem?_append_left this, h]

def same0 (x v : D) : Bool := ordW ord0 x v == 0

def φIn1 (H : Hp) : List D → Option D
  | [x, .ptr o 0] => match rowV H o with
    | some v => if flat x then some (.bool (same0 x v)) else none
    | none => none
  | _ => none

theorem flat_ord {x y : D} (hx : flat x = true) (hy : flat y = true) : φOrd leaf ord0 [x, y] = some (.int .i64 (ordW ord0 x y)) := by
  simp only [flat, Bool.and_eq_true] at hx hy
  simp [φOrd, hx.1, hx.2, hy.1, hy.2]

theorem ok98 : OkAtH Try.prog 98 φIn1 := by
  refine okH_of (l := [(59, φOrd leaf ord0)]) (m := []) (.cons ok59b .nil) .nil fn98 fun H args r h => ?_
  unfold φIn1 at h
  split at h
  · split at h
    · rename_i x o _ v hv
      split at h
      · rename_i hx
        injection h with h; subst h
        refine ⟨by simp, by simp [D.cl], fun T => ?_⟩
        obtain ⟨k, i, s, n, l, rfl, hrow, hf, r1⟩ := rowV_elim hv
        have p := flat_ord hx hf
        have hxV : x.isV = true := by simp only [flat, Bool.and_eq_true] at hx; exact hx.1
        unfold same0
        generalize ordW ord0 x (mkV k i s n l) = c at p
        obtain ⟨k2, i2, s2, n2, l2, rfl, _, _, hV2⟩ := isV_elim hxV
        have r2 := erase_of_isV hV2
        simp only [mkV] at p
        simp (config := { contextual := true, maxSteps := 10000000 }) only [c98, mkV, rdAt_in hrow, r1, r2, p, pcallH MonoH.nil, orK_s, go_sem, Nat.reduceAdd, Nat.reduceSub, Nat.reduceMul, Nat.reduceEqDiff, Nat.reduceLeDiff, Nat.reduceLT, Int.reduceToNat, Int.reduceLE, Int.reduceLT, Int.reduceEq, Int.reduceNe, Int.reduceBEq, Int.reduceBNe, Nat.reduceBEq, Nat.reduceBNe, ↓reduceIte, reduceCtorEq, ↓reduceDIte, W_draw]
      · cases h
    · cases h
  · cases h

def φIn2 (res : (D → Bool) → List D → D) (H : Hp) : List D → Option D
  | [l, .fn 98 [] [.ptr o 0]] => match rowV H o with
    | some v => if isSl l = true ∧ (elems l).all flat = true ∧ (elems l).length ≤ 2 ^ 47 then some (res (fun x => same0 x v) (elems l)) else none
    | none => none
  | _ => none

theorem monoIn1 : ∀ H H' a r, Hle H H' → φIn1 H a = some r → φIn1 H' a = some r := by
  intro H H' a r hl h
  unfold φIn1 at h ⊢
  split at h
  · rename_i x o
    cases hv : rowV H o with
    | none => rw [hv] at h; cases h
    | some v => rw [hv] at h; rw [rowV_mono hl hv]; exact h
  · cases h

theorem monoIn2 (res : (D → Bool) → List D → D) : ∀ H H' a r, Hle H H' → φIn2 res H a = some r → φIn2 res H' a = some r := by
  intro H H' a r hl h
  unfold φIn2 at h ⊢
  split at h
  · rename_i x o
    cases hv : rowV H o with
    | none => rw [hv] at h; cases h
    | some v => rw [hv] at h; rw [rowV_mono hl hv]; exact h
  · cases h

theorem M41 : MonoH [(98, φIn1)] := .cons monoIn1 .nil

theorem ok104 : OkAtH Try.prog 104 (φIn2 fun p l => .int .i64 (idxP p l)) := by
  refine okH_of (l := []) (m := [(98, φIn1)]) .nil (.cons ok98 .nil) fn104 fun H args r h => ?_
  unfold φIn2 at h
  split at h
  · split at h
    · rename_i l o _ v hv
      split at h
      · rename_i hl
        injection h with h; subst h
        refine ⟨by simp, by simp [D.cl], fun T => ?_⟩
        obtain ⟨g1, g2, g3⟩ := hl
        obtain ⟨b, hb⟩ := isSl_elim g1
        generalize elems l = xs at *
        subst hb
        have hF := List.all_eq_true.1 g2
        have hV : ∀ x ∈ xs, x.isV = true := fun x hx => by
          have := hF x hx
          simp only [flat, Bool.and_eq_true] at this; exact this.1
        simp (config := { contextual := true, maxSteps := 10000000 }) only [c104, go_sem, Nat.reduceAdd, Nat.reduceSub, Nat.reduceMul, Nat.reduceEqDiff, Nat.reduceLeDiff, Nat.reduceLT, Int.reduceToNat, Int.reduceLE, Int.reduceLT, Int.reduceEq, Int.reduceNe, Int.reduceBEq, Int.reduceBNe, Nat.reduceBEq, Nat.reduceBNe, ↓reduceIte, reduceCtorEq, ↓reduceDIte, W_draw]
        refine W_for (fun i s => s.t 0 = sliceD b xs ∧ s.t 1 = .fn 98 [] [.ptr o 0] ∧ s.t 6 = sliceD b xs ∧ s.t 7 = .int .i64 xs.length ∧ s.t 8 = .int .i64 i ∧ s.H = H ∧ s.T = T ∧ i ≤ xs.length ∧ ∀ j x, j < i → xs[j]? = some x → same0 x v = false) xs.length ⟨0, by simp [upd, argT]⟩ (fun i s h => h.2.2.2.2.2.2.2.1) ?_ (XM_mono _ _)
        rintro i ⟨t, H', T'⟩ ⟨h0, h1, h6, h7, h8, rfl, rfl, hi, hc⟩
        simp only at h0 h1 h6 h7 h8
        by_cases ha : i < xs.length
        · have d1 : decide ((i : Int) < xs.length) = true := by simpa using ha
          obtain ⟨k1, i1, s1, n1, l1, e1, _, _, _, r1⟩ := get_isV hV ha
          have p : φIn1 H' [mkV k1 i1 s1 n1 l1, .ptr o 0] = some (.bool (same0 (mkV k1 i1 s1 n1 l1) v)) := by
            have : flat (mkV k1 i1 s1 n1 l1) = true := hF _ (List.mem_of_getElem? e1)
            simp only [φIn1, hv, this, if_true]
          have fin : same0 (mkV k1 i1 s1 n1 l1) v = true → idxP (fun x => same0 x v) xs = i := fun hq => by
            have : xs.findIdx? (fun x => same0 x v) = some i := by
              rw [List.findIdx?_eq_some_iff_getElem]
              refine ⟨ha, ?_, fun j hj => ?_⟩
              · rw [List.getElem?_eq_getElem ha] at e1
                rw [Option.some.inj e1]; exact hq
              · have := hc j xs[j] hj (by simp)
                simp [this]
            simp [idxP, this]
          have nxt : same0 (mkV k1 i1 s1 n1 l1) v = false → ∀ j x, j < i + 1 → xs[j]? = some x → same0 x v = false := fun hq j x hj hx => by
            by_cases hji : j = i
            · subst hji; rw [e1] at hx; rw [← Option.some.inj hx]; exact hq
            · exact hc j x (by omega) hx
          generalize same0 (mkV k1 i1 s1 n1 l1) v = q at p fin nxt
          simp only [mkV] at p
          cases q with
          | true =>
            rw [fin rfl]
            simp (config := { contextual := true, maxSteps := 10000000 }) only [h0, h1, h6, h7, h8, d1, e1, mkV, r1, p, pcallH M41, orK_n, lookH_cons, lookH_nil, go_sem, Nat.reduceAdd, Nat.reduceSub, Nat.reduceMul, Nat.reduceEqDiff, Nat.reduceLeDiff, Nat.reduceLT, Int.reduceToNat, Int.reduceLE, Int.reduceLT, Int.reduceEq, Int.reduceNe, Int.reduceBEq, Int.reduceBNe, Nat.reduceBEq, Nat.reduceBNe, ↓reduceIte, reduceCtorEq, ↓reduceDIte, W_draw]
          | false =>
            have nx := nxt rfl
            simp (config := { contextual := true, maxSteps := 10000000 }) only [h0, h1, h6, h7, h8, d1, e1, mkV, r1, p, pcallH M41, orK_n, lookH_cons, lookH_nil, wrap_succ i (by omega), go_sem, Nat.reduceAdd, Nat.reduceSub, Nat.reduceMul, Nat.reduceEqDiff, Nat.reduceLeDiff, Nat.reduceLT, Int.reduceToNat, Int.reduceLE, Int.reduceLT, Int.reduceEq, Int.reduceNe, Int.reduceBEq, Int.reduceBNe, Nat.reduceBEq, Nat.reduceBNe, ↓reduceIte, reduceCtorEq, ↓reduceDIte, W_draw]
            exact ⟨by omega, nx⟩
        · have d1 : decide ((i : Int) < xs.length) = false := by simpa using ha
          have e : idxP (fun x => same0 x v) xs = -1 := by
            have : xs.findIdx? (fun x => same0 x v) = none := by
              rw [List.findIdx?_eq_none_iff]
              intro x hx
              obtain ⟨j, hj, rfl⟩ := List.getElem_of_mem hx
              exact hc j _ (by omega) (by simp)
            simp [idxP, this]
          rw [e]
          simp (config := { contextual := true, maxSteps := 10000000 }) only [h0, h1, h6, h7, h8, d1, go_sem, Nat.reduceAdd, Nat.reduceSub, Nat.reduceMul, Nat.reduceEqDiff, Nat.reduceLeDiff, Nat.reduceLT, Int.reduceToNat, Int.reduceLE, Int.reduceLT, Int.reduceEq, Int.reduceNe, Int.reduceBEq, Int.reduceBNe, Nat.reduceBEq, Nat.reduceBNe, ↓reduceIte, reduceCtorEq, ↓reduceDIte, W_draw]
      · cases h
    · cases h
  · cases h

theorem M60 : MonoH [(104, φIn2 fun p l => .int .i64 (idxP p l))] := .cons (monoIn2 _) .nil

theorem ok97 : OkAtH Try.prog 97 (φIn2 fun p l => .bool (l.any p)) := by
  refine okH_of (l := []) (m := [(104, φIn2 fun p l => .int .i64 (idxP p l))]) .nil (.cons ok104 .nil) fn97 fun H args r h => ?_
  unfold φIn2 at h
  split at h
  · split at h
    · rename_i l o _ v hv
      split at h
      · rename_i hl
        injection h with h; subst h
        refine ⟨by simp, by simp [D.cl], fun T => ?_⟩
        have p : φIn2 (fun p l => .int .i64 (idxP p l)) H [l, .fn 98 [] [.ptr o 0]] = some (.int .i64 (idxP (fun x => same0 x v) (elems l))) := by
          simp only [φIn2, hv]
          rw [if_pos hl]
        have e : decide (0 ≤ idxP (fun x => same0 x v) (elems l)) = (elems l).any (fun x => same0 x v) := by
          unfold idxP
          split
          · rename_i i hi
            have := List.findIdx?_eq_some_iff_getElem.1 hi
            obtain ⟨h1, h2, _⟩ := this
            rw [List.any_eq_true.2 ⟨_, List.getElem_mem h1, h2⟩]
            simp
          · rename_i hi
            have := List.findIdx?_eq_none_iff.1 hi
            rw [List.any_eq_false.2 (fun x hx => by simp [this x hx])]
            decide
        have he : l.erase = l := by
          obtain ⟨b, hb⟩ := isSl_elim hl.1
          have hV : ∀ x ∈ elems l, x.isV = true := fun x hx => by
            have := List.all_eq_true.1 hl.2.1 x hx
            simp only [flat, Bool.and_eq_true] at this; exact this.1
          have hL := erase_of_isV hV
          generalize elems l = xs at *
          subst hb
          rw [erase_sliceD, hL]
        simp (config := { contextual := true, maxSteps := 10000000 }) only [c97, p, e, he, pcallH M60, orK_n, lookH_cons, lookH_nil, go_sem, Nat.reduceAdd, Nat.reduceSub, Nat.reduceMul, Nat.reduceEqDiff, Nat.reduceLeDiff, Nat.reduceLT, Int.reduceToNat, Int.reduceLE, Int.reduceLT, Int.reduceEq, Int.reduceNe, Int.reduceBEq, Int.reduceBNe, Nat.reduceBEq, Nat.reduceBNe, ↓reduceIte, reduceCtorEq, ↓reduceDIte, W_draw]
      · cases h
    · cases h
  · cases h

/-- In, as the program says. -/
def inV (v bag : D) : D :=
  if !(formedB v) || !(formedB bag) then .tup [.bool false, .int .i64 1] else
  if (vk bag != 5) || (vk v == 0) || (vk v == 5) then .tup [.bool false, .int .i64 6] else
  if decide ((0 : Int) < (vl bag).length) && (vk0 (vl bag) != vk v) then .tup [.bool false, .int .i64 6] else
  .tup [.bool ((vl bag).any fun x => same0 x v), .int .i64 0]

def φIn : List D → Option D
  | [v, bag] => if v.isV = true ∧ bag.isV = true then some (inV v bag) else none
  | _ => none

theorem flat_of {d : D} (h : d.isV = true) (hf : formedB d = true) : flat d = true := by
  simp only [flat, h, formed_leaf hf, Bool.and_self]

theorem M40 : MonoH [(97, φIn2 fun p l => .bool (l.any p))] := .cons (monoIn2 _) .nil

theorem ok80 : OkAt Try.prog 80 φIn := by
  have hX : ∀ f args H T Q Q', (∀ r H T, Q r H T → Q' r H T) → XM [(40, φFormed)] [(97, φIn2 fun p l => .bool (l.any p))] f args H T Q → Snd Try.prog f args H T Q' := XM.X (.cons ok40 .nil) (.cons ok97 .nil)
  intro args r hr args' he H T Q hQ
  have main : args.length ≤ 48 ∧ r.cl 0 0 = true ∧ W (XM [(40, φFormed)] [(97, φIn2 fun p l => .bool (l.any p))]) c80 (endQ [.inl 4, .inl 5] (Leaves r H T)) ⟨argT args, H, T⟩ := by
    unfold φIn at hr
    split at hr
    · split at hr
      · rename_i v bag hab
        injection hr with hr; subst hr
        obtain ⟨ha, hb⟩ := hab
        refine ⟨by simp, by unfold inV; split <;> (try split) <;> (try split) <;> simp [D.cl, D.clL], ?_⟩
        have pa : φFormed [v] = some (.bool (formedB v)) := by simp [φFormed, ha, formed_same]
        have pb : φFormed [bag] = some (.bool (formedB bag)) := by simp [φFormed, hb, formed_same]
        have E : inV v bag = if !(formedB v) || !(formedB bag) then .tup [.bool false, .int .i64 1] else
            if (vk bag != 5) || (vk v == 0) || (vk v == 5) then .tup [.bool false, .int .i64 6] else
            if decide ((0 : Int) < (vl bag).length) && (vk0 (vl bag) != vk v) then .tup [.bool false, .int .i64 6] else
            .tup [.bool ((vl bag).any fun x => same0 x v), .int .i64 0] := rfl
        rw [E]
        have hfv : formedB v = true → flat v = true := flat_of ha
        have hfb : formedB bag = true → (vk bag == 5) = true → (vl bag).all flat = true := fun h h5 => by
          refine List.all_eq_true.2 fun x hx => ?_
          have hxV : x.isV = true := by
            obtain ⟨k2, i2, s2, n2, ys, rfl, _, _, hV2⟩ := isV_elim hb
            rw [vl_mk] at hx; exact hV2 x hx
          have h1 : one1 x = true := by
            unfold formedB at h
            have h5' : vk bag = 5 := by simpa using h5
            simp only [h5', bne_self_eq_false, Bool.false_eq_true, if_false] at h
            split at h
            · cases h
            · exact el_one h x hx
          have : vl x = [] := List.length_eq_zero_iff.1 (plain_facts h1).1
          simp [flat, hxV, this]
        generalize formedB v = fa at pa hfv
        generalize formedB bag = fb at pb hfb
        obtain ⟨k1, i1, s1, n1, xs, rfl, z1, y1, hV1⟩ := isV_elim ha
        obtain ⟨k2, i2, s2, n2, ys, rfl, z2, y2, hV2⟩ := isV_elim hb
        have r1 := erase_of_isV hV1
        have r2 := erase_of_isV hV2
        simp only [vk_mk, vl_mk] at hfb ⊢
        have pc : fa = true → fb = true → (k2 != 5) = false → ∀ L, φIn2 (fun p l => .bool (l.any p)) (H ++ .row [.int .i64 k1, .int .i64 i1, .str s1, sliceD n1 xs] :: L) [sliceD n2 ys, .fn 98 [] [.ptr H.length 0]] = some (.bool (ys.any fun x => same0 x (mkV k1 i1 s1 n1 xs))) := by
          intro h1 h2 h3 L
          have hrow : rowV (H ++ .row [.int .i64 k1, .int .i64 i1, .str s1, sliceD n1 xs] :: L) H.length = some (mkV k1 i1 s1 n1 xs) := by
            unfold rowV
            rw [List.getElem?_append_right (Nat.le_refl _), Nat.sub_self]
            have := hfv h1
            simp only [mkV] at this ⊢
            simp only [List.getElem?_cons_zero, this, if_true]
          have h5 : (k2 == 5) = true := by simpa using h3
          simp only [φIn2, hrow, isSl_sliceD, elems_sliceD, hfb h2 h5, y2, and_self, if_true]
        generalize (ys.any fun x => same0 x (mkV k1 i1 s1 n1 xs)) = res at pc ⊢
        clear E hQ he hX
        simp only [mkV] at pa pb pc
        cases fa with
        | false => simp (config := { contextual := true, maxSteps := 10000000 }) only [c80, mkV, r1, r2, pa, pb, pcallH M40, orK_s, orK_n, lookH_cons, lookH_nil, go_sem, Nat.reduceAdd, Nat.reduceSub, Nat.reduceMul, Nat.reduceEqDiff, Nat.reduceLeDiff, Nat.reduceLT, Int.reduceToNat, Int.reduceLE, Int.reduceLT, Int.reduceEq, Int.reduceNe, Int.reduceBEq, Int.reduceBNe, Nat.reduceBEq, Nat.reduceBNe, ↓reduceIte, reduceCtorEq, ↓reduceDIte, W_draw]
        | true =>
          cases fb with
          | false => simp (config := { contextual := true, maxSteps := 10000000 }) only [c80, mkV, r1, r2, pa, pb, pcallH M40, orK_s, orK_n, lookH_cons, lookH_nil, go_sem, Nat.reduceAdd, Nat.reduceSub, Nat.reduceMul, Nat.reduceEqDiff, Nat.reduceLeDiff, Nat.reduceLT, Int.reduceToNat, Int.reduceLE, Int.reduceLT, Int.reduceEq, Int.reduceNe, Int.reduceBEq, Int.reduceBNe, Nat.reduceBEq, Nat.reduceBNe, ↓reduceIte, reduceCtorEq, ↓reduceDIte, W_draw]
          | true =>
            cases h5 : (k2 != 5) with
            | true => simp (config := { contextual := true, maxSteps := 10000000 }) only [c80, mkV, r1, r2, pa, pb, h5, pcallH M40, orK_s, orK_n, lookH_cons, lookH_nil, go_sem, Nat.reduceAdd, Nat.reduceSub, Nat.reduceMul, Nat.reduceEqDiff, Nat.reduceLeDiff, Nat.reduceLT, Int.reduceToNat, Int.reduceLE, Int.reduceLT, Int.reduceEq, Int.reduceNe, Int.reduceBEq, Int.reduceBNe, Nat.reduceBEq, Nat.reduceBNe, ↓reduceIte, reduceCtorEq, ↓reduceDIte, W_draw]
            | false =>
              have pc := pc rfl rfl h5
              cases hd : decide ((0 : Int) < ys.length) with
              | false =>
                simp (config := { contextual := true, maxSteps := 10000000 }) only [c80, mkV, r1, r2, pa, pb, pc, h5, hd, pcallH M40, orK_s, orK_n, lookH_cons, lookH_nil, go_sem, Nat.reduceAdd, Nat.reduceSub, Nat.reduceMul, Nat.reduceEqDiff, Nat.reduceLeDiff, Nat.reduceLT, Int.reduceToNat, Int.reduceLE, Int.reduceLT, Int.reduceEq, Int.reduceNe, Int.reduceBEq, Int.reduceBNe, Nat.reduceBEq, Nat.reduceBNe, ↓reduceIte, reduceCtorEq, ↓reduceDIte, W_draw]
                repeat' (first | apply And.intro | intro _)
                all_goals grind
              | true =>
                obtain ⟨k0, i0, s0, n0, l0, e0, _⟩ := get_isV hV2 (show 0 < ys.length by simp at hd; omega)
                have fk := vk0_get e0
                simp (config := { contextual := true, maxSteps := 10000000 }) only [c80, mkV, r1, r2, pa, pb, pc, h5, hd, e0, fk, pcallH M40, orK_s, orK_n, lookH_cons, lookH_nil, go_sem, Nat.reduceAdd, Nat.reduceSub, Nat.reduceMul, Nat.reduceEqDiff, Nat.reduceLeDiff, Nat.reduceLT, Int.reduceToNat, Int.reduceLE, Int.reduceLT, Int.reduceEq, Int.reduceNe, Int.reduceBEq, Int.reduceBNe, Nat.reduceBEq, Nat.reduceBNe, ↓reduceIte, reduceCtorEq, ↓reduceDIte, W_draw]
                repeat' (first | apply And.intro | intro _)
                all_goals grind
      · cases hr
    · cases hr
  obtain ⟨h1, h2, h3⟩ := main
  have hS : Snd Try.prog 80 args H T (Leaves r H T) := call_of fn80 h1 (W_mono hX (fun _ _ h => h) h3)
  intro c w vs k1 k2 k3
  have k3' : Reps c args vs := by rw [← he]; exact k3.erase
  have hcl := D.cl_mono (Nat.zero_le H.length) (Nat.zero_le T.length) r h2
  rcases hS c w vs k1 k2 k3' with ⟨g1, g2⟩ | ⟨v, w', g1, g2⟩
  · exact .inl ⟨g1, g2.mono fun e w' k => CallPost.forget k1 k2 hcl hQ k⟩
  · exact .inr ⟨v, w', g1, CallPost.forget k1 k2 hcl hQ g2⟩
end GP
