import Derived.Test.YtoobncfcgknecaaGpF12
set_option linter.unusedSimpArgs false
namespace GP
open Go Go.Proofs
set_option maxRecDepth 10000

/-! ### The plain law -/
theorem plain_facts {k i : Int} {s : List UInt8} {n : Nat} (h : plainB k i s n = true) : n = 0 ∧ (k = 3 → i = 0) ∧ (k ≠ 3 → s = []) ∧ 0 ≤ k ∧ k ≤ 4 := by
  refine ⟨plain_leaf h, ?_, ?_, ?_, ?_⟩ <;> unfold plainB at h <;> grind
theorem cmpI_self (a : Int) : cmpI a a = 0 := by simp [cmpI]
theorem cmpI_ne {a b : Int} (h : a ≠ b) : cmpI a b ≠ 0 := by unfold cmpI; split <;> (try split) <;> omega
theorem or3_eq {a b : D} (ha : one1 a = true) (hb : one1 b = true) : or3 (cmpI (vk a) (vk b)) (cmpI (vi a) (vi b)) (cmpS (vs a) (vs b)) = singleD a b := by
  obtain ⟨_, a1, a2, _⟩ := plain_facts ha
  obtain ⟨_, b1, b2, _⟩ := plain_facts hb
  simp only [or3, singleD, singleI]
  by_cases hk : vk a = vk b
  · by_cases h3 : vk a = 3
    · have e1 := a1 h3
      have e2 := b1 (by omega)
      simp [hk, cmpI_self, e1, e2, show vk b = 3 by omega]
    · have e1 := a2 h3
      have e2 := b2 (by omega)
      have h3' : ¬ vk b = 3 := by omega
      simp only [hk, cmpI_self, e1, e2, cmpS]
      simp [h3']
      intro h; rw [h]
  · have := cmpI_ne hk
    simp [hk, this]
theorem ord_single {a b : D} (ha : one1 a = true) (hb : one1 b = true) (f : D → D → Int) : ordW f a b = singleD a b := by
  have la : vl a = [] := List.length_eq_zero_iff.1 (plain_facts ha).1
  have lb : vl b = [] := List.length_eq_zero_iff.1 (plain_facts hb).1
  unfold ordW
  rw [or3_eq ha hb, la, lb]
  simp only [cmpL]
  split
  · rfl
  · rename_i h; simpa using Eq.symm (show singleD a b = 0 by simpa using h)

theorem okEl_same {xs : List D} {i : Nat} (hp : 0 < i → okEl ord0 xs (i - 1) = true) : okEl ord0 xs i = okEl singleD xs i := by
  unfold okEl
  cases hx : xs[i]? with
  | none => rfl
  | some x =>
    simp only
    by_cases h0 : i = 0
    · simp [h0]
    · have hq := hp (by omega)
      unfold okEl at hq
      cases hy : xs[i - 1]? with
      | none => rfl
      | some y =>
        rw [hy] at hq
        simp only [Bool.and_eq_true] at hq
        by_cases h1 : one1 x = true
        · have : ord0 y x = singleD y x := ord_single hq.1.1.1 h1 f0
          simp only [this]
        · simp [h1]

theorem adj_same (xs : List D) : ∀ n, (List.range n).all (okEl ord0 xs) = (List.range n).all (okEl singleD xs)
  | 0 => rfl
  | n + 1 => by
    rw [all_range_succ, all_range_succ, ← adj_same xs n]
    cases hq : (List.range n).all (okEl ord0 xs) with
    | false => rfl
    | true =>
      simp only [Bool.true_and]
      exact okEl_same fun h0 => List.all_eq_true.1 hq (n - 1) (by simp; omega)

theorem formed_same (d : D) : formedV d = formedB d := by
  unfold formedV formedB
  have : adjB ord0 (vl d) = adjB singleD (vl d) := adj_same _ _
  rw [this]
  grind

theorem el_one {xs : List D} (h : adjB singleD xs = true) : ∀ x ∈ xs, one1 x = true := by
  intro x hx
  obtain ⟨i, hi, rfl⟩ := List.getElem_of_mem hx
  have := List.all_eq_true.1 h i (by simpa using hi)
  unfold okEl at this
  simp only [List.getElem?_eq_getElem hi, Bool.and_eq_true] at this
  exact this.1.1.1

theorem cmpL_same {f g : D → D → Int} : ∀ {xs ys : List D}, (∀ x ∈ xs, ∀ y ∈ ys, f x y = g x y) → cmpL f xs ys = cmpL g xs ys
  | [], [], _ => rfl
  | [], _ :: _, _ => rfl
  | _ :: _, [], _ => rfl
  | x :: xs, y :: ys, h => by
    simp only [cmpL]
    rw [h x (by simp) y (by simp), cmpL_same fun a ha b hb => h a (by simp [ha]) b (by simp [hb])]

theorem order_same {a b : D} (ha : formedB a = true) (hb : formedB b = true) (hk : vk a = vk b) : ordW ord0 a b = orderR a b := by
  unfold formedB at ha hb
  by_cases h5 : vk a = 5
  · have h5' : vk b = 5 := by omega
    simp only [h5, bne_self_eq_false, Bool.false_eq_true, if_false] at ha
    simp only [h5', bne_self_eq_false, Bool.false_eq_true, if_false] at hb
    split at ha
    · cases ha
    · rename_i qa
      split at hb
      · cases hb
      · rename_i qb
        simp only [Bool.or_eq_true, not_or, bne_iff_ne, ne_eq, Decidable.not_not] at qa qb
        have e := cmpL_same (f := ord0) (g := singleD) (xs := vl a) (ys := vl b) fun x hx y hy => ord_single (el_one ha x hx) (el_one hb y hy) f0
        simp [ordW, orderR, h5, h5', qa.1.1, qb.1.1, qa.1.2, qb.1.2, or3, cmpI_self, cmpS, e]
  · have h5' : ¬ vk b = 5 := by omega
    have oa : one1 a = true := by simpa [h5] using ha
    have ob : one1 b = true := by simpa [h5'] using hb
    rw [ord_single oa ob]
    simp [orderR, h5]

def Tri (c : Int) : Prop := c = -1 ∨ c = 0 ∨ c = 1
theorem cmpI_tri (a b : Int) : Tri (cmpI a b) := by unfold cmpI Tri; split <;> (try split) <;> simp
theorem cmpS_tri : ∀ (a b : List UInt8), Tri (cmpS a b)
  | [], [] => by simp [cmpS, Tri]
  | [], _ :: _ => by simp [cmpS, Tri]
  | _ :: _, [] => by simp [cmpS, Tri]
  | x :: a, y :: b => by
    simp only [cmpS]
    split
    · simp [Tri]
    · split
      · simp [Tri]
      · exact cmpS_tri a b
theorem single_tri (a b : D) : Tri (singleD a b) := by
  unfold singleD singleI
  split
  · exact cmpI_tri _ _
  · split
    · exact cmpS_tri _ _
    · exact cmpI_tri _ _
theorem cmpL_tri {f : D → D → Int} (h : ∀ a b, Tri (f a b)) : ∀ (xs ys : List D), Tri (cmpL f xs ys)
  | [], [] => by simp [cmpL, Tri]
  | [], _ :: _ => by simp [cmpL, Tri]
  | _ :: _, [] => by simp [cmpL, Tri]
  | x :: xs, y :: ys => by
    simp only [cmpL]
    split
    · exact h x y
    · exact cmpL_tri h xs ys
theorem order_tri (a b : D) : Tri (orderR a b) := by
  unfold orderR
  split
  · exact single_tri _ _
  · exact cmpL_tri single_tri _ _
theorem op_same {op : List UInt8} {c : Int} (h : Tri c) : opV op c = opR op c := by
  unfold Tri at h
  rcases h with rfl | rfl | rfl <;> simp [opV, opR]

theorem formed_leaf {d : D} (h : formedB d = true) : (vl d).all leaf = true := by
  unfold formedB at h
  split at h
  · rw [List.length_eq_zero_iff.1 (plain_facts h).1]; rfl
  · split at h
    · cases h
    · refine List.all_eq_true.2 fun x hx => ?_
      have := el_one h x hx
      simp [leaf, List.length_eq_zero_iff.1 (plain_facts this).1]

/-! ### Compare -/
def cmpV (op : List UInt8) (a b : D) : D :=
  if !(formedB a) || !(formedB b) || !(good6 op) then .tup [.bool false, .int .i64 1] else
  if wrongOp op (vk a) (vk b) then .tup [.bool false, .int .i64 6] else .tup [.bool (opV op (ordW ord0 a b)), .int .i64 0]
def φCompareV : List D → Option D
  | [.str op, a, b] => if a.isV = true ∧ b.isV = true then some (cmpV op a b) else none
  | _ => none

theorem ok20 : OkAt Try.prog 20 φCompareV := by
  refine ok_of (l := [(11, φFormed), (42, φContains), (13, φOrd leaf ord0)]) (.cons ok11 (.cons ok42 (.cons ok13b .nil))) fn20 fun args r h => ?_
  unfold φCompareV at h
  split at h
  · split at h
    · rename_i op a b hab
      injection h with h; subst h
      refine ⟨by simp, by unfold cmpV; split <;> (try split) <;> simp [D.cl, D.clL], fun H T => ?_⟩
      obtain ⟨ha, hb⟩ := hab
      have pa : φFormed [a] = some (.bool (formedB a)) := by simp [φFormed, ha, formed_same]
      have pb : φFormed [b] = some (.bool (formedB b)) := by simp [φFormed, hb, formed_same]
      have pc : formedB a = true → formedB b = true → φOrd leaf ord0 [a, b] = some (.int .i64 (ordW ord0 a b)) := fun h1 h2 => by simp [φOrd, ha, hb, formed_leaf h1, formed_leaf h2]
      have E : cmpV op a b = if !(formedB a) || !(formedB b) || !(good6 op) then .tup [.bool false, .int .i64 1] else
  if wrongOp op (vk a) (vk b) then .tup [.bool false, .int .i64 6] else .tup [.bool (opV op (ordW ord0 a b)), .int .i64 0] := rfl
      rw [E]
      generalize ordW ord0 a b = o at pc
      generalize formedB a = fa at pa pc
      generalize formedB b = fb at pb pc
      obtain ⟨k1, i1, s1, n1, xs, rfl, z1, y1, hV1⟩ := isV_elim ha
      obtain ⟨k2, i2, s2, n2, ys, rfl, z2, y2, hV2⟩ := isV_elim hb
      have r1 := erase_of_isV hV1
      have r2 := erase_of_isV hV2
      simp only [vk_mk]
      simp only [mkV] at pa pb pc
      cases fa with
      | false => simp (config := { contextual := true, maxSteps := 10000000 }) only [c20, mkV, r1, r2, pa, pb, go_sem, List.map_cons, List.map_nil, List.append_assoc, List.cons_append, List.nil_append, List.append_nil, List.length_append, List.length_cons, List.length_nil, List.take_zero, List.take_succ_cons, List.take_nil, List.drop_zero, List.drop_succ_cons, List.drop_nil, Nat.zero_add, Nat.add_zero, Nat.reduceAdd, Nat.reduceSub, Nat.reduceMul, Nat.reduceEqDiff, Nat.reduceLeDiff, Nat.reduceLT, Int.reduceToNat, Int.reduceLE, Int.reduceLT, Int.reduceEq, Int.reduceNe, Int.reduceBEq, Int.reduceBNe, Nat.reduceBEq, Nat.reduceBNe, ↓reduceIte, reduceCtorEq, ↓reduceDIte, Option.map_some, Option.map_none, true_and, and_true, false_and, and_false, and_self, W_draw, condK_b, WIk_bt, WIk_bf, Bool.true_eq_false, Bool.false_eq_true, Bool.not_true, Bool.not_false, Bool.not_eq_true', Bool.not_eq_false', Bool.true_and, Bool.and_true, Bool.false_and, Bool.and_false, Bool.true_or, Bool.or_true, Bool.false_or, Bool.or_false, Bool.bne_true, Bool.bne_false, Bool.true_bne, Bool.false_bne, Bool.true_beq, Bool.false_beq, Bool.not_not, decide_true, decide_false, false_implies, true_implies, implies_true, forall_const, List.all_cons, List.all_nil, beq_self_eq_true, bne_self_eq_false, Nat.zero_le, Nat.le_refl, List.getElem?_cons_zero, List.getElem?_cons_succ, List.isEmpty_nil, List.isEmpty_cons, Int.cast_ofNat_Int, Int.toNat_zero]
      | true =>
        cases fb with
        | false => simp (config := { contextual := true, maxSteps := 10000000 }) only [c20, mkV, r1, r2, pa, pb, go_sem, List.map_cons, List.map_nil, List.append_assoc, List.cons_append, List.nil_append, List.append_nil, List.length_append, List.length_cons, List.length_nil, List.take_zero, List.take_succ_cons, List.take_nil, List.drop_zero, List.drop_succ_cons, List.drop_nil, Nat.zero_add, Nat.add_zero, Nat.reduceAdd, Nat.reduceSub, Nat.reduceMul, Nat.reduceEqDiff, Nat.reduceLeDiff, Nat.reduceLT, Int.reduceToNat, Int.reduceLE, Int.reduceLT, Int.reduceEq, Int.reduceNe, Int.reduceBEq, Int.reduceBNe, Nat.reduceBEq, Nat.reduceBNe, ↓reduceIte, reduceCtorEq, ↓reduceDIte, Option.map_some, Option.map_none, true_and, and_true, false_and, and_false, and_self, W_draw, condK_b, WIk_bt, WIk_bf, Bool.true_eq_false, Bool.false_eq_true, Bool.not_true, Bool.not_false, Bool.not_eq_true', Bool.not_eq_false', Bool.true_and, Bool.and_true, Bool.false_and, Bool.and_false, Bool.true_or, Bool.or_true, Bool.false_or, Bool.or_false, Bool.bne_true, Bool.bne_false, Bool.true_bne, Bool.false_bne, Bool.true_beq, Bool.false_beq, Bool.not_not, decide_true, decide_false, false_implies, true_implies, implies_true, forall_const, List.all_cons, List.all_nil, beq_self_eq_true, bne_self_eq_false, Nat.zero_le, Nat.le_refl, List.getElem?_cons_zero, List.getElem?_cons_succ, List.isEmpty_nil, List.isEmpty_cons, Int.cast_ofNat_Int, Int.toNat_zero]
        | true =>
          have pc := pc rfl rfl
          cases hg : good6 op with
          | false => simp (config := { contextual := true, maxSteps := 10000000 }) only [c20, mkV, r1, r2, pa, pb, φContains, hg, fit_eq, go_sem, List.map_cons, List.map_nil, List.append_assoc, List.cons_append, List.nil_append, List.append_nil, List.length_append, List.length_cons, List.length_nil, List.take_zero, List.take_succ_cons, List.take_nil, List.drop_zero, List.drop_succ_cons, List.drop_nil, Nat.zero_add, Nat.add_zero, Nat.reduceAdd, Nat.reduceSub, Nat.reduceMul, Nat.reduceEqDiff, Nat.reduceLeDiff, Nat.reduceLT, Int.reduceToNat, Int.reduceLE, Int.reduceLT, Int.reduceEq, Int.reduceNe, Int.reduceBEq, Int.reduceBNe, Nat.reduceBEq, Nat.reduceBNe, ↓reduceIte, reduceCtorEq, ↓reduceDIte, Option.map_some, Option.map_none, true_and, and_true, false_and, and_false, and_self, W_draw, condK_b, WIk_bt, WIk_bf, Bool.true_eq_false, Bool.false_eq_true, Bool.not_true, Bool.not_false, Bool.not_eq_true', Bool.not_eq_false', Bool.true_and, Bool.and_true, Bool.false_and, Bool.and_false, Bool.true_or, Bool.or_true, Bool.false_or, Bool.or_false, Bool.bne_true, Bool.bne_false, Bool.true_bne, Bool.false_bne, Bool.true_beq, Bool.false_beq, Bool.not_not, decide_true, decide_false, false_implies, true_implies, implies_true, forall_const, List.all_cons, List.all_nil, beq_self_eq_true, bne_self_eq_false, Nat.zero_le, Nat.le_refl, List.getElem?_cons_zero, List.getElem?_cons_succ, List.isEmpty_nil, List.isEmpty_cons, Int.cast_ofNat_Int, Int.toNat_zero]
          | true =>
            simp (config := { contextual := true, maxSteps := 10000000 }) only [c20, mkV, r1, r2, pa, pb, pc, φContains, hg, fit_eq, go_sem, List.map_cons, List.map_nil, List.append_assoc, List.cons_append, List.nil_append, List.append_nil, List.length_append, List.length_cons, List.length_nil, List.take_zero, List.take_succ_cons, List.take_nil, List.drop_zero, List.drop_succ_cons, List.drop_nil, Nat.zero_add, Nat.add_zero, Nat.reduceAdd, Nat.reduceSub, Nat.reduceMul, Nat.reduceEqDiff, Nat.reduceLeDiff, Nat.reduceLT, Int.reduceToNat, Int.reduceLE, Int.reduceLT, Int.reduceEq, Int.reduceNe, Int.reduceBEq, Int.reduceBNe, Nat.reduceBEq, Nat.reduceBNe, ↓reduceIte, reduceCtorEq, ↓reduceDIte, Option.map_some, Option.map_none, true_and, and_true, false_and, and_false, and_self, W_draw, condK_b, WIk_bt, WIk_bf, Bool.true_eq_false, Bool.false_eq_true, Bool.not_true, Bool.not_false, Bool.not_eq_true', Bool.not_eq_false', Bool.true_and, Bool.and_true, Bool.false_and, Bool.and_false, Bool.true_or, Bool.or_true, Bool.false_or, Bool.or_false, Bool.bne_true, Bool.bne_false, Bool.true_bne, Bool.false_bne, Bool.true_beq, Bool.false_beq, Bool.not_not, decide_true, decide_false, false_implies, true_implies, implies_true, forall_const, List.all_cons, List.all_nil, beq_self_eq_true, bne_self_eq_false, Nat.zero_le, Nat.le_refl, List.getElem?_cons_zero, List.getElem?_cons_succ, List.isEmpty_nil, List.isEmpty_cons, Int.cast_ofNat_Int, Int.toNat_zero]
            repeat' (first | apply And.intro | intro _)
            all_goals grind [wrongOp, opV]
    · cases h
  · cases h
end GP
