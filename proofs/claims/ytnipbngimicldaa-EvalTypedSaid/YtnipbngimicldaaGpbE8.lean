import Derived.Test.YtnipbngimicldaaGpbE5
import Derived.Test.YtnipbngimicldaaGpbE2
set_option linter.unusedSimpArgs false
namespace GP
open Go Go.Proofs
set_option maxRecDepth 100000

/-! ### The statement's own functions -/
def expr5 : D := .agg [.int .i64 5, .nils, .nils]
theorem scene5_isS : isS expr5 := ⟨5, .nils, .nils, rfl, by decide, by decide, isLs_nils _, isLs_nils _⟩
theorem now_eval : φEval 1 [exprNow, expr5] = some (.tup [valV 4 5, .int .i64 0]) := by
  simp only [φEval]
  rw [if_pos ⟨scene5_isS, now_isE⟩]
  rfl
theorem ok11 : OkAt Try.prog 11 φtrue := by
  refine ok_of (l := [(17, φEval 1)]) (.cons (ok17 1) .nil) fn11 fun args r h => ?_
  unfold φtrue at h
  split at h
  · injection h with h; subst h
    refine ⟨by simp, by simp [D.cl], fun H T => ?_⟩
    have p := now_eval
    simp only [exprNow, mkE, sliceD, List.isEmpty_nil, Bool.true_and, if_true, expr5, valV] at p
    simp (config := { contextual := true, maxSteps := 10000000 }) only [c11, p, go_sem, Nat.reduceAdd, Nat.reduceSub, Nat.reduceMul, Nat.reduceEqDiff, Nat.reduceLeDiff, Nat.reduceLT, Int.reduceToNat, Int.reduceLE, Int.reduceLT, Int.reduceEq, Int.reduceNe, Int.reduceBEq, Int.reduceBNe, Nat.reduceBEq, Nat.reduceBNe, ↓reduceIte, reduceCtorEq, ↓reduceDIte, W_draw]
  · cases h

/-- How many nodes an expression has, as far as is looked. -/
def szL (f : D → Int → Int) : List D → Int → Int → Int
  | [], _, n => n
  | x :: l, m, n => if decide (n ≤ m) then szL f l m (IntKind.i64.wrap (n + f x (IntKind.i64.wrap (m - n)))) else n
def sizeE : Nat → D → Int → Int
  | 0, _, _ => 0
  | n + 1, e, m => szL (sizeE n) (eps e) m 1
theorem szL_step {f : D → Int → Int} {l : List D} {j : Nat} {x : D} (hx : l[j]? = some x) {m n : Int} (h : decide (n ≤ m) = true) : szL f (l.drop j) m n = szL f (l.drop (j + 1)) m (IntKind.i64.wrap (n + f x (IntKind.i64.wrap (m - n)))) := by
  have hj : j < l.length := by
    rcases Nat.lt_or_ge j l.length with h' | h'
    · exact h'
    · rw [List.getElem?_eq_none h'] at hx; cases hx
  have : l[j] = x := by simpa [hj] using hx
  rw [List.drop_eq_getElem_cons hj, szL, h, this]; rfl
theorem szL_stop {f : D → Int → Int} (l : List D) {m n : Int} (h : decide (n ≤ m) = false) : szL f l m n = n := by
  cases l with
  | nil => rfl
  | cons x l => rw [szL, h]; rfl
open Classical in
noncomputable def φsizeE (n : Nat) : List D → Option D
  | [e, .int .i64 m] => if isE n e then some (.int .i64 (sizeE n e m)) else none
  | _ => none
set_option maxHeartbeats 2000000 in
theorem ok27 : ∀ n, OkAt Try.prog 27 (φsizeE n)
  | 0 => fun args r h => by
    unfold φsizeE at h
    split at h
    · split at h
      · rename_i h'; exact h'.elim
      · cases h
    · cases h
  | n + 1 => by
    refine ok_of (l := [(27, φsizeE n)]) (.cons (ok27 n) .nil) fn27 fun args r h => ?_
    unfold φsizeE at h
    split at h
    · rename_i e mm
      split at h
      · rename_i he
        injection h with h; subst h
        refine ⟨by simp, by simp [D.cl], fun H T => ?_⟩
        obtain ⟨op, k, i, t, nl, l, who, name, m, ps, rfl, h1, h2, h3, h4, h5, h6, eL, eP⟩ := isE_elim he
        have h6 : ∀ x ∈ ps, isE n x := h6
        simp only [sizeE, eps_mk]
        simp (config := { contextual := true, maxSteps := 10000000 }) only [c27, mkE, eL, eP, go_sem, Nat.reduceAdd, Nat.reduceSub, Nat.reduceMul, Nat.reduceEqDiff, Nat.reduceLeDiff, Nat.reduceLT, Int.reduceToNat, Int.reduceLE, Int.reduceLT, Int.reduceEq, Int.reduceNe, Int.reduceBEq, Int.reduceBNe, Nat.reduceBEq, Nat.reduceBNe, ↓reduceIte, reduceCtorEq, ↓reduceDIte, W_draw]
        refine W_for (fun j s' => s'.t 1 = .int .i64 mm ∧ s'.t 2 = .ptr H.length 0 ∧ (∃ a, s'.t 5 = .int .i64 a ∧ szL (sizeE n) (ps.drop j) mm a = szL (sizeE n) ps mm 1) ∧ s'.t 6 = .int .i64 j ∧ s'.H = H ++ [.row [.str op, .int .i64 k, .int .i64 i, .str t, sliceD nl l, .str who, .str name, sliceD m ps]] ∧ s'.T = T ∧ j ≤ ps.length) ps.length ⟨0, by simp [upd, argT]⟩ (fun i s h => h.2.2.2.2.2.2) ?_ (XL_mono _)
        rintro j ⟨t', B, T'⟩ ⟨r1, r2, ⟨a, r5, hc⟩, r6, rfl, rfl, hj⟩
        simp only at r1 r2 r5 r6
        by_cases ha : j < ps.length
        · have d1 : decide ((j : Int) < ps.length) = true := by simpa using ha
          have hx := h6 _ (List.getElem_mem ha)
          have ex : ps[j]? = some ps[j] := by simp [ha]
          generalize ps[j] = x at *
          have ee := isE_erase hx
          obtain ⟨q1, q2, q3, q4⟩ := isE_cells hx
          have px : ∀ r, φsizeE n [x, .int .i64 r] = some (.int .i64 (sizeE n x r)) := fun r => by simp only [φsizeE]; rw [if_pos hx]
          cases d2 : decide (a ≤ mm) with
          | true =>
            rw [szL_step ex d2] at hc
            simp (config := { contextual := true, maxSteps := 10000000 }) only [r1, r2, r5, r6, d1, d2, ex, ee, q1, q2, q3, q4, px, wrap_succ j (by omega), go_sem, Nat.reduceAdd, Nat.reduceSub, Nat.reduceMul, Nat.reduceEqDiff, Nat.reduceLeDiff, Nat.reduceLT, Int.reduceToNat, Int.reduceLE, Int.reduceLT, Int.reduceEq, Int.reduceNe, Int.reduceBEq, Int.reduceBNe, Nat.reduceBEq, Nat.reduceBNe, ↓reduceIte, reduceCtorEq, ↓reduceDIte, W_draw]
            exact ⟨⟨_, rfl, hc⟩, by omega⟩
          | false =>
            rw [szL_stop _ d2] at hc
            have d2' := d2
            rw [hc] at d2'
            simp (config := { contextual := true, maxSteps := 10000000 }) only [r1, r2, r5, r6, d1, d2', hc, go_sem, Nat.reduceAdd, Nat.reduceSub, Nat.reduceMul, Nat.reduceEqDiff, Nat.reduceLeDiff, Nat.reduceLT, Int.reduceToNat, Int.reduceLE, Int.reduceLT, Int.reduceEq, Int.reduceNe, Int.reduceBEq, Int.reduceBNe, Nat.reduceBEq, Nat.reduceBNe, ↓reduceIte, reduceCtorEq, ↓reduceDIte, W_draw]
        · have d1 : decide ((j : Int) < ps.length) = false := by simpa using ha
          have : j = ps.length := by omega
          subst this
          rw [List.drop_length] at hc
          have hc' : a = szL (sizeE n) ps mm 1 := hc
          simp (config := { contextual := true, maxSteps := 10000000 }) only [r1, r2, r5, r6, d1, hc', go_sem, Nat.reduceAdd, Nat.reduceSub, Nat.reduceMul, Nat.reduceEqDiff, Nat.reduceLeDiff, Nat.reduceLT, Int.reduceToNat, Int.reduceLE, Int.reduceLT, Int.reduceEq, Int.reduceNe, Int.reduceBEq, Int.reduceBNe, Nat.reduceBEq, Nat.reduceBNe, ↓reduceIte, reduceCtorEq, ↓reduceDIte, W_draw]
      · cases h
    · cases h

def big (l : List UInt8) : Bool := decide ((200 : Int) < l.length)
/-- No text in an expression is too long. -/
def shortE : Nat → D → Bool
  | 0, _ => false
  | n + 1, e => !(big (eop e)) && !(big (ewho e)) && !(big (ename e)) && fewB [eV e] 1 && (eps e).all (shortE n)
open Classical in
noncomputable def φshort (n : Nat) : List D → Option D
  | [e] => if isE n e then some (.bool (shortE n e)) else none
  | _ => none
theorem few_one {v : D} (h : isVr v) : φFew [.sl none [v], .int .i64 1] = some (.bool (fewB [v] 1)) := by
  simp only [φFew]
  rw [if_pos ⟨rfl, by simp [elems, D.isVs, h.1], by simp [elems]⟩]
  rfl
set_option maxHeartbeats 2000000 in
theorem ok31 : ∀ n, OkAt Try.prog 31 (φshort n)
  | 0 => fun args r h => by
    unfold φshort at h
    split at h
    · split at h
      · rename_i h'; exact h'.elim
      · cases h
    · cases h
  | n + 1 => by
    refine ok_of (l := [(19, φFew), (31, φshort n)]) (.cons ok19 (.cons (ok31 n) .nil)) fn31 fun args r h => ?_
    unfold φshort at h
    split at h
    · rename_i e
      split at h
      · rename_i he
        injection h with h; subst h
        refine ⟨by simp, by simp [D.cl], fun H T => ?_⟩
        obtain ⟨op, k, i, t, nl, l, who, name, m, ps, rfl, h1, h2, h3, h4, h5, h6, eL, eP⟩ := isE_elim he
        have h6 : ∀ x ∈ ps, isE n x := h6
        simp only [shortE, eps_mk, eop_mk, ewho_mk, ename_mk, eV_mk]
        simp only [big]
        have pf := few_one h4
        obtain ⟨fb, hq⟩ : ∃ z, fewB [mkV k i t nl l] 1 = z := ⟨_, rfl⟩
        simp only [hq] at pf ⊢
        clear hq
        simp only [mkV] at pf
        have pf' : ∀ tk, φFew (D.eraseL [.sl tk [.agg [.int .i64 k, .int .i64 i, .str t, sliceD nl l]], .int .i64 1]) = some (.bool fb) := fun tk => by simp only [D.eraseL, D.erase, erase_sliceD, eL, pf]
        cases g1 : decide ((200 : Int) < op.length) with
        | true => simp (config := { contextual := true, maxSteps := 10000000 }) only [c31, mkE, eL, eP, g1, go_sem, Nat.reduceAdd, Nat.reduceSub, Nat.reduceMul, Nat.reduceEqDiff, Nat.reduceLeDiff, Nat.reduceLT, Int.reduceToNat, Int.reduceLE, Int.reduceLT, Int.reduceEq, Int.reduceNe, Int.reduceBEq, Int.reduceBNe, Nat.reduceBEq, Nat.reduceBNe, ↓reduceIte, reduceCtorEq, ↓reduceDIte, W_draw]
        | false =>
        cases g2 : decide ((200 : Int) < who.length) with
        | true => simp (config := { contextual := true, maxSteps := 10000000 }) only [c31, mkE, eL, eP, g1, g2, go_sem, Nat.reduceAdd, Nat.reduceSub, Nat.reduceMul, Nat.reduceEqDiff, Nat.reduceLeDiff, Nat.reduceLT, Int.reduceToNat, Int.reduceLE, Int.reduceLT, Int.reduceEq, Int.reduceNe, Int.reduceBEq, Int.reduceBNe, Nat.reduceBEq, Nat.reduceBNe, ↓reduceIte, reduceCtorEq, ↓reduceDIte, W_draw]
        | false =>
        cases g3 : decide ((200 : Int) < name.length) with
        | true => simp (config := { contextual := true, maxSteps := 10000000 }) only [c31, mkE, eL, eP, g1, g2, g3, go_sem, Nat.reduceAdd, Nat.reduceSub, Nat.reduceMul, Nat.reduceEqDiff, Nat.reduceLeDiff, Nat.reduceLT, Int.reduceToNat, Int.reduceLE, Int.reduceLT, Int.reduceEq, Int.reduceNe, Int.reduceBEq, Int.reduceBNe, Nat.reduceBEq, Nat.reduceBNe, ↓reduceIte, reduceCtorEq, ↓reduceDIte, W_draw]
        | false =>
        cases fb with
        | false => simp (config := { contextual := true, maxSteps := 10000000 }) only [c31, mkE, eL, eP, g1, g2, g3, pf, go_sem, Nat.reduceAdd, Nat.reduceSub, Nat.reduceMul, Nat.reduceEqDiff, Nat.reduceLeDiff, Nat.reduceLT, Int.reduceToNat, Int.reduceLE, Int.reduceLT, Int.reduceEq, Int.reduceNe, Int.reduceBEq, Int.reduceBNe, Nat.reduceBEq, Nat.reduceBNe, ↓reduceIte, reduceCtorEq, ↓reduceDIte, W_draw]
        | true =>
        simp (config := { contextual := true, maxSteps := 10000000 }) only [c31, mkE, eL, eP, g1, g2, g3, pf, go_sem, Nat.reduceAdd, Nat.reduceSub, Nat.reduceMul, Nat.reduceEqDiff, Nat.reduceLeDiff, Nat.reduceLT, Int.reduceToNat, Int.reduceLE, Int.reduceLT, Int.reduceEq, Int.reduceNe, Int.reduceBEq, Int.reduceBNe, Nat.reduceBEq, Nat.reduceBNe, ↓reduceIte, reduceCtorEq, ↓reduceDIte, W_draw]
        refine W_for (fun j s' => s'.t 1 = .ptr H.length 0 ∧ s'.t 3 = .int .i64 j ∧ s'.H = H ++ [.row [.str op, .int .i64 k, .int .i64 i, .str t, sliceD nl l, .str who, .str name, sliceD m ps]] ∧ ExtT T s'.T ∧ j ≤ ps.length ∧ (ps.take j).all (shortE n) = true) ps.length ⟨0, by simp [upd, argT, extT_self, extT_of]⟩ (fun i s h => h.2.2.2.2.1) ?_ (XL_mono _)
        rintro j ⟨t', B, T'⟩ ⟨r1, r3, rfl, hT, hj, hc⟩
        simp only at r1 r3 hT
        by_cases ha : j < ps.length
        · have d1 : decide ((j : Int) < ps.length) = true := by simpa using ha
          have hx := h6 _ (List.getElem_mem ha)
          have ex : ps[j]? = some ps[j] := by simp [ha]
          have nx := fun hp => all_nx (p := shortE n) ex hc hp
          have no := fun hp => all_no (p := shortE n) ex hp
          generalize ps[j] = x at *
          have ee := isE_erase hx
          obtain ⟨q1, q2, q3, q4⟩ := isE_cells hx
          have px : φshort n [x] = some (.bool (shortE n x)) := by simp only [φshort]; rw [if_pos hx]
          obtain ⟨b, hq⟩ : ∃ z, shortE n x = z := ⟨_, rfl⟩
          simp only [hq] at px nx no
          clear hq
          cases b with
          | true =>
            have nx := nx rfl
            simp (config := { contextual := true, maxSteps := 10000000 }) only [r1, r3, hT.t, leaves_E (Ext.of H _) hT, d1, ex, ee, q1, q2, q3, q4, px, wrap_succ j (by omega), go_sem, Nat.reduceAdd, Nat.reduceSub, Nat.reduceMul, Nat.reduceEqDiff, Nat.reduceLeDiff, Nat.reduceLT, Int.reduceToNat, Int.reduceLE, Int.reduceLT, Int.reduceEq, Int.reduceNe, Int.reduceBEq, Int.reduceBNe, Nat.reduceBEq, Nat.reduceBNe, ↓reduceIte, reduceCtorEq, ↓reduceDIte, W_draw]
            exact ⟨by omega, nx⟩
          | false =>
            have no := no rfl
            simp (config := { contextual := true, maxSteps := 10000000 }) only [r1, r3, hT.t, leaves_E (Ext.of H _) hT, d1, ex, ee, q1, q2, q3, q4, px, no, go_sem, Nat.reduceAdd, Nat.reduceSub, Nat.reduceMul, Nat.reduceEqDiff, Nat.reduceLeDiff, Nat.reduceLT, Int.reduceToNat, Int.reduceLE, Int.reduceLT, Int.reduceEq, Int.reduceNe, Int.reduceBEq, Int.reduceBNe, Nat.reduceBEq, Nat.reduceBNe, ↓reduceIte, reduceCtorEq, ↓reduceDIte, W_draw]
        · have d1 : decide ((j : Int) < ps.length) = false := by simpa using ha
          have : j = ps.length := by omega
          subst this
          rw [List.take_length] at hc
          simp (config := { contextual := true, maxSteps := 10000000 }) only [r1, r3, hT.t, leaves_E (Ext.of H _) hT, d1, hc, go_sem, Nat.reduceAdd, Nat.reduceSub, Nat.reduceMul, Nat.reduceEqDiff, Nat.reduceLeDiff, Nat.reduceLT, Int.reduceToNat, Int.reduceLE, Int.reduceLT, Int.reduceEq, Int.reduceNe, Int.reduceBEq, Int.reduceBNe, Nat.reduceBEq, Nat.reduceBNe, ↓reduceIte, reduceCtorEq, ↓reduceDIte, W_draw]
      · cases h
    · cases h

def fewEx (n : Nat) (e : D) : Bool := decide (sizeE n e 60 ≤ 60) && shortE n e
open Classical in
noncomputable def φfewE (n : Nat) : List D → Option D
  | [e] => if isE n e then some (.bool (fewEx n e)) else none
  | _ => none
theorem ok12 (n : Nat) : OkAt Try.prog 12 (φfewE n) := by
  refine ok_of (l := [(27, φsizeE n), (31, φshort n)]) (.cons (ok27 n) (.cons (ok31 n) .nil)) fn12 fun args r h => ?_
  unfold φfewE at h
  split at h
  · rename_i e
    split at h
    · rename_i he
      injection h with h; subst h
      refine ⟨by simp, by simp [D.cl], fun H T => ?_⟩
      have ee := isE_erase he
      obtain ⟨q1, q2, q3, q4⟩ := isE_cells he
      have p1 : φsizeE n [e, .int .i64 60] = some (.int .i64 (sizeE n e 60)) := by simp only [φsizeE]; rw [if_pos he]
      have p2 : φshort n [e] = some (.bool (shortE n e)) := by simp only [φshort]; rw [if_pos he]
      simp only [fewEx]
      simp (config := { contextual := true, maxSteps := 10000000 }) only [c12, ee, q1, q2, q3, q4, p1, p2, go_sem, Nat.reduceAdd, Nat.reduceSub, Nat.reduceMul, Nat.reduceEqDiff, Nat.reduceLeDiff, Nat.reduceLT, Int.reduceToNat, Int.reduceLE, Int.reduceLT, Int.reduceEq, Int.reduceNe, Int.reduceBEq, Int.reduceBNe, Nat.reduceBEq, Nat.reduceBNe, ↓reduceIte, reduceCtorEq, ↓reduceDIte, W_draw]
      (all_goals ((repeat' (first | apply And.intro | intro _)) <;> (first | rfl | omega | (simp_all; done) | grind)))
    · cases h
  · cases h

/-- Does an expression ask for what nobody has? -/
def isNob (e : D) : Bool := (ewho e == [110, 111, 98, 111, 100, 121]) && (ename e == [65])
def asksE : Nat → D → Bool
  | 0, _ => false
  | n + 1, e => isNob e || (eps e).any (asksE n)
theorem any_yes {p : D → Bool} {l : List D} {j : Nat} {x : D} (hx : l[j]? = some x) (hp : p x = true) : l.any p = true :=
  List.any_eq_true.2 ⟨x, List.mem_of_getElem? hx, hp⟩
theorem any_nx {p : D → Bool} {l : List D} {j : Nat} {x : D} (hx : l[j]? = some x) (h : (l.take j).any p = false) (hp : p x = false) : (l.take (j + 1)).any p = false := by
  rw [List.take_add_one, hx]; simp only [Option.toList, List.any_append, h, List.any_cons, hp, List.any_nil, Bool.or_false]
open Classical in
noncomputable def φasks (n : Nat) : List D → Option D
  | [e] => if isE n e then some (.bool (asksE n e)) else none
  | _ => none
set_option maxHeartbeats 2000000 in
theorem ok20 : ∀ n, OkAt Try.prog 20 (φasks n)
  | 0 => fun args r h => by
    unfold φasks at h
    split at h
    · split at h
      · rename_i h'; exact h'.elim
      · cases h
    · cases h
  | n + 1 => by
    refine ok_of (l := [(20, φasks n)]) (.cons (ok20 n) .nil) fn20 fun args r h => ?_
    unfold φasks at h
    split at h
    · rename_i e
      split at h
      · rename_i he
        injection h with h; subst h
        refine ⟨by simp, by simp [D.cl], fun H T => ?_⟩
        obtain ⟨op, k, i, t, nl, l, who, name, m, ps, rfl, h1, h2, h3, h4, h5, h6, eL, eP⟩ := isE_elim he
        have h6 : ∀ x ∈ ps, isE n x := h6
        simp only [asksE, isNob, eps_mk, ewho_mk, ename_mk]
        cases g1 : (who == [110, 111, 98, 111, 100, 121]) <;> cases g2 : (name == [65]) <;> simp (config := { contextual := true, maxSteps := 10000000 }) only [c20, mkE, eL, eP, g1, g2, go_sem, Nat.reduceAdd, Nat.reduceSub, Nat.reduceMul, Nat.reduceEqDiff, Nat.reduceLeDiff, Nat.reduceLT, Int.reduceToNat, Int.reduceLE, Int.reduceLT, Int.reduceEq, Int.reduceNe, Int.reduceBEq, Int.reduceBNe, Nat.reduceBEq, Nat.reduceBNe, ↓reduceIte, reduceCtorEq, ↓reduceDIte, W_draw]
        all_goals
          refine W_for (fun j s' => s'.t 1 = .ptr H.length 0 ∧ s'.t 3 = .int .i64 j ∧ s'.H = H ++ [.row [.str op, .int .i64 k, .int .i64 i, .str t, sliceD nl l, .str who, .str name, sliceD m ps]] ∧ s'.T = T ∧ j ≤ ps.length ∧ (ps.take j).any (asksE n) = false) ps.length ⟨0, by simp [upd, argT]⟩ (fun i s h => h.2.2.2.2.1) ?_ (XL_mono _)
          rintro j ⟨t', B, T'⟩ ⟨r1, r3, rfl, rfl, hj, hc⟩
          simp only at r1 r3
          by_cases ha : j < ps.length
          · have d1 : decide ((j : Int) < ps.length) = true := by simpa using ha
            have hx := h6 _ (List.getElem_mem ha)
            have ex : ps[j]? = some ps[j] := by simp [ha]
            have nx := fun hp => any_nx (p := asksE n) ex hc hp
            have no := fun hp => any_yes (p := asksE n) ex hp
            generalize ps[j] = x at *
            have ee := isE_erase hx
            obtain ⟨q1, q2, q3, q4⟩ := isE_cells hx
            have px : φasks n [x] = some (.bool (asksE n x)) := by simp only [φasks]; rw [if_pos hx]
            obtain ⟨b, hq⟩ : ∃ z, asksE n x = z := ⟨_, rfl⟩
            simp only [hq] at px nx no
            clear hq
            cases b with
            | false =>
              have nx := nx rfl
              simp (config := { contextual := true, maxSteps := 10000000 }) only [r1, r3, d1, ex, ee, q1, q2, q3, q4, px, wrap_succ j (by omega), go_sem, Nat.reduceAdd, Nat.reduceSub, Nat.reduceMul, Nat.reduceEqDiff, Nat.reduceLeDiff, Nat.reduceLT, Int.reduceToNat, Int.reduceLE, Int.reduceLT, Int.reduceEq, Int.reduceNe, Int.reduceBEq, Int.reduceBNe, Nat.reduceBEq, Nat.reduceBNe, ↓reduceIte, reduceCtorEq, ↓reduceDIte, W_draw]
              exact ⟨by omega, nx⟩
            | true =>
              have no := no rfl
              simp (config := { contextual := true, maxSteps := 10000000 }) only [r1, r3, d1, ex, ee, q1, q2, q3, q4, px, no, go_sem, Nat.reduceAdd, Nat.reduceSub, Nat.reduceMul, Nat.reduceEqDiff, Nat.reduceLeDiff, Nat.reduceLT, Int.reduceToNat, Int.reduceLE, Int.reduceLT, Int.reduceEq, Int.reduceNe, Int.reduceBEq, Int.reduceBNe, Nat.reduceBEq, Nat.reduceBNe, ↓reduceIte, reduceCtorEq, ↓reduceDIte, W_draw]
          · have d1 : decide ((j : Int) < ps.length) = false := by simpa using ha
            have : j = ps.length := by omega
            subst this
            rw [List.take_length] at hc
            simp (config := { contextual := true, maxSteps := 10000000 }) only [r1, r3, d1, hc, go_sem, Nat.reduceAdd, Nat.reduceSub, Nat.reduceMul, Nat.reduceEqDiff, Nat.reduceLeDiff, Nat.reduceLT, Int.reduceToNat, Int.reduceLE, Int.reduceLT, Int.reduceEq, Int.reduceNe, Int.reduceBEq, Int.reduceBNe, Nat.reduceBEq, Nat.reduceBNe, ↓reduceIte, reduceCtorEq, ↓reduceDIte, W_draw]
      · cases h
    · cases h
end GP
