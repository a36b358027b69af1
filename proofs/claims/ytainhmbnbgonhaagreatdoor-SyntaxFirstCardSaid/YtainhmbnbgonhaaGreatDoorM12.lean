import Derived.Test.YtainhmbnbgonhaaGreatDoorM11
set_option linter.unusedSimpArgs false
namespace GP
open Go Go.Proofs
set_option maxRecDepth 100000
theorem mxd_congr {f g : D → Nat} : ∀ {l : List D}, (∀ x ∈ l, f x = g x) → mxd f l = mxd g l := by
  have key : ∀ (l : List D) (a : Nat), (∀ x ∈ l, f x = g x) → l.foldl (fun a x => max a (f x)) a = l.foldl (fun a x => max a (g x)) a := by
    intro l
    induction l with
    | nil => intro a _; rfl
    | cons x l ih =>
      intro a h
      simp only [List.foldl_cons, h x (by simp)]
      exact ih _ fun y hy => h y (by simp [hy])
  intro l h
  exact key l 0 h
theorem isE_eps {n : Nat} {e : D} (h : isE (n + 1) e) : ∀ x ∈ eps e, isE n x := by
  obtain ⟨op, k, i, t, nl, l, who, name, m, ps, rfl, _, _, _, _, _, h6, _⟩ := isE_elim h
  rw [eps_mk]; exact h6
theorem dpt_S : ∀ (n : Nat) (e : D), isE n e → dpt (n + 1) e = dpt n e
  | 0, _, h => h.elim
  | n + 1, e, h => by
    show mxd (dpt (n + 1)) (eps e) + 1 = mxd (dpt n) (eps e) + 1
    rw [mxd_congr fun x hx => dpt_S n x (isE_eps h x hx)]
theorem dpt_fuel {n m : Nat} {e : D} (h : isE n e) (hm : n ≤ m) : dpt m e = dpt n e := by
  induction hm with
  | refl => rfl
  | step hm ih => rw [dpt_S _ e (isE_le hm h), ih]
def awakeS : List UInt8 := [49, 32, 43, 32, 50, 32, 42, 32, 51]
def awakeT : List D := [mkT 2 [] 1, mkT 5 [43] 0, mkT 2 [] 2, mkT 5 [42] 0, mkT 2 [] 3]
theorem awake_lex : lexP awakeS = (awakeT, 0, 0) := by kernel_rfl
def awakeE : D := twoD [43] (valE (num 1)) (twoD [42] (valE (num 2)) (valE (num 3)))
theorem awake_lv : pLv 10000 .expr awakeT (0, 0) = some (awakeE, (5, 0)) := by kernel_rfl
theorem awakeE_isE : isE 3 awakeE :=
  two_isE (by decide) (isE_le (by omega) (val_isE (num_isVr (by decide)))) (two_isE (by decide) (val_isE (num_isVr (by decide))) (val_isE (num_isVr (by decide))))
theorem awake_parse : parseE awakeT = (awakeE, 0, 0) := by
  have h1 : dpt nodeB awakeE = 3 := by
    rw [dpt_fuel awakeE_isE (by have := lvB_1 9999; unfold nodeB; show 3 ≤ lvB 9999 + 9999 + 3; omega)]
    decide
  unfold parseE
  rw [if_neg (by decide), awake_lv]
  simp only [h1]
  rfl
def φtrueE : List D → Option D
  | [] => some (.bool true)
  | _ => none
theorem ok18 : OkAt Tryz.prog 18 φtrueE := by
  refine ok_of (l := [(40, φlex), (19, φparse)]) (.cons ok40 (.cons ok19 .nil)) fn18 fun args r h => ?_
  unfold φtrueE at h
  split at h
  · injection h with h; subst h
    refine ⟨by simp, by simp [D.cl], fun H T => ?_⟩
    have p1 : φlex [.str awakeS] = some (.tup [.sl none awakeT, .int .i64 0, .int .i64 0]) := by
      simp only [φlex]
      rw [if_pos (by decide), awake_lex]; rfl
    have p2 : φparse [.sl none awakeT] = some (.tup [awakeE, .int .i64 0, .int .i64 0]) := by
      simp only [φparse]
      rw [if_pos (by decide)]
      show some (D.tup [(parseE awakeT).1, _, _]) = _
      rw [awake_parse]; rfl
    simp only [awakeS, awakeT, mkT, awakeE, twoD, valE, num, D.cells, List.cons_append, List.nil_append] at p1 p2
    simp (config := { contextual := true, maxSteps := 10000000 }) only [c18, p1, p2, go_sem, Nat.reduceAdd, Nat.reduceSub, Nat.reduceMul, Nat.reduceEqDiff, Nat.reduceLeDiff, Nat.reduceLT, Int.reduceToNat, Int.reduceLE, Int.reduceLT, Int.reduceEq, Int.reduceNe, Int.reduceBEq, Int.reduceBNe, Nat.reduceBEq, Nat.reduceBNe, ↓reduceIte, reduceCtorEq, ↓reduceDIte, W_draw]
  · cases h
end GP
set_option linter.unusedSimpArgs false
namespace GP
open Go Go.Proofs
set_option maxRecDepth 100000
def pkB (x : D) : Bool := ((tk x == 1) && (ts x != wTrue) && (ts x != wFalse)) || ((tk x == 5) && ((ts x == [46]) || (ts x == [43]) || (ts x == [42]) || (ts x == [60]) || (ts x == [91])))
def cntP (l : List D) : Nat := (l.filter pkB).length
end GP
set_option linter.unusedSimpArgs false
namespace GP
open Go Go.Proofs
set_option maxRecDepth 100000
def isTr (x : D) : Prop := ∃ n, isE n x
theorem sub_size {op : List UInt8} {k i : Int} {s : List UInt8} {nl : Bool} {l : List D} {who name : List UInt8} {m : Bool} {ps : List D} {y : D} (h : y ∈ ps) : sizeOf y < sizeOf (mkE op k i s nl l who name m ps) := by
  have h1 := List.sizeOf_lt_of_mem h
  have h2 : sliceD m ps = .sl none ps := by
    rcases sliceD_cases m ps with ⟨_, e⟩ | e
    · subst e; cases h
    · exact e
  simp only [mkE, h2, D.agg.sizeOf_spec, List.cons.sizeOf_spec, D.sl.sizeOf_spec]
  omega
theorem isE_can : ∀ (n : Nat) (x : D), isE n x → isE (sizeOf x) x
  | 0, _, h => h.elim
  | n + 1, x, ⟨op, k, i, s, nl, l, who, name, m, ps, e, h1, h2, h3, h4, h5, h6⟩ => by
    obtain ⟨z, hz⟩ : ∃ z, sizeOf x = z + 1 := ⟨sizeOf x - 1, by subst e; simp only [mkE, D.agg.sizeOf_spec]; omega⟩
    rw [hz]
    refine ⟨op, k, i, s, nl, l, who, name, m, ps, e, h1, h2, h3, h4, h5, fun y hy => ?_⟩
    have := sub_size (op := op) (k := k) (i := i) (s := s) (nl := nl) (l := l) (who := who) (name := name) (m := m) hy
    rw [← e, hz] at this
    exact isE_le (by omega) (isE_can n y (h6 y hy))
theorem isTr.can {x : D} (h : isTr x) : isE (sizeOf x) x := by obtain ⟨n, hn⟩ := h; exact isE_can n x hn
theorem all_congr' {f g : D → Bool} {l : List D} (h : ∀ x ∈ l, f x = g x) : l.all f = l.all g := by
  induction l with
  | nil => rfl
  | cons x l ih => simp only [List.all_cons, h x (by simp), ih fun y hy => h y (by simp [hy])]
theorem fmR_S : ∀ (n : Nat) (e : D), isE n e → fmR (n + 1) e = fmR n e
  | 0, _, h => h.elim
  | n + 1, e, h => by
    have := all_congr' fun x hx => fmR_S n x (isE_eps h x hx)
    show (if _ then false else if !((eps e).all (fmR (n + 1))) then false else fmTop e) = (if _ then false else if !((eps e).all (fmR n)) then false else fmTop e)
    simp only [this]
theorem fmR_fuel {n m : Nat} {e : D} (h : isE n e) (hm : n ≤ m) : fmR m e = fmR n e := by
  induction hm with
  | refl => rfl
  | step hm ih => rw [fmR_S _ e (isE_le hm h), ih]
noncomputable def fmC (x : D) : Bool := fmR (sizeOf x) x
theorem fmC_eq {n : Nat} {e : D} (h : isE n e) : fmR n e = fmC e := by
  unfold fmC
  rw [← fmR_fuel h (Nat.le_max_left n (sizeOf e)), fmR_fuel (isE_can n e h) (Nat.le_max_right n (sizeOf e))]
structure GoodE (e : D) : Prop where
  t : isTr e
  f : fmC e = true
theorem GoodE.fm {n : Nat} {e : D} (h : GoodE e) (hn : isE n e) : fmR n e = true := by rw [fmC_eq hn]; exact h.f
theorem goodE_of {n : Nat} {e : D} (hn : isE n e) (h : fmR n e = true) : GoodE e := ⟨⟨n, hn⟩, by rw [← fmC_eq hn]; exact h⟩
theorem isE_pos {n : Nat} {e : D} (h : isE n e) : ∃ m, n = m + 1 := by cases n with
  | zero => exact h.elim
  | succ n => exact ⟨n, rfl⟩
theorem GoodE.parts {e : D} (h : GoodE e) : 0 ≤ stI (eop e) ∧ ((eps e).length : Int) = arN (eop e) ∧ (∀ x ∈ eps e, GoodE x) ∧ fmTop e = true := by
  obtain ⟨⟨n, hn⟩, hf⟩ := h
  obtain ⟨n, rfl⟩ := isE_pos hn
  rw [← fmC_eq hn] at hf
  obtain ⟨h1, h2, h3, h4⟩ := fmR_s hf
  exact ⟨h1, h2, fun x hx => goodE_of (isE_eps hn x hx) (h3 x hx), h4⟩
theorem goodE_mk {e : D} (ht : isTr e) (h1 : 0 ≤ stI (eop e)) (h2 : ((eps e).length : Int) = arN (eop e)) (h3 : ∀ x ∈ eps e, GoodE x) (h4 : fmTop e = true) : GoodE e := by
  obtain ⟨n, hn⟩ := ht
  obtain ⟨n, rfl⟩ := isE_pos hn
  refine goodE_of hn ?_
  have d1 : decide (stI (eop e) < 0) = false := by simp only [decide_eq_false_iff_not]; omega
  have d2 : (((eps e).length : Int) != arN (eop e)) = false := by simp [h2]
  have d3 : (eps e).all (fmR n) = true := List.all_eq_true.2 fun x hx => (h3 x hx).fm (isE_eps hn x hx)
  simp only [fmR, d1, d2, d3, Bool.or_self, Bool.false_eq_true, if_false, Bool.not_true]
  exact h4
theorem sub0_mem {e : D} (h : 0 < (eps e).length) : sub0 e ∈ eps e := by
  unfold sub0
  rw [List.getD_eq_getElem?_getD, List.getElem?_eq_getElem h]
  exact List.getElem_mem h
theorem sub1_mem {e : D} (h : 1 < (eps e).length) : sub1 e ∈ eps e := by
  unfold sub1
  rw [List.getD_eq_getElem?_getD, List.getElem?_eq_getElem h]
  exact List.getElem_mem h
theorem ar1 {op : List UInt8} (h : (op == sSize) = true ∨ (op == sNot) = true ∨ (op == sNeg) = true) : arN op = 1 := by
  rcases h with h | h | h <;> (rw [eq_of_beq' h]; decide)
theorem tokD_S : ∀ (n : Nat) (full : Bool) (e : D), isE n e → GoodE e → tokD (n + 1) full e = tokD n full e
  | 0, _, _, h, _ => h.elim
  | n + 1, full, e, h, hg => by
    obtain ⟨f1, f2, f3, f4⟩ := hg.parts
    have k0 : 0 < (eps e).length → tokD (n + 1) full (sub0 e) = tokD n full (sub0 e) := fun hl => tokD_S n full _ (isE_eps h _ (sub0_mem hl)) (f3 _ (sub0_mem hl))
    have k1 : 1 < (eps e).length → tokD (n + 1) full (sub1 e) = tokD n full (sub1 e) := fun hl => tokD_S n full _ (isE_eps h _ (sub1_mem hl)) (f3 _ (sub1_mem hl))
    rcases tf (eop e == sVal) with g1 | g1
    · rw [tokD_val g1, tokD_val g1]
    rcases tf (eop e == sNow) with g2 | g2
    · rw [tokD_now g1 g2, tokD_now g1 g2]
    rcases tf (eop e == sAttr) with g3 | g3
    · rw [tokD_attr g1 g2 g3, tokD_attr g1 g2 g3]
    rcases tf (eop e == sHas) with g4 | g4
    · rw [tokD_has g1 g2 g3 g4, tokD_has g1 g2 g3 g4]
    rcases tf (eop e == sRole) with g5 | g5
    · rw [tokD_role g1 g2 g3 g4 g5, tokD_role g1 g2 g3 g4 g5]
    rcases tf (eop e == sSize) with g6 | g6
    · have := ar1 (.inl g6)
      rw [tokD_size g1 g2 g3 g4 g5 g6, tokD_size g1 g2 g3 g4 g5 g6, k0 (by omega)]
    rcases tf (eop e == sNot) with g7 | g7
    · have := ar1 (.inr (.inl g7))
      rw [tokD_not g1 g2 g3 g4 g5 g6 g7, tokD_not g1 g2 g3 g4 g5 g6 g7, k0 (by omega)]
    rcases tf (eop e == sNeg) with g8 | g8
    · have := ar1 (.inr (.inr g8))
      rw [tokD_neg g1 g2 g3 g4 g5 g6 g7 g8, tokD_neg g1 g2 g3 g4 g5 g6 g7 g8, k0 (by omega)]
    · have := (two_op f1 g1 g2 g3 g4 g5 g6 g7 g8).2
      rw [tokD_two g1 g2 g3 g4 g5 g6 g7 g8, tokD_two g1 g2 g3 g4 g5 g6 g7 g8, k0 (by omega), k1 (by omega)]
theorem tokD_fuel {n m : Nat} {full : Bool} {e : D} (h : isE n e) (hg : GoodE e) (hm : n ≤ m) : tokD m full e = tokD n full e := by
  induction hm with
  | refl => rfl
  | step hm ih => rw [tokD_S _ full e (isE_le hm h) hg, ih]
noncomputable def tkC (full : Bool) (x : D) : List D := tokD (sizeOf x) full x
theorem tkC_eq {n : Nat} {full : Bool} {e : D} (h : isE n e) (hg : GoodE e) : tokD n full e = tkC full e := by
  unfold tkC
  rw [← tokD_fuel h hg (Nat.le_max_left n (sizeOf e)), tokD_fuel (isE_can n e h) hg (Nat.le_max_right n (sizeOf e))]
section
variable {full : Bool} {e : D}
theorem tkC_S (h : GoodE e) : ∃ n, isE (n + 1) e ∧ tkC full e = tokD (n + 1) full e := by
  obtain ⟨n, hn⟩ := isE_pos h.t.can
  refine ⟨n, hn ▸ h.t.can, ?_⟩
  unfold tkC; rw [hn]
theorem GoodE.one (h : GoodE e) (g : (eop e == sSize) = true ∨ (eop e == sNot) = true ∨ (eop e == sNeg) = true) : GoodE (sub0 e) ∧ ∃ x, eps e = [x] ∧ sub0 e = x := by
  obtain ⟨f1, f2, f3, f4⟩ := h.parts
  rw [ar1 g] at f2
  refine ⟨f3 _ (sub0_mem (by omega)), ?_⟩
  match hx : eps e, f2 with
  | [x], _ => exact ⟨x, rfl, by unfold sub0; rw [hx]; rfl⟩
  | [], h => simp at h
  | _ :: _ :: _, h => simp at h; omega
theorem tk_sub {n : Nat} (h : isE (n + 1) e) {x : D} (hx : x ∈ eps e) (hg : GoodE x) : tokD n full x = tkC full x := tkC_eq (isE_eps h x hx) hg
theorem tk_not (h : GoodE e) (g7 : (eop e == sNot) = true) : tkC full e = mkT 1 sNot 0 :: parW full (stI (eop (sub0 e))) 2 (tkC full (sub0 e)) := by
  obtain ⟨n, h1, h2⟩ := tkC_S (full := full) h
  obtain ⟨hg, x, hx, hs⟩ := h.one (.inr (.inl g7))
  rw [h2, tokD_not (by rw [eq_of_beq' g7]; decide) (by rw [eq_of_beq' g7]; decide) (by rw [eq_of_beq' g7]; decide) (by rw [eq_of_beq' g7]; decide) (by rw [eq_of_beq' g7]; decide) (by rw [eq_of_beq' g7]; decide) g7, tk_sub h1 (by rw [hx, hs]; simp) hg]
theorem tk_neg (h : GoodE e) (g8 : (eop e == sNeg) = true) : tkC full e = mkT 5 [45] 0 :: parW full (stI (eop (sub0 e))) 6 (tkC full (sub0 e)) := by
  obtain ⟨n, h1, h2⟩ := tkC_S (full := full) h
  obtain ⟨hg, x, hx, hs⟩ := h.one (.inr (.inr g8))
  rw [h2, tokD_neg (by rw [eq_of_beq' g8]; decide) (by rw [eq_of_beq' g8]; decide) (by rw [eq_of_beq' g8]; decide) (by rw [eq_of_beq' g8]; decide) (by rw [eq_of_beq' g8]; decide) (by rw [eq_of_beq' g8]; decide) (by rw [eq_of_beq' g8]; decide) g8, tk_sub h1 (by rw [hx, hs]; simp) hg]
def isOp2 (op : List UInt8) : Prop := stI op = 0 ∨ stI op = 1 ∨ stI op = 3 ∨ stI op = 4 ∨ stI op = 5
theorem op2_not {op : List UInt8} (h : isOp2 op) : (op == sVal) = false ∧ (op == sNow) = false ∧ (op == sAttr) = false ∧ (op == sHas) = false ∧ (op == sRole) = false ∧ (op == sSize) = false ∧ (op == sNot) = false ∧ (op == sNeg) = false := by
  have key : ∀ w : List UInt8, (stI w = 2 ∨ stI w = 6 ∨ stI w = 7) → (op == w) = false := fun w hw => by
    cases hx : op == w with
    | false => rfl
    | true => rw [eq_of_beq' hx] at h; unfold isOp2 at h; omega
  exact ⟨key _ (by decide), key _ (by decide), key _ (by decide), key _ (by decide), key _ (by decide), key _ (by decide), key _ (by decide), key _ (by decide)⟩
theorem op2_ar {op : List UInt8} (h : isOp2 op) : arN op = 2 := by
  have hA := arN_of (op := op)
  rcases h with h | h | h | h | h
  · exact hA.1 h
  · exact hA.2.1 h
  · exact hA.2.2.1 h
  · exact hA.2.2.2.1 h
  · exact hA.2.2.2.2.1 h
theorem GoodE.two (h : GoodE e) (g : isOp2 (eop e)) : GoodE (sub0 e) ∧ GoodE (sub1 e) ∧ sub0 e ∈ eps e ∧ sub1 e ∈ eps e ∧ eps e = [sub0 e, sub1 e] := by
  obtain ⟨f1, f2, f3, f4⟩ := h.parts
  rw [op2_ar g] at f2
  refine ⟨f3 _ (sub0_mem (by omega)), f3 _ (sub1_mem (by omega)), sub0_mem (by omega), sub1_mem (by omega), ?_⟩
  unfold sub0 sub1
  match eps e, f2 with
  | [x, y], _ => rfl
  | [], h => simp at h
  | [_], h => simp at h
  | _ :: _ :: _ :: _, h => simp at h; omega
theorem tk_two (h : GoodE e) (g : isOp2 (eop e)) : tkC full e = parW full (stI (eop (sub0 e))) (lstS (eop e)) (tkC full (sub0 e)) ++ (opTok (eop e) :: parW full (stI (eop (sub1 e))) (stI (eop e) + 1) (tkC full (sub1 e))) := by
  obtain ⟨n, h1, h2⟩ := tkC_S (full := full) h
  obtain ⟨k0, k1, m0, m1, _⟩ := h.two g
  obtain ⟨g1, g2, g3, g4, g5, g6, g7, g8⟩ := op2_not g
  rw [h2, tokD_two g1 g2 g3 g4 g5 g6 g7 g8, tk_sub h1 m0 k0, tk_sub h1 m1 k1]
end
theorem GoodE.op {e : D} (h : GoodE e) : (eop e == sVal) = true ∨ (eop e == sNow) = true ∨ (eop e == sAttr) = true ∨ (eop e == sHas) = true ∨ (eop e == sRole) = true ∨ (eop e == sSize) = true ∨ (eop e == sNot) = true ∨ (eop e == sNeg) = true ∨ isOp2 (eop e) := by
  obtain ⟨f1, _⟩ := h.parts
  cases g1 : eop e == sVal with | true => simp | false =>
  cases g2 : eop e == sNow with | true => simp | false =>
  cases g3 : eop e == sAttr with | true => simp | false =>
  cases g4 : eop e == sHas with | true => simp | false =>
  cases g5 : eop e == sRole with | true => simp | false =>
  cases g6 : eop e == sSize with | true => simp | false =>
  cases g7 : eop e == sNot with | true => simp | false =>
  cases g8 : eop e == sNeg with | true => simp | false =>
  have := (two_op f1 g1 g2 g3 g4 g5 g6 g7 g8).1
  simp only [Bool.false_eq_true, false_or]
  exact this
end GP
