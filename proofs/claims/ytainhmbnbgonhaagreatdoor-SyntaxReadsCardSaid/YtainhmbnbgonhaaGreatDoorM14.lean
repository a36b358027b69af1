import Derived.Test.YtainhmbnbgonhaaGreatDoorM13
set_option linter.unusedSimpArgs false
namespace GP
open Go Go.Proofs
set_option maxRecDepth 100000
def isTr (x : D) : Prop := ∃ n, isE n x
theorem sub_size {op : List UInt8} {k i : Int} {s : List UInt8} {nl : Bool} {l : List D} {who name : List UInt8} {m : Bool} {ps : List D} {y : D} (h : y ∈ ps) : sizeOf y < sizeOf (mkE op k i s nl l who name m ps) := by
  have h1 := List.sizeOf_lt_of_mem h
  have h2 : sliceD m ps = .sl none ps := by
    rcases sliceD_cases m ps with ⟨_, e⟩ | e
    · subst e; cases h
    · exact e
  simp only [mkE, h2, D.agg.sizeOf_spec, List.cons.sizeOf_spec, D.sl.sizeOf_spec]
  omega
theorem isE_can : ∀ (n : Nat) (x : D), isE n x → isE (sizeOf x) x
  | 0, _, h => h.elim
  | n + 1, x, ⟨op, k, i, s, nl, l, who, name, m, ps, e, h1, h2, h3, h4, h5, h6⟩ => by
    obtain ⟨z, hz⟩ : ∃ z, sizeOf x = z + 1 := ⟨sizeOf x - 1, by subst e; simp only [mkE, D.agg.sizeOf_spec]; omega⟩
    rw [hz]
    refine ⟨op, k, i, s, nl, l, who, name, m, ps, e, h1, h2, h3, h4, h5, fun y hy => ?_⟩
    have := sub_size (op := op) (k := k) (i := i) (s := s) (nl := nl) (l := l) (who := who) (name := name) (m := m) hy
    rw [← e, hz] at this
    exact isE_le (by omega) (isE_can n y (h6 y hy))
theorem isTr.can {x : D} (h : isTr x) : isE (sizeOf x) x := by obtain ⟨n, hn⟩ := h; exact isE_can n x hn
theorem all_congr' {f g : D → Bool} {l : List D} (h : ∀ x ∈ l, f x = g x) : l.all f = l.all g := by
  induction l with
  | nil => rfl
  | cons x l ih => simp only [List.all_cons, h x (by simp), ih fun y hy => h y (by simp [hy])]
theorem fmR_S : ∀ (n : Nat) (e : D), isE n e → fmR (n + 1) e = fmR n e
  | 0, _, h => h.elim
  | n + 1, e, h => by
    have := all_congr' fun x hx => fmR_S n x (isE_eps h x hx)
    show (if _ then false else if !((eps e).all (fmR (n + 1))) then false else fmTop e) = (if _ then false else if !((eps e).all (fmR n)) then false else fmTop e)
    simp only [this]
theorem fmR_fuel {n m : Nat} {e : D} (h : isE n e) (hm : n ≤ m) : fmR m e = fmR n e := by
  induction hm with
  | refl => rfl
  | step hm ih => rw [fmR_S _ e (isE_le hm h), ih]
noncomputable def fmC (x : D) : Bool := fmR (sizeOf x) x
theorem fmC_eq {n : Nat} {e : D} (h : isE n e) : fmR n e = fmC e := by
  unfold fmC
  rw [← fmR_fuel h (Nat.le_max_left n (sizeOf e)), fmR_fuel (isE_can n e h) (Nat.le_max_right n (sizeOf e))]
structure GoodE (e : D) : Prop where
  t : isTr e
  f : fmC e = true
theorem GoodE.fm {n : Nat} {e : D} (h : GoodE e) (hn : isE n e) : fmR n e = true := by rw [fmC_eq hn]; exact h.f
theorem goodE_of {n : Nat} {e : D} (hn : isE n e) (h : fmR n e = true) : GoodE e := ⟨⟨n, hn⟩, by rw [← fmC_eq hn]; exact h⟩
theorem isE_pos {n : Nat} {e : D} (h : isE n e) : ∃ m, n = m + 1 := by cases n with
  | zero => exact h.elim
  | succ n => exact ⟨n, rfl⟩
theorem GoodE.parts {e : D} (h : GoodE e) : 0 ≤ stI (eop e) ∧ ((eps e).length : Int) = arN (eop e) ∧ (∀ x ∈ eps e, GoodE x) ∧ fmTop e = true := by
  obtain ⟨⟨n, hn⟩, hf⟩ := h
  obtain ⟨n, rfl⟩ := isE_pos hn
  rw [← fmC_eq hn] at hf
  obtain ⟨h1, h2, h3, h4⟩ := fmR_s hf
  exact ⟨h1, h2, fun x hx => goodE_of (isE_eps hn x hx) (h3 x hx), h4⟩
theorem goodE_mk {e : D} (ht : isTr e) (h1 : 0 ≤ stI (eop e)) (h2 : ((eps e).length : Int) = arN (eop e)) (h3 : ∀ x ∈ eps e, GoodE x) (h4 : fmTop e = true) : GoodE e := by
  obtain ⟨n, hn⟩ := ht
  obtain ⟨n, rfl⟩ := isE_pos hn
  refine goodE_of hn ?_
  have d1 : decide (stI (eop e) < 0) = false := by simp only [decide_eq_false_iff_not]; omega
  have d2 : (((eps e).length : Int) != arN (eop e)) = false := by simp [h2]
  have d3 : (eps e).all (fmR n) = true := List.all_eq_true.2 fun x hx => (h3 x hx).fm (isE_eps hn x hx)
  simp only [fmR, d1, d2, d3, Bool.or_self, Bool.false_eq_true, if_false, Bool.not_true]
  exact h4
theorem sub0_mem {e : D} (h : 0 < (eps e).length) : sub0 e ∈ eps e := by
  unfold sub0
  rw [List.getD_eq_getElem?_getD, List.getElem?_eq_getElem h]
  exact List.getElem_mem h
theorem sub1_mem {e : D} (h : 1 < (eps e).length) : sub1 e ∈ eps e := by
  unfold sub1
  rw [List.getD_eq_getElem?_getD, List.getElem?_eq_getElem h]
  exact List.getElem_mem h
theorem ar1 {op : List UInt8} (h : (op == sSize) = true ∨ (op == sNot) = true ∨ (op == sNeg) = true) : arN op = 1 := by
  rcases h with h | h | h <;> (rw [eq_of_beq' h]; decide)
theorem tokD_S : ∀ (n : Nat) (full : Bool) (e : D), isE n e → GoodE e → tokD (n + 1) full e = tokD n full e
  | 0, _, _, h, _ => h.elim
  | n + 1, full, e, h, hg => by
    obtain ⟨f1, f2, f3, f4⟩ := hg.parts
    have k0 : 0 < (eps e).length → tokD (n + 1) full (sub0 e) = tokD n full (sub0 e) := fun hl => tokD_S n full _ (isE_eps h _ (sub0_mem hl)) (f3 _ (sub0_mem hl))
    have k1 : 1 < (eps e).length → tokD (n + 1) full (sub1 e) = tokD n full (sub1 e) := fun hl => tokD_S n full _ (isE_eps h _ (sub1_mem hl)) (f3 _ (sub1_mem hl))
    rcases tf (eop e == sVal) with g1 | g1
    · rw [tokD_val g1, tokD_val g1]
    rcases tf (eop e == sNow) with g2 | g2
    · rw [tokD_now g1 g2, tokD_now g1 g2]
    rcases tf (eop e == sAttr) with g3 | g3
    · rw [tokD_attr g1 g2 g3, tokD_attr g1 g2 g3]
    rcases tf (eop e == sHas) with g4 | g4
    · rw [tokD_has g1 g2 g3 g4, tokD_has g1 g2 g3 g4]
    rcases tf (eop e == sRole) with g5 | g5
    · rw [tokD_role g1 g2 g3 g4 g5, tokD_role g1 g2 g3 g4 g5]
    rcases tf (eop e == sSize) with g6 | g6
    · have := ar1 (.inl g6)
      rw [tokD_size g1 g2 g3 g4 g5 g6, tokD_size g1 g2 g3 g4 g5 g6, k0 (by omega)]
    rcases tf (eop e == sNot) with g7 | g7
    · have := ar1 (.inr (.inl g7))
      rw [tokD_not g1 g2 g3 g4 g5 g6 g7, tokD_not g1 g2 g3 g4 g5 g6 g7, k0 (by omega)]
    rcases tf (eop e == sNeg) with g8 | g8
    · have := ar1 (.inr (.inr g8))
      rw [tokD_neg g1 g2 g3 g4 g5 g6 g7 g8, tokD_neg g1 g2 g3 g4 g5 g6 g7 g8, k0 (by omega)]
    · have := (two_op f1 g1 g2 g3 g4 g5 g6 g7 g8).2
      rw [tokD_two g1 g2 g3 g4 g5 g6 g7 g8, tokD_two g1 g2 g3 g4 g5 g6 g7 g8, k0 (by omega), k1 (by omega)]
theorem tokD_fuel {n m : Nat} {full : Bool} {e : D} (h : isE n e) (hg : GoodE e) (hm : n ≤ m) : tokD m full e = tokD n full e := by
  induction hm with
  | refl => rfl
  | step hm ih => rw [tokD_S _ full e (isE_le hm h) hg, ih]
noncomputable def tkC (full : Bool) (x : D) : List D := tokD (sizeOf x) full x
theorem tkC_eq {n : Nat} {full : Bool} {e : D} (h : isE n e) (hg : GoodE e) : tokD n full e = tkC full e := by
  unfold tkC
  rw [← tokD_fuel h hg (Nat.le_max_left n (sizeOf e)), tokD_fuel (isE_can n e h) hg (Nat.le_max_right n (sizeOf e))]
section
variable {full : Bool} {e : D}
theorem tkC_S (h : GoodE e) : ∃ n, isE (n + 1) e ∧ tkC full e = tokD (n + 1) full e := by
  obtain ⟨n, hn⟩ := isE_pos h.t.can
  refine ⟨n, hn ▸ h.t.can, ?_⟩
  unfold tkC; rw [hn]
theorem tk_val (h : GoodE e) (g1 : (eop e == sVal) = true) : tkC full e = litT (eV e) := by
  obtain ⟨n, _, h2⟩ := tkC_S (full := full) h
  rw [h2, tokD_val g1]
theorem tk_now (h : GoodE e) (g2 : (eop e == sNow) = true) : tkC full e = [mkT 1 sNow 0] := by
  obtain ⟨n, _, h2⟩ := tkC_S (full := full) h
  rw [h2, tokD_now (by rw [eq_of_beq' g2]; decide) g2]
theorem tk_attr (h : GoodE e) (g3 : (eop e == sAttr) = true) : tkC full e = [mkT 1 (ewho e) 0, mkT 5 [46] 0, mkT 1 (ename e) 0] := by
  obtain ⟨n, _, h2⟩ := tkC_S (full := full) h
  rw [h2, tokD_attr (by rw [eq_of_beq' g3]; decide) (by rw [eq_of_beq' g3]; decide) g3]
theorem tk_has (h : GoodE e) (g4 : (eop e == sHas) = true) : tkC full e = [mkT 1 sHas 0, tP, mkT 1 (ewho e) 0, mkT 5 [46] 0, mkT 1 (ename e) 0, tQ] := by
  obtain ⟨n, _, h2⟩ := tkC_S (full := full) h
  rw [h2, tokD_has (by rw [eq_of_beq' g4]; decide) (by rw [eq_of_beq' g4]; decide) (by rw [eq_of_beq' g4]; decide) g4]
theorem tk_role (h : GoodE e) (g5 : (eop e == sRole) = true) : tkC full e = [mkT 1 sRole 0, tP, mkT 3 (ename e) 0, tQ] := by
  obtain ⟨n, _, h2⟩ := tkC_S (full := full) h
  rw [h2, tokD_role (by rw [eq_of_beq' g5]; decide) (by rw [eq_of_beq' g5]; decide) (by rw [eq_of_beq' g5]; decide) (by rw [eq_of_beq' g5]; decide) g5]
theorem GoodE.one (h : GoodE e) (g : (eop e == sSize) = true ∨ (eop e == sNot) = true ∨ (eop e == sNeg) = true) : GoodE (sub0 e) ∧ ∃ x, eps e = [x] ∧ sub0 e = x := by
  obtain ⟨f1, f2, f3, f4⟩ := h.parts
  rw [ar1 g] at f2
  refine ⟨f3 _ (sub0_mem (by omega)), ?_⟩
  match hx : eps e, f2 with
  | [x], _ => exact ⟨x, rfl, by unfold sub0; rw [hx]; rfl⟩
  | [], h => simp at h
  | _ :: _ :: _, h => simp at h; omega
theorem tk_sub {n : Nat} (h : isE (n + 1) e) {x : D} (hx : x ∈ eps e) (hg : GoodE x) : tokD n full x = tkC full x := tkC_eq (isE_eps h x hx) hg
theorem tk_size (h : GoodE e) (g6 : (eop e == sSize) = true) : tkC full e = mkT 1 sSize 0 :: tP :: (tkC full (sub0 e) ++ [tQ]) := by
  obtain ⟨n, h1, h2⟩ := tkC_S (full := full) h
  obtain ⟨hg, x, hx, hs⟩ := h.one (.inl g6)
  rw [h2, tokD_size (by rw [eq_of_beq' g6]; decide) (by rw [eq_of_beq' g6]; decide) (by rw [eq_of_beq' g6]; decide) (by rw [eq_of_beq' g6]; decide) (by rw [eq_of_beq' g6]; decide) g6, tk_sub h1 (by rw [hx, hs]; simp) hg]
theorem tk_not (h : GoodE e) (g7 : (eop e == sNot) = true) : tkC full e = mkT 1 sNot 0 :: parW full (stI (eop (sub0 e))) 2 (tkC full (sub0 e)) := by
  obtain ⟨n, h1, h2⟩ := tkC_S (full := full) h
  obtain ⟨hg, x, hx, hs⟩ := h.one (.inr (.inl g7))
  rw [h2, tokD_not (by rw [eq_of_beq' g7]; decide) (by rw [eq_of_beq' g7]; decide) (by rw [eq_of_beq' g7]; decide) (by rw [eq_of_beq' g7]; decide) (by rw [eq_of_beq' g7]; decide) (by rw [eq_of_beq' g7]; decide) g7, tk_sub h1 (by rw [hx, hs]; simp) hg]
theorem tk_neg (h : GoodE e) (g8 : (eop e == sNeg) = true) : tkC full e = mkT 5 [45] 0 :: parW full (stI (eop (sub0 e))) 6 (tkC full (sub0 e)) := by
  obtain ⟨n, h1, h2⟩ := tkC_S (full := full) h
  obtain ⟨hg, x, hx, hs⟩ := h.one (.inr (.inr g8))
  rw [h2, tokD_neg (by rw [eq_of_beq' g8]; decide) (by rw [eq_of_beq' g8]; decide) (by rw [eq_of_beq' g8]; decide) (by rw [eq_of_beq' g8]; decide) (by rw [eq_of_beq' g8]; decide) (by rw [eq_of_beq' g8]; decide) (by rw [eq_of_beq' g8]; decide) g8, tk_sub h1 (by rw [hx, hs]; simp) hg]
def isOp2 (op : List UInt8) : Prop := stI op = 0 ∨ stI op = 1 ∨ stI op = 3 ∨ stI op = 4 ∨ stI op = 5
theorem op2_not {op : List UInt8} (h : isOp2 op) : (op == sVal) = false ∧ (op == sNow) = false ∧ (op == sAttr) = false ∧ (op == sHas) = false ∧ (op == sRole) = false ∧ (op == sSize) = false ∧ (op == sNot) = false ∧ (op == sNeg) = false := by
  have key : ∀ w : List UInt8, (stI w = 2 ∨ stI w = 6 ∨ stI w = 7) → (op == w) = false := fun w hw => by
    cases hx : op == w with
    | false => rfl
    | true => rw [eq_of_beq' hx] at h; unfold isOp2 at h; omega
  exact ⟨key _ (by decide), key _ (by decide), key _ (by decide), key _ (by decide), key _ (by decide), key _ (by decide), key _ (by decide), key _ (by decide)⟩
theorem op2_ar {op : List UInt8} (h : isOp2 op) : arN op = 2 := by
  have hA := arN_of (op := op)
  rcases h with h | h | h | h | h
  · exact hA.1 h
  · exact hA.2.1 h
  · exact hA.2.2.1 h
  · exact hA.2.2.2.1 h
  · exact hA.2.2.2.2.1 h
theorem GoodE.two (h : GoodE e) (g : isOp2 (eop e)) : GoodE (sub0 e) ∧ GoodE (sub1 e) ∧ sub0 e ∈ eps e ∧ sub1 e ∈ eps e ∧ eps e = [sub0 e, sub1 e] := by
  obtain ⟨f1, f2, f3, f4⟩ := h.parts
  rw [op2_ar g] at f2
  refine ⟨f3 _ (sub0_mem (by omega)), f3 _ (sub1_mem (by omega)), sub0_mem (by omega), sub1_mem (by omega), ?_⟩
  unfold sub0 sub1
  match eps e, f2 with
  | [x, y], _ => rfl
  | [], h => simp at h
  | [_], h => simp at h
  | _ :: _ :: _ :: _, h => simp at h; omega
theorem tk_two (h : GoodE e) (g : isOp2 (eop e)) : tkC full e = parW full (stI (eop (sub0 e))) (lstS (eop e)) (tkC full (sub0 e)) ++ (opTok (eop e) :: parW full (stI (eop (sub1 e))) (stI (eop e) + 1) (tkC full (sub1 e))) := by
  obtain ⟨n, h1, h2⟩ := tkC_S (full := full) h
  obtain ⟨k0, k1, m0, m1, _⟩ := h.two g
  obtain ⟨g1, g2, g3, g4, g5, g6, g7, g8⟩ := op2_not g
  rw [h2, tokD_two g1 g2 g3 g4 g5 g6 g7 g8, tk_sub h1 m0 k0, tk_sub h1 m1 k1]
end
theorem GoodE.op {e : D} (h : GoodE e) : (eop e == sVal) = true ∨ (eop e == sNow) = true ∨ (eop e == sAttr) = true ∨ (eop e == sHas) = true ∨ (eop e == sRole) = true ∨ (eop e == sSize) = true ∨ (eop e == sNot) = true ∨ (eop e == sNeg) = true ∨ isOp2 (eop e) := by
  obtain ⟨f1, _⟩ := h.parts
  cases g1 : eop e == sVal with | true => simp | false =>
  cases g2 : eop e == sNow with | true => simp | false =>
  cases g3 : eop e == sAttr with | true => simp | false =>
  cases g4 : eop e == sHas with | true => simp | false =>
  cases g5 : eop e == sRole with | true => simp | false =>
  cases g6 : eop e == sSize with | true => simp | false =>
  cases g7 : eop e == sNot with | true => simp | false =>
  cases g8 : eop e == sNeg with | true => simp | false =>
  have := (two_op f1 g1 g2 g3 g4 g5 g6 g7 g8).1
  simp only [Bool.false_eq_true, false_or]
  exact this
end GP
