import Derived.Test.YtnipbngimicldaaGpbE9
set_option linter.unusedSimpArgs false
/- Plain laws of evaluation: values are formed; more that is had changes nothing; not, and, or. -/
namespace GP
open Go Go.Proofs
set_option maxRecDepth 100000

theorem evI_succ (n : Nat) (s e : D) : evI (n + 1) s e =
    if ((eps e).length : Int) == 0 then leafI s e else
    if eop e == sAnd then eitherV (tstV (evI n s (part e 0))) (tstV (evI n s (part e 1))) false else
    if eop e == sOr then eitherV (tstV (evI n s (part e 0))) (tstV (evI n s (part e 1))) true else
    if (evI n s (part e 0)).2 != 0 then (zeroV, (evI n s (part e 0)).2) else
    if ((eps e).length : Int) == 1 then oneV (eop e) (evI n s (part e 0)).1 else
    if (evI n s (part e 1)).2 != 0 then (zeroV, (evI n s (part e 1)).2) else
    twoV (eop e) (evI n s (part e 0)).1 (evI n s (part e 1)).1 := rfl
/-! ### Values are formed -/
theorem formed_zero : formedB zeroV = true := by decide
theorem formed_tru (b : Bool) : formedB (truV b) = true := by cases b <;> decide
theorem formed_num (n : Int) : formedB (num n) = true := by simp [formedB, num, vk, one1, plainB, vi, vs, vl, elems]
theorem formed_time {n : Int} (h1 : 0 ≤ n) (h2 : n ≤ 1099511627776) : formedB (valV 4 n) = true := by simp [formedB, valV, vk, one1, plainB, vi, vs, vl, elems, h1, h2]
def resF (p : D × Int) : Prop := formedB p.1 = true
theorem outN_F (n : Int) (ok : Bool) : resF (unt (outN n ok)) := by
  cases ok
  · exact formed_zero
  · exact formed_num n
theorem outT_F (n : Int) (ok : Bool) : resF (unt (outT n ok)) := by
  unfold outT
  cases h : timeOk n ok
  · exact formed_zero
  · simp only [timeOk, Bool.and_eq_true, decide_eq_true_eq] at h
    exact formed_time h.1.2 h.2
theorem addV_F (fa fb : Bool) (k1 i1 k2 i2 : Int) : resF (unt (addV fa fb k1 i1 k2 i2)) := by
  unfold addV
  split
  · exact formed_zero
  split
  · exact outN_F _ _
  split
  · exact outT_F _ _
  · exact formed_zero
theorem subV_F (fa fb : Bool) (k1 i1 k2 i2 : Int) : resF (unt (subV fa fb k1 i1 k2 i2)) := by
  unfold subV
  split
  · exact formed_zero
  split
  · exact outN_F _ _
  split
  · exact outT_F _ _
  · exact formed_zero
theorem mulV_F (fa fb : Bool) (k1 i1 k2 i2 : Int) : resF (unt (mulV fa fb k1 i1 k2 i2)) := by
  unfold mulV
  split
  · exact formed_zero
  split
  · exact formed_zero
  · exact outN_F _ _
theorem truT_F (d : D) : resF (truT d) := by
  unfold truT
  split
  · split
    · exact formed_zero
    · exact formed_tru _
  · exact formed_zero
theorem oneV_F (op : List UInt8) (v : D) : resF (oneV op v) := by
  unfold oneV
  split
  · exact formed_tru _
  split
  · exact subV_F _ _ _ _ _ _
  split
  · exact formed_num _
  · exact formed_zero
theorem twoV_F (op : List UInt8) (a b : D) : resF (twoV op a b) := by
  unfold twoV
  split
  · exact addV_F _ _ _ _ _ _
  split
  · exact subV_F _ _ _ _ _ _
  split
  · exact mulV_F _ _ _ _ _ _
  split
  · exact truT_F _
  · exact truT_F _
theorem eitherV_F (p q : Bool × Int) (d : Bool) : resF (eitherV p q d) := by
  unfold eitherV
  split
  · exact formed_tru _
  split
  · exact formed_zero
  split
  · exact formed_zero
  · exact formed_tru _
theorem litI_formed {v : D} (h : (litI v != 0) = true) : formedB v = true := by
  unfold litI at h
  split at h
  · simp at h
  · rename_i hc
    simp only [Bool.or_eq_true, Bool.not_eq_true', not_or] at hc
    simpa using hc.1.1
theorem fmD_len {n : Nat} {e : D} (h : fmD (n + 1) e = true) : ((eps e).length : Int) = arityI (eop e) := fmA_len (fmD_fmA h)
/-- A formed expression's own value is one. -/
theorem fmD_lit {n : Nat} {e : D} (h : fmD (n + 1) e = true) (ho : (eop e == sVal) = true) : (litI (eV e) != 0) = true := by
  have hl := fmD_len h
  simp only [fmD, Bool.and_eq_true] at h
  have h1 := h.1
  have ho' : eop e = sVal := by simpa using ho
  have ha : arityI (eop e) = 0 := by rw [ho']; decide
  unfold typI at h1
  have c1 : (decide (arityI (eop e) < 0) || (((eps e).length : Int) != arityI (eop e))) = false := by rw [hl, ha]; decide
  rw [if_neg (by rw [c1]; decide), if_pos (by rw [ha]; decide)] at h1
  unfold noneI at h1
  rw [if_pos ho] at h1
  cases hc : (litI (eV e) != 0) with
  | true => rfl
  | false => rw [if_neg (by rw [hc]; decide)] at h1; exact absurd h1 (by decide)
theorem leafI_F {n : Nat} {s e : D} (hr : rightB s = true) (hf : fmD (n + 1) e = true) : resF (leafI s e) := by
  simp only [rightB, Bool.and_eq_true, decide_eq_true_eq] at hr
  obtain ⟨⟨h1, h2⟩, h3⟩ := hr
  unfold leafI
  split
  · rename_i ho; exact litI_formed (fmD_lit hf ho)
  split
  · exact formed_time h2 h3
  split
  · exact formed_tru _
  split
  · exact formed_tru _
  unfold hadV
  cases h : (sA s).find? (hadP (ewho e) (ename e)) with
  | none => exact formed_zero
  | some x =>
    have := List.all_eq_true.1 h1 x (List.mem_of_find?_eq_some h)
    simp only [goodH, Bool.and_eq_true] at this
    exact this.1
theorem fmD_part {n : Nat} {e : D} (h : fmD (n + 1) e = true) {x : D} (hx : x ∈ eps e) : fmD n x = true := by
  simp only [fmD, Bool.and_eq_true, List.all_eq_true] at h
  exact h.2 x hx
theorem part_mem {e : D} {i : Nat} (hi : i < (eps e).length) : part e i ∈ eps e := by
  have : part e i = (eps e)[i] := by simp [part, hi]
  rw [this]; exact List.getElem_mem hi
theorem evI_F : ∀ {n : Nat} {s e : D}, rightB s = true → fmD n e = true → resF (evI n s e)
  | 0, _, _, _, _ => formed_zero
  | n + 1, s, e, hr, hf => by
    unfold evI
    split
    · exact leafI_F hr hf
    split
    · exact eitherV_F _ _ _
    split
    · exact eitherV_F _ _ _
    split
    · exact formed_zero
    split
    · exact oneV_F _ _
    split
    · exact formed_zero
    · exact twoV_F _ _ _
theorem wrong_right {n : Nat} {e s : D} (h : (wrongI n e s != 0) = false) : rightB s = true := by
  unfold wrongI at h
  cases hr : rightB s <;> cases hf : fmD n e <;> simp [hr, hf] at h ⊢
theorem evalI_F (n : Nat) (e s : D) : resF (evalI n e s) := by
  unfold evalI
  split
  · exact formed_zero
  · rename_i h
    have h : (wrongI n e s != 0) = false := by simpa using h
    exact evI_F (wrong_right h) (wrong_fm h)
theorem sameB_refl {v : D} (hf : formedB v = true) : sameB v v = true := by
  unfold sameB
  rw [if_neg (by simp)]
  refine List.all_eq_true.2 fun i hi => ?_
  have hi : i < (vl v).length := by simpa using hi
  have e : (vl v)[i]? = some (vl v)[i] := by simp [hi]
  unfold okSame
  rw [e]
  simp only [sameEl, beq_self_eq_true, Bool.true_and]
  have h1 : one1 (vl v)[i] = true := by
    unfold formedB at hf
    split at hf
    · have := (plain_facts hf).1
      rw [this] at hi; cases hi
    · split at hf
      · cases hf
      · exact el_one hf _ (List.getElem_mem hi)
  have : (vl (vl v)[i]).length = 0 := (plain_facts h1).1
  rw [this]; rfl

/-! ### More that is had -/
def nob (k i : Int) (t : List UInt8) (nl : Bool) (l : List D) : D := mkH [110, 111, 98, 111, 100, 121] [65] k i t nl l
theorem had_more {l : List D} {who name : List UInt8} (k i : Int) (t : List UInt8) (nl : Bool) (m : List D) (h : ((who == [110, 111, 98, 111, 100, 121]) && (name == [65])) = false) : hadV (l ++ [nob k i t nl m]) who name = hadV l who name := by
  unfold hadV
  rw [List.find?_append]
  have : hadP who name (nob k i t nl m) = false := by
    have e : hadP who name (nob k i t nl m) = (([110, 111, 98, 111, 100, 121] == who) && ([65] == name)) := rfl
    rw [e]
    rw [BEq.comm (a := who), BEq.comm (a := name)] at h
    exact h
  simp [List.find?_cons, this]
section
variable {now : Int} {R : D} {nb nb' : Bool} {l : List D} {k i : Int} {t : List UInt8} {nl : Bool} {m : List D}
theorem asks_top : ∀ n, asksE n .top = false
  | 0 => rfl
  | n + 1 => by
    have e1 : isNob .top = false := rfl
    have e2 : eps .top = [] := rfl
    simp only [asksE, e1, e2, List.any_nil, Bool.or_false]
theorem asks_part {n : Nat} {e : D} (h : asksE (n + 1) e = false) (i : Nat) : asksE n (part e i) = false := by
  simp only [asksE, Bool.or_eq_false_iff] at h
  by_cases hi : i < (eps e).length
  · have := List.any_eq_false.1 h.2 _ (part_mem hi)
    simpa using this
  · have : part e i = .top := by unfold part; rw [List.getD_eq_getElem?_getD, List.getElem?_eq_none (by omega)]; rfl
    rw [this]; exact asks_top n
theorem more_ev : ∀ {n : Nat} {e : D}, asksE n e = false → evI n (mkS now R (sliceD nb' (l ++ [nob k i t nl m]))) e = evI n (mkS now R (sliceD nb l)) e
  | 0, _, _ => rfl
  | n + 1, e, h => by
    have h0 := more_ev (asks_part h 0)
    have h1 := more_ev (asks_part h 1)
    have hl : leafI (mkS now R (sliceD nb' (l ++ [nob k i t nl m]))) e = leafI (mkS now R (sliceD nb l)) e := by
      simp only [asksE, Bool.or_eq_false_iff] at h
      have hh : hadV (l ++ [nob k i t nl m]) (ewho e) (ename e) = hadV l (ewho e) (ename e) := had_more k i t nl m h.1
      simp only [leafI, sNw_mk, sR_mk, sA_mk, elems_sliceD, hh]
    rw [evI_succ, evI_succ, h0, h1, hl]
theorem more_right (hf : formedB (mkV k i t nl m) = true) (hk : (k == 0) = false) : rightB (mkS now R (sliceD nb' (l ++ [nob k i t nl m]))) = rightB (mkS now R (sliceD nb l)) := by
  have g : goodH (nob k i t nl m) = true := by
    have : goodH (nob k i t nl m) = (formedB (mkV k i t nl m) && (k != 0)) := rfl
    rw [this, hf]; simpa using hk
  simp only [rightB, sA_mk, sNw_mk, elems_sliceD, List.all_append, List.all_cons, List.all_nil, g, Bool.and_true]
  try rfl
theorem more_eval {n : Nat} {e : D} (h : asksE n e = false) (hf : formedB (mkV k i t nl m) = true) (hk : (k == 0) = false) : evalI n e (mkS now R (sliceD nb' (l ++ [nob k i t nl m]))) = evalI n e (mkS now R (sliceD nb l)) := by
  have hw : wrongI n e (mkS now R (sliceD nb' (l ++ [nob k i t nl m]))) = wrongI n e (mkS now R (sliceD nb l)) := by
    unfold wrongI; rw [more_right hf hk (nb := nb)]
  unfold evalI
  rw [hw, more_ev h]
end

/-! ### not, and, or -/
theorem typ_ok {n : Nat} {e : D} (h : fmD n e = true) : ((typI n [] e).2 != 2) = true := by
  cases n with
  | zero => cases h
  | succ n => simp only [fmD, Bool.and_eq_true] at h; exact h.1
theorem fmD_sing {n : Nat} (a : D) : fmD (n + 1) (sing sNot a) = fmD n a := by
  have e1 : eop (sing sNot a) = sNot := rfl
  have e2 : eps (sing sNot a) = [a] := by simp only [sing, eps_mk]
  have ar : arityI sNot = 1 := by decide
  simp only [fmD, e2, List.all_cons, List.all_nil, Bool.and_true]
  cases ha : fmD n a with
  | false => simp
  | true =>
    have h := typ_ok ha
    simp only [Bool.and_true]
    unfold typI
    rw [e1, e2, ar]
    rw [if_neg (by simp), if_neg (by decide)]
    have g : [a].getD 0 D.top = a := rfl
    rw [g]
    split
    · exact h
    · rw [if_neg (by decide)]
      split
      · rfl
      · rfl
theorem fmD_doub {n : Nat} {op : List UInt8} (ho : arityI op = 2) (a b : D) : fmD (n + 1) (doub op a b) = (fmD n a && fmD n b) := by
  have e1 : eop (doub op a b) = op := rfl
  have e2 : eps (doub op a b) = [a, b] := by simp only [doub, eps_mk]
  simp only [fmD, e2, List.all_cons, List.all_nil, Bool.and_true]
  cases ha : fmD n a with
  | false => simp
  | true =>
  cases hb : fmD n b with
  | false => simp
  | true =>
    have h := typ_ok ha
    have h' := typ_ok hb
    simp only [Bool.and_true]
    unfold typI
    rw [e1, e2, ho]
    rw [if_neg (by simp), if_neg (by decide)]
    have g : [a, b].getD 0 D.top = a := rfl
    have g' : [a, b].getD 1 D.top = b := rfl
    rw [g, g']
    split
    · exact h
    · rw [if_pos (by decide)]
      split
      · exact h'
      · split
        · rfl
        · rfl
/-- "not" of a value with its error. -/
def notP (p : D × Int) : D × Int := if p.2 != 0 then (zeroV, p.2) else oneV sNot p.1
theorem ev_sing (n : Nat) (s a : D) : evI (n + 1) s (sing sNot a) = notP (evI n s a) := by
  have e1 : eop (sing sNot a) = sNot := rfl
  have e2 : eps (sing sNot a) = [a] := by simp only [sing, eps_mk]
  have g : part (sing sNot a) 0 = a := by unfold part; rw [e2]; rfl
  rw [evI_succ, e1, e2, g]
  rw [if_neg (by simp), if_neg (by decide), if_neg (by decide)]
  unfold notP
  split
  · rfl
  · rw [if_pos (by simp)]
theorem ev_doub (n : Nat) (s a b : D) (o : Bool) : evI (n + 1) s (doub (if o then sOr else sAnd) a b) = eitherV (tstV (evI n s a)) (tstV (evI n s b)) o := by
  have e1 : eop (doub (if o then sOr else sAnd) a b) = (if o then sOr else sAnd) := rfl
  have e2 : eps (doub (if o then sOr else sAnd) a b) = [a, b] := by simp only [doub, eps_mk]
  have g : part (doub (if o then sOr else sAnd) a b) 0 = a := by unfold part; rw [e2]; rfl
  have g' : part (doub (if o then sOr else sAnd) a b) 1 = b := by unfold part; rw [e2]; rfl
  rw [evI_succ, e1, e2, g, g']
  cases o
  · rw [if_neg (by simp), if_pos (by decide)]
  · rw [if_neg (by simp), if_neg (by decide), if_pos (by decide)]
theorem truth01 {v : D} (hf : formedB v = true) (hk : (vk v == 1) = true) : vi v = 0 ∨ vi v = 1 := by
  have hk : vk v = 1 := by simpa using hk
  unfold formedB at hf
  rw [hk] at hf
  rw [if_pos (by decide)] at hf
  unfold one1 plainB at hf
  rw [hk] at hf
  split at hf
  · cases hf
  split at hf
  · cases hf
  rw [if_neg (by decide), if_pos (by decide)] at hf
  simpa using hf
theorem tst_not {p : D × Int} (h : resF p) : tstV (notP p) = ((tstE p == 0) && !(tstV p).1, tstE p) := by
  obtain ⟨v, f⟩ := p
  have h : formedB v = true := h
  unfold notP
  by_cases hf : f = 0
  · subst hf
    rw [if_neg (by simp)]
    cases hk : (vk v == 1) with
    | true =>
      have h01 := truth01 h hk
      have e : oneV sNot v = (truV (vi v == 0), 0) := by
        unfold oneV; rw [if_pos (by rw [hk]; rfl)]
      have hk' : (vk v != 1) = false := by simpa using hk
      rw [e]
      simp only [tstV, tstE, hk', Bool.and_false, Bool.false_eq_true, if_false, beq_self_eq_true, Bool.true_and]
      rcases h01 with h01 | h01 <;> rw [h01] <;> rfl
    | false =>
      have e : oneV sNot v = (zeroV, 6) := by
        unfold oneV; rw [if_neg (by rw [hk]; decide), if_neg (by simp [sNot, sNeg]), if_neg (by simp [sNot, sSize])]
      have hk' : (vk v != 1) = true := by simpa using hk
      rw [e]
      simp only [tstV, tstE, hk', Bool.and_true, beq_self_eq_true, if_true]
      rfl
  · have hf' : (f != 0) = true := by simpa using hf
    have hf2 : (f == 0) = false := by simpa using hf
    rw [if_pos hf']
    simp only [tstV, tstE, hf2, Bool.false_and, Bool.false_eq_true, if_false]
/-- A truth with its error: what isn't OK isn't so. -/
def okT (p : Bool × Int) : Prop := p.1 = true → p.2 = 0
theorem okT_tst (p : D × Int) : okT (tstV p) := by
  intro h
  simp only [tstV, Bool.and_eq_true, beq_iff_eq] at h
  exact h.1
theorem tst_either {p q : Bool × Int} (d : Bool) : tstV (eitherV p q d) = (if ((p.2 == 0) && (p.1 == d)) || ((q.2 == 0) && (q.1 == d)) then (d, 0) else if p.2 != 0 then (false, p.2) else if q.2 != 0 then (false, q.2) else (!d, 0)) := by
  unfold eitherV
  split
  · cases d <;> rfl
  split
  · rename_i h
    have h : (p.2 == 0) = false := by simpa using h
    simp only [tstV, tstE, h, Bool.false_and, Bool.false_eq_true, if_false]
  split
  · rename_i h
    have h : (q.2 == 0) = false := by simpa using h
    simp only [tstV, tstE, h, Bool.false_and, Bool.false_eq_true, if_false]
  · cases d <;> rfl
theorem tst_fst (p : D × Int) : (tstV p).2 = tstE p := rfl
theorem deMorgan {p q : D × Int} (hp : resF p) (hq : resF q) : tstV (notP (eitherV (tstV p) (tstV q) false)) = tstV (eitherV (tstV (notP p)) (tstV (notP q)) true) := by
  rw [tst_not (eitherV_F _ _ _), tst_not hp, tst_not hq]
  have E : tstE (eitherV (tstV p) (tstV q) false) = (tstV (eitherV (tstV p) (tstV q) false)).2 := rfl
  rw [E, tst_either, tst_either]
  have op := okT_tst p
  have oq := okT_tst q
  have e1 : tstE p = (tstV p).2 := rfl
  have e2 : tstE q = (tstV q).2 := rfl
  rw [e1, e2]
  obtain ⟨⟨x, f⟩, h1⟩ : ∃ z, tstV p = z := ⟨_, rfl⟩
  obtain ⟨⟨y, g⟩, h2⟩ : ∃ z, tstV q = z := ⟨_, rfl⟩
  rw [h1] at op; rw [h2] at oq
  rw [h1, h2]
  clear h1 h2 e1 e2 E
  unfold okT at op oq
  simp only at op oq ⊢
  by_cases hf : f = 0 <;> by_cases hg : g = 0 <;> cases x <;> cases y <;> simp_all
theorem turned (p q : Bool × Int) (d : Bool) (hp : okT p) (hq : okT q) : (tstV (eitherV p q d)).1 = (tstV (eitherV q p d)).1 ∧ ((tstV (eitherV p q d)).2 == 0) = ((tstV (eitherV q p d)).2 == 0) := by
  rw [tst_either, tst_either]
  obtain ⟨x, f⟩ := p
  obtain ⟨y, g⟩ := q
  unfold okT at hp hq
  simp only at hp hq ⊢
  by_cases hf : f = 0 <;> by_cases hg : g = 0 <;> cases x <;> cases y <;> cases d <;> simp_all <;> (rw [beq_eq_false_iff_ne.2 hf, beq_eq_false_iff_ne.2 hg])

theorem law_not (n : Nat) (a b s : D) : testI (n + 2) (sing sNot (doub sAnd a b)) s = testI (n + 2) (doub sOr (sing sNot a) (sing sNot b)) s := by
  have hw : wrongI (n + 2) (sing sNot (doub sAnd a b)) s = wrongI (n + 2) (doub sOr (sing sNot a) (sing sNot b)) s := by
    unfold wrongI; rw [fmD_sing, fmD_doub ar_and, fmD_doub ar_or, fmD_sing, fmD_sing]
  unfold testI
  rw [← hw]
  split
  · rfl
  · rename_i h
    have h : (wrongI (n + 2) (sing sNot (doub sAnd a b)) s != 0) = false := by simpa using h
    have hr := wrong_right h
    have hf := wrong_fm h
    rw [fmD_sing, fmD_doub ar_and, Bool.and_eq_true] at hf
    rw [ev_sing, show doub sAnd a b = doub (if false then sOr else sAnd) a b from rfl, ev_doub, show doub sOr (sing sNot a) (sing sNot b) = doub (if true then sOr else sAnd) (sing sNot a) (sing sNot b) from rfl, ev_doub, ev_sing, ev_sing]
    exact deMorgan (evI_F hr hf.1) (evI_F hr hf.2)
theorem law_turn (n : Nat) (a b s : D) : (testI (n + 1) (doub sAnd a b) s).1 = (testI (n + 1) (doub sAnd b a) s).1 ∧ ((testI (n + 1) (doub sAnd a b) s).2 == 0) = ((testI (n + 1) (doub sAnd b a) s).2 == 0) := by
  have hw : wrongI (n + 1) (doub sAnd a b) s = wrongI (n + 1) (doub sAnd b a) s := by
    unfold wrongI; rw [fmD_doub ar_and, fmD_doub ar_and, Bool.and_comm]
  unfold testI
  rw [← hw]
  split
  · exact ⟨rfl, rfl⟩
  · rw [show doub sAnd a b = doub (if false then sOr else sAnd) a b from rfl, ev_doub, show doub sAnd b a = doub (if false then sOr else sAnd) b a from rfl, ev_doub]
    exact turned _ _ _ (okT_tst _) (okT_tst _)
end GP
