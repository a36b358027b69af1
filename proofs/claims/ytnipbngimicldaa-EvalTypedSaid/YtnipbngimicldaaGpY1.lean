import Derived.Test.YtnipbngimicldaaGpY0
set_option linter.unusedSimpArgs false
/- What has a type has a value of it. -/
namespace GP
open Go Go.Proofs
set_option maxRecDepth 100000

def tyOk (t : Int) : Prop := (1 ≤ t ∧ t ≤ 4) ∨ (11 ≤ t ∧ t ≤ 14)
/-- A value of a type. -/
def hasT (v : D) (t : Int) : Prop := formedB v = true ∧ sitB v t = true
/-- A value of a type, or an error that may be. -/
def okRes (p : D × Int) (t : Int) : Prop := p.2 = 8 ∨ p.2 = 7 ∨ (p.2 = 0 ∧ hasT p.1 t)
def factsOk (fs : List D) : Prop := ∀ f ∈ fs, 1 ≤ fkind f ∧ fkind f ≤ 4

theorem kinds_of {v : D} (hf : formedB v = true) : 0 ≤ vk v ∧ vk v ≤ 5 := by
  unfold formedB at hf
  split at hf
  · unfold one1 plainB at hf
    split at hf
    · cases hf
    split at hf
    · cases hf
    split at hf
    · rename_i h; simp at h; omega
    split at hf
    · rename_i h; simp at h; omega
    split at hf
    · rename_i h; simp at h; omega
    split at hf
    · rename_i h; simp at h; omega
    split at hf
    · rename_i h; simp at h; omega
    · cases hf
  · rename_i h; simp at h; omega
theorem kind0_of {v : D} (hf : formedB v = true) (h5 : vk v = 5) (hl : 0 < (vl v).length) : 1 ≤ vk0 (vl v) ∧ vk0 (vl v) ≤ 4 := by
  unfold formedB at hf
  rw [if_neg (by simp [h5])] at hf
  split at hf
  · cases hf
  · unfold adjB at hf
    have h0 := List.all_eq_true.1 hf 0 (by simp; exact hl)
    unfold okEl at h0
    cases hx : vl v with
    | nil => rw [hx] at hl; simp at hl
    | cons x xs =>
      rw [hx] at h0
      have e : (x :: xs)[0]? = some x := rfl
      rw [e] at h0
      simp only [Bool.and_eq_true, bne_iff_ne, ne_eq] at h0
      obtain ⟨⟨⟨h1, h2⟩, _⟩, _⟩ := h0
      show 1 ≤ vk x ∧ vk x ≤ 4
      unfold one1 plainB at h1
      split at h1
      · cases h1
      split at h1
      · cases h1
      split at h1
      · rename_i h; simp at h; omega
      split at h1
      · rename_i h; simp at h; omega
      split at h1
      · rename_i h; simp at h; omega
      split at h1
      · rename_i h; simp at h; omega
      split at h1
      · rename_i h; simp at h; omega
      · cases h1
/-- What its kind is, and its first one's. -/
theorem kv_cases {v : D} (hf : formedB v = true) : (vk v ≠ 5 ∧ kv v = vk v ∧ 0 ≤ vk v ∧ vk v ≤ 4) ∨ (vk v = 5 ∧ (vl v).length = 0 ∧ kv v = 5) ∨ (vk v = 5 ∧ 0 < (vl v).length ∧ kv v = 10 + vk0 (vl v) ∧ 1 ≤ vk0 (vl v) ∧ vk0 (vl v) ≤ 4) := by
  have hk := kinds_of hf
  by_cases h5 : vk v = 5
  · by_cases hl : 0 < (vl v).length
    · have h0 := kind0_of hf h5 hl
      refine .inr (.inr ⟨h5, hl, ?_, h0⟩)
      unfold kv
      rw [if_pos (by simp [h5, hl]), wrap_inY (by omega) (by omega)]
    · refine .inr (.inl ⟨h5, by omega, ?_⟩)
      unfold kv
      have l0 : decide ((0 : Int) < (vl v).length) = false := by simp only [decide_eq_false_iff_not]; omega
      rw [l0, Bool.and_false, if_neg (by decide), h5]
  · refine .inl ⟨h5, ?_, by omega, by omega⟩
    unfold kv
    rw [if_neg (by simp [h5])]
theorem sit_plain {v : D} {t : Int} (h : hasT v t) (h1 : 1 ≤ t) (h4 : t ≤ 4) : vk v = t := by
  obtain ⟨hf, hs⟩ := h
  unfold sitB at hs
  simp only [Bool.or_eq_true, Bool.and_eq_true, beq_iff_eq, decide_eq_true_eq] at hs
  rcases kv_cases hf with ⟨a, b, c, d⟩ | ⟨a, b, c⟩ | ⟨a, b, c, d, e⟩ <;> omega
theorem sit_bag {v : D} {t : Int} (h : hasT v t) (h1 : 11 ≤ t) (h4 : t ≤ 14) : vk v = 5 ∧ (0 < (vl v).length → vk0 (vl v) = t - 10) := by
  obtain ⟨hf, hs⟩ := h
  unfold sitB at hs
  simp only [Bool.or_eq_true, Bool.and_eq_true, beq_iff_eq, decide_eq_true_eq] at hs
  refine ⟨?_, fun hl => ?_⟩ <;> rcases kv_cases hf with ⟨a, b, c, d⟩ | ⟨a, b, c⟩ | ⟨a, b, c, d, e⟩ <;> omega
theorem sit_of {v : D} {t : Int} (hf : formedB v = true) (h : vk v = t) (h5 : t ≠ 5) : hasT v t := by
  refine ⟨hf, ?_⟩
  have : kv v = t := by
    unfold kv; rw [if_neg (by simp [h, h5]), h]
  unfold sitB; simp [this]
theorem has_tru (b : Bool) : okRes (truV b, 0) 1 := .inr (.inr ⟨rfl, sit_of (formed_tru b) rfl (by decide)⟩)
theorem has_outN (n : Int) (ok : Bool) : okRes (unt (outN n ok)) 2 := by
  cases ok
  · exact .inr (.inl rfl)
  · exact .inr (.inr ⟨rfl, sit_of (formed_num n) rfl (by decide)⟩)
theorem has_outT (n : Int) (ok : Bool) : okRes (unt (outT n ok)) 4 := by
  unfold outT
  cases h : timeOk n ok
  · exact .inr (.inl rfl)
  · simp only [timeOk, Bool.and_eq_true, decide_eq_true_eq] at h
    exact .inr (.inr ⟨rfl, sit_of (formed_time h.1.2 h.2) rfl (by decide)⟩)
theorem truT_ok {b : Bool} : okRes (truT (.tup [.bool b, .int .i64 0])) 1 := by
  rw [truT_tup, if_neg (by decide)]; exact has_tru b

/-! ### Ops -/
theorem way_mem {op : List UInt8} {a b t : Int} (h : wayT op a b = (t, 0)) : (op, a, b, t) ∈ waysP := by
  obtain ⟨w, hw, rfl⟩ := way_of h; exact hw
theorem one_typed {op : List UInt8} {a t : Int} {v : D} (h : wayT op a 0 = (t, 0)) (hv : hasT v a) : okRes (oneV op v) t := by
  have hm := way_mem h
  have key : ∀ w ∈ waysP, w.2.2.1 = 0 → (w.1 = sNot ∧ w.2.1 = 1 ∧ w.2.2.2 = 1) ∨ (w.1 = sNeg ∧ w.2.1 = 2 ∧ w.2.2.2 = 2) ∨ (w.1 = sSize ∧ (11 ≤ w.2.1 ∧ w.2.1 ≤ 14) ∧ w.2.2.2 = 2) := by decide
  rcases key _ hm rfl with ⟨h1, h2, h3⟩ | ⟨h1, h2, h3⟩ | ⟨h1, h2, h3⟩
  · simp only at h1 h2 h3; subst h1; subst h2; subst h3
    have := sit_plain hv (by decide) (by decide)
    unfold oneV; rw [if_pos (by rw [this]; decide)]; exact has_tru _
  · simp only at h1 h2 h3; subst h1; subst h2; subst h3
    have := sit_plain hv (by decide) (by decide)
    unfold oneV; rw [if_neg (by rw [this]; decide), if_pos (by rw [this]; decide)]
    have e1 : vk (num 0) = 2 := rfl
    unfold subV
    rw [formed_num, hv.1, this, e1]
    rw [if_neg (by decide), if_pos (by decide)]
    exact has_outN _ _
  · simp only at h1 h2 h3; subst h1; subst h3
    have := (sit_bag hv h2.1 h2.2).1
    unfold oneV; rw [if_neg (by rw [this]; decide), if_neg (by rw [this]; decide), if_pos (by rw [this]; decide)]
    exact .inr (.inr ⟨rfl, sit_of (formed_num _) rfl (by decide)⟩)
theorem cmp_typed {op : List UInt8} {a b : D} (g : good6 op = true) (ha : formedB a = true) (hb : formedB b = true) (hw : wrongOp op (vk a) (vk b) = false) : okRes (truT (cmpV op a b)) 1 := by
  unfold cmpV
  rw [ha, hb, g, if_neg (by decide), hw, if_neg (by decide)]
  exact truT_ok
def isLess (op : List UInt8) : Bool := op == [60] || op == [60, 61] || op == [62] || op == [62, 61]
def isSame (op : List UInt8) : Bool := op == [61, 61] || op == [33, 61]
theorem two_typed {op : List UInt8} {a b t : Int} {x y : D} (hop : op ≠ sAnd ∧ op ≠ sOr) (h0 : b ≠ 0) (h : wayT op a b = (t, 0)) (hx : hasT x a) (hy : hasT y b) : okRes (twoV op x y) t := by
  have hm := way_mem h
  have key : ∀ w ∈ waysP, w.2.2.1 ≠ 0 → (w.1 = sAnd ∨ w.1 = sOr) ∨ (w.1 = [43] ∧ w.2.1 = 2 ∧ w.2.2.1 = 2 ∧ w.2.2.2 = 2) ∨ (w.1 = [43] ∧ w.2.1 = 4 ∧ w.2.2.1 = 2 ∧ w.2.2.2 = 4) ∨ (w.1 = [45] ∧ w.2.1 = 2 ∧ w.2.2.1 = 2 ∧ w.2.2.2 = 2) ∨ (w.1 = [45] ∧ w.2.1 = 4 ∧ w.2.2.1 = 2 ∧ w.2.2.2 = 4) ∨ (w.1 = [45] ∧ w.2.1 = 4 ∧ w.2.2.1 = 4 ∧ w.2.2.2 = 2) ∨ (w.1 = [42] ∧ w.2.1 = 2 ∧ w.2.2.1 = 2 ∧ w.2.2.2 = 2) ∨ (w.1 = sIn ∧ (1 ≤ w.2.1 ∧ w.2.1 ≤ 4) ∧ w.2.2.1 = 10 + w.2.1 ∧ w.2.2.2 = 1) ∨ (isLess w.1 = true ∧ (2 ≤ w.2.1 ∧ w.2.1 ≤ 4) ∧ w.2.2.1 = w.2.1 ∧ w.2.2.2 = 1) ∨ (isSame w.1 = true ∧ (1 ≤ w.2.1 ∧ w.2.1 ≤ 4) ∧ w.2.2.1 = w.2.1 ∧ w.2.2.2 = 1) ∨ (isSame w.1 = true ∧ (11 ≤ w.2.1 ∧ w.2.1 ≤ 14) ∧ w.2.2.1 = w.2.1 ∧ w.2.2.2 = 1) := by decide
  have k := key _ hm h0
  simp only at k
  rcases k with k | ⟨rfl, rfl, rfl, rfl⟩ | ⟨rfl, rfl, rfl, rfl⟩ | ⟨rfl, rfl, rfl, rfl⟩ | ⟨rfl, rfl, rfl, rfl⟩ | ⟨rfl, rfl, rfl, rfl⟩ | ⟨rfl, rfl, rfl, rfl⟩ | ⟨rfl, h1, rfl, rfl⟩ | ⟨g, h1, rfl, rfl⟩ | ⟨g, h1, rfl, rfl⟩ | ⟨g, h1, rfl, rfl⟩
  · exact (k.elim hop.1 hop.2).elim
  · have e1 := sit_plain hx (by decide) (by decide)
    have e2 := sit_plain hy (by decide) (by decide)
    unfold twoV; rw [if_pos (by decide)]
    unfold addV; rw [hx.1, hy.1, e1, e2, if_neg (by decide), if_pos (by decide)]; exact has_outN _ _
  · have e1 := sit_plain hx (by decide) (by decide)
    have e2 := sit_plain hy (by decide) (by decide)
    unfold twoV; rw [if_pos (by decide)]
    unfold addV; rw [hx.1, hy.1, e1, e2, if_neg (by decide), if_neg (by decide), if_pos (by decide)]; exact has_outT _ _
  · have e1 := sit_plain hx (by decide) (by decide)
    have e2 := sit_plain hy (by decide) (by decide)
    unfold twoV; rw [if_neg (by decide), if_pos (by decide)]
    unfold subV; rw [hx.1, hy.1, e1, e2, if_neg (by decide), if_pos (by decide)]; exact has_outN _ _
  · have e1 := sit_plain hx (by decide) (by decide)
    have e2 := sit_plain hy (by decide) (by decide)
    unfold twoV; rw [if_neg (by decide), if_pos (by decide)]
    unfold subV; rw [hx.1, hy.1, e1, e2, if_neg (by decide), if_neg (by decide), if_pos (by decide)]; exact has_outT _ _
  · have e1 := sit_plain hx (by decide) (by decide)
    have e2 := sit_plain hy (by decide) (by decide)
    unfold twoV; rw [if_neg (by decide), if_pos (by decide)]
    unfold subV; rw [hx.1, hy.1, e1, e2, if_neg (by decide), if_pos (by decide)]; exact has_outN _ _
  · have e1 := sit_plain hx (by decide) (by decide)
    have e2 := sit_plain hy (by decide) (by decide)
    unfold twoV; rw [if_neg (by decide), if_neg (by decide), if_pos (by decide)]
    unfold mulV; rw [hx.1, hy.1, e1, e2, if_neg (by decide), if_neg (by decide)]; exact has_outN _ _
  · have e1 := sit_plain hx (by omega) (by omega)
    obtain ⟨e2, e3⟩ := sit_bag hy (by omega) (by omega)
    unfold twoV; rw [if_neg (by decide), if_neg (by decide), if_neg (by decide), if_pos (by decide)]
    unfold inV; rw [hx.1, hy.1, if_neg (by decide), if_neg (by simp [e1, e2]; omega), if_neg ?_]
    · exact truT_ok
    · simp only [Bool.and_eq_true, decide_eq_true_eq, bne_iff_ne, not_and, ne_eq, Decidable.not_not]
      intro hl; have := e3 (by omega); omega
  · have e1 := sit_plain hx (by omega) (by omega)
    have e2 := sit_plain hy (by omega) (by omega)
    have G : ∀ op : List UInt8, isLess op = true → good6 op = true ∧ (op == [43]) = false ∧ (op == [45]) = false ∧ (op == [42]) = false ∧ (op == sIn) = false := by
      intro op h
      unfold isLess at h
      simp only [Bool.or_eq_true, beq_iff_eq] at h
      rcases h with ((rfl | rfl) | rfl) | rfl <;> decide
    obtain ⟨g1, g2, g3, g4, g5⟩ := G _ g
    unfold twoV; rw [g2, g3, g4, g5]
    simp only [Bool.false_eq_true, if_false]
    refine cmp_typed g1 hx.1 hy.1 ?_
    unfold wrongOp
    rw [e1, e2]
    have hb1 : b ≠ 0 ∧ b ≠ 1 ∧ b ≠ 5 := by omega
    have : ((b == 0) = false) ∧ ((b == 1) = false) ∧ ((b == 5) = false) := by
      refine ⟨?_, ?_, ?_⟩ <;> (rw [beq_eq_false_iff_ne]; omega)
    simp [this.1, this.2.1, this.2.2, hb1]
  · have e1 := sit_plain hx (by omega) (by omega)
    have e2 := sit_plain hy (by omega) (by omega)
    unfold isSame at g
    simp only [Bool.or_eq_true, beq_iff_eq] at g
    have a0 : (b == 0) = false := by rw [beq_eq_false_iff_ne]; omega
    have b0 : b ≠ 0 := by omega
    rcases g with rfl | rfl
    · unfold twoV; rw [if_neg (by decide), if_neg (by decide), if_neg (by decide), if_neg (by decide)]
      refine cmp_typed (by decide) hx.1 hy.1 ?_
      unfold wrongOp; rw [e1, e2]; simp [b0]
    · unfold twoV; rw [if_neg (by decide), if_neg (by decide), if_neg (by decide), if_neg (by decide)]
      refine cmp_typed (by decide) hx.1 hy.1 ?_
      unfold wrongOp; rw [e1, e2]; simp [b0]
  · have e1 := (sit_bag hx (by omega) (by omega)).1
    have e2 := (sit_bag hy (by omega) (by omega)).1
    unfold isSame at g
    simp only [Bool.or_eq_true, beq_iff_eq] at g
    rcases g with rfl | rfl
    · unfold twoV; rw [if_neg (by decide), if_neg (by decide), if_neg (by decide), if_neg (by decide)]
      refine cmp_typed (by decide) hx.1 hy.1 ?_
      unfold wrongOp; rw [e1, e2]; decide
    · unfold twoV; rw [if_neg (by decide), if_neg (by decide), if_neg (by decide), if_neg (by decide)]
      refine cmp_typed (by decide) hx.1 hy.1 ?_
      unfold wrongOp; rw [e1, e2]; decide
theorem and_or {op : List UInt8} {a b t : Int} (hop : op = sAnd ∨ op = sOr) (h : wayT op a b = (t, 0)) : a = 1 ∧ b = 1 ∧ t = 1 := by
  have hm := way_mem h
  have key : ∀ w ∈ waysP, (w.1 = sAnd ∨ w.1 = sOr) → w.2.1 = 1 ∧ w.2.2.1 = 1 ∧ w.2.2.2 = 1 := by decide
  exact key _ hm hop
theorem tst_typed {p : D × Int} (h : okRes p 1) : (tstV p).2 = 8 ∨ (tstV p).2 = 7 ∨ (tstV p).2 = 0 := by
  have e : (tstV p).2 = tstE p := rfl
  rw [e]
  unfold tstE
  rcases h with h | h | ⟨h, k⟩
  · rw [h]; simp
  · rw [h]; simp
  · have := sit_plain k (by decide) (by decide)
    rw [h, this]; simp
theorem either_typed {p q : Bool × Int} (d : Bool) (hp : p.2 = 8 ∨ p.2 = 7 ∨ p.2 = 0) (hq : q.2 = 8 ∨ q.2 = 7 ∨ q.2 = 0) : okRes (eitherV p q d) 1 := by
  unfold eitherV
  split
  · exact has_tru _
  split
  · rename_i h
    have : p.2 ≠ 0 := by simpa using h
    rcases hp with hp | hp | hp
    · exact .inl hp
    · exact .inr (.inl hp)
    · exact (this hp).elim
  split
  · rename_i h
    have : q.2 ≠ 0 := by simpa using h
    rcases hq with hq | hq | hq
    · exact .inl hq
    · exact .inr (.inl hq)
    · exact (this hq).elim
  · exact has_tru _

/-! ### Leaves -/
theorem valT_kv {v : D} (h : litB v = true) : hasT v (valT v) ∧ tyOk (valT v) := by
  unfold litB at h
  simp only [Bool.and_eq_true, bne_iff_ne, ne_eq, Bool.not_eq_true', Bool.and_eq_false_iff, beq_eq_false_iff_ne] at h
  obtain ⟨⟨hf, h0⟩, h5⟩ := h
  have e : valT v = kv v := by
    unfold valT kv
    by_cases h : vk v = 5
    · have hl : 0 < (vl v).length := by
        rcases h5 with h5 | h5
        · exact (h5 h).elim
        · omega
      rw [if_pos (by simp [h]), if_pos (by simp [h, hl])]
    · rw [if_neg (by simp [h]), if_neg (by simp [h])]
  rw [e]
  refine ⟨⟨hf, by simp [sitB]⟩, ?_⟩
  unfold tyOk
  rcases kv_cases hf with ⟨a, b, c, d⟩ | ⟨a, b, c⟩ | ⟨a, b, c, d, e⟩
  · omega
  · rcases h5 with h5 | h5
    · exact (h5 a).elim
    · omega
  · omega
theorem tF_ok {fs : List D} (hk : factsOk fs) {f : D} (h : f ∈ fs) : tyOk (tF f) := by
  have := hk f h
  unfold tF tyOk
  split
  · rw [wrap_inY (by omega) (by omega)]; omega
  · omega
theorem attR_ok {fs : List D} (hk : factsOk fs) {who name : List UInt8} {t : Int} (h : attR fs who name = (t, 0)) : tyOk t := by
  unfold attR at h
  cases hf : fs.find? (isOf who name) with
  | none => rw [hf] at h; simp at h
  | some f =>
    rw [hf] at h
    simp only at h
    split at h
    · simp at h
    · have e : tF f = t := congrArg Prod.fst h
      rw [← e]; exact tF_ok hk (List.mem_of_find?_eq_some hf)
theorem leaf_typed {n : Nat} {fs : List D} {s e : D} {t : Int} (hk : factsOk fs) (hs : fitsB fs s = true) (ha : arityI (eop e) = 0) (h : leafR fs e = (t, 0)) : okRes (leafI s e) t ∧ tyOk t := by
  unfold fitsB at hs
  simp only [Bool.and_eq_true] at hs
  obtain ⟨hr, hh⟩ := hs
  have hr' := hr
  simp only [rightB, Bool.and_eq_true, decide_eq_true_eq] at hr'
  obtain ⟨⟨hg, n1⟩, n2⟩ := hr'
  unfold leafR at h
  unfold leafI
  split at h
  · rename_i o
    have o : eop e = sNow := by simpa using o
    have : t = 4 := (congrArg Prod.fst h).symm
    subst this
    rw [o, if_neg (by decide), if_pos (by decide)]
    exact ⟨.inr (.inr ⟨rfl, sit_of (formed_time n1 n2) rfl (by decide)⟩), by unfold tyOk; omega⟩
  split at h
  · rename_i o
    have o : eop e = sRole := by simpa using o
    have : t = 1 := (congrArg Prod.fst h).symm
    subst this
    rw [o, if_neg (by decide), if_neg (by decide), if_pos (by decide)]
    exact ⟨has_tru _, by unfold tyOk; omega⟩
  split at h
  · rename_i o
    have o : eop e = sVal := by simpa using o
    split at h
    · rename_i hl
      have : valT (eV e) = t := congrArg Prod.fst h
      subst this
      rw [o, if_pos (by decide)]
      exact ⟨.inr (.inr ⟨rfl, (valT_kv hl).1⟩), (valT_kv hl).2⟩
    · simp at h
  split at h
  · rename_i o
    have o : eop e = sHas := by simpa using o
    have : t = 1 := by
      unfold hasR at h
      split at h
      · exact (congrArg Prod.fst h).symm
      · simp at h
    subst this
    rw [o, if_neg (by decide), if_neg (by decide), if_neg (by decide), if_pos (by decide)]
    exact ⟨has_tru _, by unfold tyOk; omega⟩
  · rename_i o1 o2 o3 o4
    rw [if_neg o3, if_neg o1, if_neg o2, if_neg o4]
    have ht := attR_ok hk h
    refine ⟨?_, ht⟩
    unfold hadV
    cases hx : (sA s).find? (hadP (ewho e) (ename e)) with
    | none => exact .inl rfl
    | some x =>
      have hm := List.mem_of_find?_eq_some hx
      have hp := List.find?_some hx
      have g1 := List.all_eq_true.1 hg x hm
      have g2 := List.all_eq_true.1 hh x hm
      simp only [goodH, Bool.and_eq_true] at g1
      have hp : ((fwho x == ewho e) && (fname x == ename e)) = true := hp
      simp only [Bool.and_eq_true, beq_iff_eq] at hp
      unfold fitH at g2
      rw [hp.1, hp.2, h] at g2
      simp only [Bool.and_eq_true] at g2
      exact .inr (.inr ⟨rfl, g1.1, g2.2⟩)

/-! ### All -/
theorem typ_fm : ∀ {n : Nat} {fs : List D} {e : D} {t : Int}, typR n fs e = (t, 0) → fmD n e = true
  | 0, _, _, _, h => by simp [typR] at h
  | n + 1, fs, e, t, h => by
    rw [fmD_good]
    unfold typR at h
    split at h
    · simp at h
    rename_i c1
    have c1 : ¬(arityI (eop e) < 0) ∧ ((eps e).length : Int) = arityI (eop e) := by simpa [lt0] using c1
    split at h
    · rename_i c2
      have c2 : arityI (eop e) = 0 := by simpa using c2
      have hl : (eps e).length = 0 := by omega
      have hn : eps e = [] := List.length_eq_zero_iff.1 hl
      rw [hn, List.all_nil, Bool.and_true]
      unfold goodE
      rw [c1.2, beq_self_eq_true, Bool.true_and]
      rcases tf (eop e == sVal) with o | o
      · have o' : eop e = sVal := by simpa using o
        unfold leafR at h
        rw [o'] at h
        rw [if_neg (by decide), if_neg (by decide), if_pos (by decide)] at h
        split at h
        · rename_i hl; rw [hl]; simp
        · simp at h
      · rw [o]; rfl
    rename_i c2
    have c2 : arityI (eop e) ≠ 0 := by simpa using c2
    have hv : (eop e == sVal) = false := neq_ar (by rw [show arityI sVal = 0 from by decide]; exact c2)
    have G : goodE e = true := by unfold goodE; rw [c1.2, hv]; simp
    rw [G, Bool.true_and]
    have aC := arity_cases (eop e)
    split at h
    · rename_i c3
      have c3 : (typR n fs (part e 0)).2 ≠ 0 := by simpa using c3
      exact (c3 (congrArg Prod.snd h)).elim
    rename_i c3
    have c3 : (typR n fs (part e 0)).2 = 0 := by simpa using c3
    have f0 : fmD n (part e 0) = true := typ_fm (t := (typR n fs (part e 0)).1) (by rw [← c3])
    split at h
    · rename_i c4
      have c4 : arityI (eop e) = 2 := by simpa using c4
      split at h
      · rename_i c5
        have c5 : (typR n fs (part e 1)).2 ≠ 0 := by simpa using c5
        exact (c5 (congrArg Prod.snd h)).elim
      rename_i c5
      have c5 : (typR n fs (part e 1)).2 = 0 := by simpa using c5
      have f1 : fmD n (part e 1) = true := typ_fm (t := (typR n fs (part e 1)).1) (by rw [← c5])
      have hl : (eps e).length = 2 := by omega
      match hp : eps e, hl with
      | [x, y], _ =>
        have e0 : part e 0 = x := by unfold part; rw [hp]; rfl
        have e1 : part e 1 = y := by unfold part; rw [hp]; rfl
        rw [e0] at f0; rw [e1] at f1
        simp [f0, f1]
    · rename_i c4
      have c4 : arityI (eop e) ≠ 2 := by simpa using c4
      have hl : (eps e).length = 1 := by omega
      match hp : eps e, hl with
      | [x], _ =>
        have e0 : part e 0 = x := by unfold part; rw [hp]; rfl
        rw [e0] at f0
        simp [f0]
theorem way_ty {op : List UInt8} {a b t : Int} (h : wayT op a b = (t, 0)) : tyOk t := by
  have hm := way_mem h
  have key : ∀ w ∈ waysP, w.2.2.2 = 1 ∨ w.2.2.2 = 2 ∨ w.2.2.2 = 4 := by decide
  have := key _ hm
  unfold tyOk; simp only at this; omega
theorem ev_typed : ∀ {n : Nat} {fs : List D} {s e : D} {t : Int}, factsOk fs → fitsB fs s = true → typR n fs e = (t, 0) → okRes (evI n s e) t ∧ tyOk t
  | 0, _, _, _, _, _, _, h => by simp [typR] at h
  | n + 1, fs, s, e, t, hk, hs, h => by
    rw [evI_succ]
    unfold typR at h
    split at h
    · simp at h
    rename_i c1
    have c1 : ¬(arityI (eop e) < 0) ∧ ((eps e).length : Int) = arityI (eop e) := by simpa [lt0] using c1
    split at h
    · rename_i c2
      have c2 : arityI (eop e) = 0 := by simpa using c2
      rw [if_pos (by rw [c1.2, c2]; decide)]
      exact leaf_typed (n := n) hk hs c2 h
    rename_i c2
    have c2 : arityI (eop e) ≠ 0 := by simpa using c2
    rw [if_neg (by rw [c1.2]; simpa using c2)]
    have aC := arity_cases (eop e)
    split at h
    · rename_i c3
      have c3 : (typR n fs (part e 0)).2 ≠ 0 := by simpa using c3
      exact (c3 (congrArg Prod.snd h)).elim
    rename_i c3
    have c3 : (typR n fs (part e 0)).2 = 0 := by simpa using c3
    obtain ⟨r0, t0⟩ := ev_typed (e := part e 0) (t := (typR n fs (part e 0)).1) hk hs (by rw [← c3])
    split at h
    · rename_i c4
      have c4 : arityI (eop e) = 2 := by simpa using c4
      split at h
      · rename_i c5
        have c5 : (typR n fs (part e 1)).2 ≠ 0 := by simpa using c5
        exact (c5 (congrArg Prod.snd h)).elim
      rename_i c5
      have c5 : (typR n fs (part e 1)).2 = 0 := by simpa using c5
      obtain ⟨r1, t1⟩ := ev_typed (e := part e 1) (t := (typR n fs (part e 1)).1) hk hs (by rw [← c5])
      refine ⟨?_, way_ty h⟩
      rcases tf (eop e == sAnd) with o | o
      · have o' : eop e = sAnd := by simpa using o
        obtain ⟨a, b, c⟩ := and_or (.inl o') h
        rw [if_pos o]; subst c
        rw [a] at r0; rw [b] at r1
        exact either_typed _ (tst_typed r0) (tst_typed r1)
      rcases tf (eop e == sOr) with o2 | o2
      · have o' : eop e = sOr := by simpa using o2
        obtain ⟨a, b, c⟩ := and_or (.inr o') h
        rw [if_neg (by rw [o]; decide), if_pos o2]; subst c
        rw [a] at r0; rw [b] at r1
        exact either_typed _ (tst_typed r0) (tst_typed r1)
      rw [if_neg (by rw [o]; decide), if_neg (by rw [o2]; decide)]
      split
      · rename_i c
        have c : (evI n s (part e 0)).2 ≠ 0 := by simpa using c
        rcases r0 with r0 | r0 | r0
        · exact .inl r0
        · exact .inr (.inl r0)
        · exact (c r0.1).elim
      rename_i c
      have c : (evI n s (part e 0)).2 = 0 := by simpa using c
      rw [if_neg (by rw [c1.2, c4]; decide)]
      split
      · rename_i d
        have d : (evI n s (part e 1)).2 ≠ 0 := by simpa using d
        rcases r1 with r1 | r1 | r1
        · exact .inl r1
        · exact .inr (.inl r1)
        · exact (d r1.1).elim
      rename_i d
      have d : (evI n s (part e 1)).2 = 0 := by simpa using d
      have h0 : hasT (evI n s (part e 0)).1 (typR n fs (part e 0)).1 := by
        rcases r0 with r0 | r0 | r0
        · omega
        · omega
        · exact r0.2
      have h1 : hasT (evI n s (part e 1)).1 (typR n fs (part e 1)).1 := by
        rcases r1 with r1 | r1 | r1
        · omega
        · omega
        · exact r1.2
      refine two_typed ⟨by simpa using o, by simpa using o2⟩ ?_ h h0 h1
      unfold tyOk at t1; omega
    · rename_i c4
      have c4 : arityI (eop e) ≠ 2 := by simpa using c4
      refine ⟨?_, way_ty h⟩
      have l1 : arityI (eop e) = 1 := by omega
      have o : (eop e == sAnd) = false := neq_ar (by rw [ar_and]; exact c4)
      have o2 : (eop e == sOr) = false := neq_ar (by rw [ar_or]; exact c4)
      rw [if_neg (by rw [o]; decide), if_neg (by rw [o2]; decide)]
      split
      · rename_i c
        have c : (evI n s (part e 0)).2 ≠ 0 := by simpa using c
        rcases r0 with r0 | r0 | r0
        · exact .inl r0
        · exact .inr (.inl r0)
        · exact (c r0.1).elim
      rename_i c
      have c : (evI n s (part e 0)).2 = 0 := by simpa using c
      rw [if_pos (by rw [c1.2, l1]; decide)]
      have h0 : hasT (evI n s (part e 0)).1 (typR n fs (part e 0)).1 := by
        rcases r0 with r0 | r0 | r0
        · omega
        · omega
        · exact r0.2
      exact one_typed h h0
end GP
