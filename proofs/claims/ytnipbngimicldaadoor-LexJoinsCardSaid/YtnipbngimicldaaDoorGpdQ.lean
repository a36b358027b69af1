import Derived.Test.YtnipbngimicldaaDoorGpdS
set_option linter.unusedSimpArgs false
/- The reference tells the same tokens. -/
namespace GP
open Go Go.Proofs
set_option maxRecDepth 100000

/-! ### Tokens of what is left -/
def numQ (s : List UInt8) (most : Int) : Int × Nat :=
  if (decide (runL pDigit s < 1) || decide (19 < runL pDigit s) || endSmall s (runL pDigit s)) || decide (most < (decV (s.take (runL pDigit s)) : Int)) then (0, 0) else ((decV (s.take (runL pDigit s)) : Int), runL pDigit s)
theorem numP_Q (l : List UInt8) (a : Nat) (m : Int) : numP l a m = numQ (l.drop a) m := by
  unfold numP numQ badN endSmall runN
  rw [sub_drop, List.getElem?_drop]
  rfl
def sgnQ (s : List UInt8) : D × Nat := match signsB.find? (hasP s) with
  | some x => (mkT 5 x 0, x.length)
  | none => (mkT 0 [] 0, 0)
def tokQ (s : List UInt8) : D × Nat := match s with
  | [] => (mkT 0 [] 0, 0)
  | c :: r =>
    if pLet c.toNat then (if decide ((64 : Int) < (runL pWord s : Nat)) then (mkT 0 [] 0, 0) else (mkT 1 (s.take (runL pWord s)) 0, runL pWord s))
    else if pDigit c.toNat then (mkT 2 [] (numQ s 9223372036854775807).1, (numQ s 9223372036854775807).2)
    else if c == 64 then (if ((numQ r 1099511627776).2 : Int) == 0 then (mkT 0 [] 0, 0) else (mkT 4 [] (numQ r 1099511627776).1, (numQ r 1099511627776).2 + 1))
    else if c == 34 then (mkT 3 (txtL r [] 1).1 0, (txtL r [] 1).2)
    else sgnQ s
theorem tokP_Q {l : List UInt8} {a : Nat} (h : a < l.length) : tokP l a = tokQ (l.drop a) := by
  have ex : l[a]? = some l[a] := by simp [h]
  rw [tokP_at h, drop_at ex]
  have d1 : l.drop a = l[a] :: l.drop (a + 1) := drop_at ex
  unfold tokC tokQ tokS sgnQ txtP runN
  rw [sub_drop, numP_Q, numP_Q]
  simp only [d1]
  rfl

/-! ### Signs -/
def signs2 : List (List UInt8) := [[61, 61], [33, 61], [60, 61], [62, 61]]
def signs1 : List (List UInt8) := [[123], [125], [40], [41], [91], [93], [59], [46], [44], [43], [45], [42], [60], [62]]
theorem signsB_12 : signsB = signs2 ++ signs1 := rfl
theorem isSign_12 (s : List UInt8) : isSign s = (signs1.contains s || signs2.contains s) := by
  have e : signsR = signs1 ++ signs2 := rfl
  unfold isSign
  rw [e, List.any_append]
  congr 1 <;> (rw [List.contains_eq_any_beq]; congr 1; funext x; exact BEq.comm)
theorem find_one {s : List UInt8} {n : Nat} : ∀ {L : List (List UInt8)}, (∀ x ∈ L, x.length = n) → L.find? (hasP s) = if L.contains (s.take n) then some (s.take n) else none
  | [], _ => rfl
  | x :: L, h => by
    have hx := h x (by simp)
    have ih := find_one (s := s) (n := n) (L := L) fun y hy => h y (by simp [hy])
    have e : hasP s x = (s.take n == x) := by unfold hasP; rw [hx]
    rw [List.find?_cons, e, ih]
    rcases tf (s.take n == x) with g | g
    · rw [g]
      have g' : s.take n = x := by simpa using g
      simp [List.contains_cons, g']
    · rw [g]
      simp only [List.contains_cons, g, Bool.false_or]
theorem not_two {s : List UInt8} (h : s.length ≠ 2) : signs2.contains s = false := by
  rw [Bool.eq_false_iff]; intro hc
  have := List.contains_iff_mem.1 hc
  have key : ∀ x ∈ signs2, x.length = 2 := by decide
  exact h (key s this)
theorem not_one {s : List UInt8} (h : s.length ≠ 1) : signs1.contains s = false := by
  rw [Bool.eq_false_iff]; intro hc
  have := List.contains_iff_mem.1 hc
  have key : ∀ x ∈ signs1, x.length = 1 := by decide
  exact h (key s this)
theorem isSign_long {s : List UInt8} (h : 2 < s.length) : isSign s = false := by
  rw [isSign_12, not_two (by omega), not_one (by omega)]; rfl
theorem sgnQ_eq (c : UInt8) (r : List UInt8) : sgnQ (c :: r) = if decide (1 < (c :: r).length) && isSign ((c :: r).take 2) then (mkT 5 ((c :: r).take 2) 0, 2) else if isSign [c] then (mkT 5 [c] 0, 1) else (mkT 0 [] 0, 0) := by
  unfold sgnQ
  rw [signsB_12, List.find?_append, find_one (n := 2) (by decide), find_one (n := 1) (by decide)]
  have e1 : (c :: r).take 1 = [c] := rfl
  rw [e1]
  have s1 : isSign [c] = signs1.contains [c] := by rw [isSign_12, not_two (s := [c]) (by simp)]; simp
  cases r with
  | nil =>
    have e2 : [c].take 2 = [c] := rfl
    rw [e2, not_two (s := [c]) (by simp), s1]
    have d : decide (1 < [c].length) = false := by simp
    rw [d]
    rcases tf (signs1.contains [c]) with g | g <;> rw [g] <;> rfl
  | cons d r =>
    have e2 : (c :: d :: r).take 2 = [c, d] := rfl
    have s2 : isSign [c, d] = signs2.contains [c, d] := by rw [isSign_12, not_one (s := [c, d]) (by simp)]; simp
    have dd : decide (1 < (c :: d :: r).length) = true := by simp
    rw [e2, s1, s2, dd]
    rcases tf (signs2.contains [c, d]) with g | g
    · rw [g]; rfl
    · rw [g]
      rcases tf (signs1.contains [c]) with g2 | g2 <;> rw [g2] <;> rfl

/-! ### Texts -/
theorem bodL_long : ∀ (n : Nat) (m out : List UInt8), m.length ≤ n → 64 < out.length → (bodL m out).2 = false
  | _, [], out, _, h => by rw [bodL_nil]; simp; omega
  | 0, _ :: _, _, h, _ => by simp at h
  | n + 1, c :: r, out, hn, h => by
    rw [bodL_cons]
    split
    · rfl
    split
    · cases r with
      | nil => rfl
      | cons d r =>
        simp only
        split
        · rfl
        · exact bodL_long n r _ (by simp at hn ⊢; omega) (by simp; omega)
    · exact bodL_long n r _ (by simp at hn; omega) (by simp; omega)
theorem qL_ge : ∀ (n : Nat) (r : List UInt8) (k : Nat), r.length ≤ n → k + 1 ≤ qL r k
  | _, [], k, _ => by rw [qL_nil]; omega
  | 0, _ :: _, _, h => by simp at h
  | n + 1, c :: r, k, h => by
    rw [qL_cons]
    split
    · omega
    split
    · cases r with
      | nil => simp
      | cons d r => have := qL_ge n r (k + 2) (by simp at h ⊢; omega); simp only; omega
    · have := qL_ge n r (k + 1) (by simp at h; omega); omega
/-- What is told of a text by its parts: up to the quote, its body. -/
def txtR (r out : List UInt8) (k : Nat) : List UInt8 × Nat :=
  if k + r.length < qL r k then ([], 0) else if (bodL (r.take (qL r k - k - 1)) out).2 then ((bodL (r.take (qL r k - k - 1)) out).1, qL r k) else ([], 0)
theorem txt_R : ∀ (n : Nat) (r out : List UInt8) (k : Nat), r.length ≤ n → out.length ≤ 64 → txtL r out k = txtR r out k
  | _, [], out, k, _, _ => by
    unfold txtR; rw [txtL_nil, qL_nil, if_pos (by simp)]
  | 0, _ :: _, _, _, h, _ => by simp at h
  | n + 1, c :: r, out, k, hn, ho => by
    have hn : r.length ≤ n := by simp at hn; omega
    rw [txtL_cons]
    unfold txtR
    rw [qL_cons]
    rcases tf (c == 34) with g1 | g1
    · rw [if_pos g1, if_pos g1, if_neg (by simp)]
      have e : k + 1 - k - 1 = 0 := by omega
      rw [e, List.take_zero, bodL_nil]
      have : decide (((out.length : Nat) : Int) ≤ 64) = true := by simp only [decide_eq_true_eq]; omega
      rw [this, if_pos rfl]
    have n1 : ¬ ((c == 34) = true) := by rw [g1]; decide
    rw [if_neg n1, if_neg n1]
    rcases tf (c == 92) with g2 | g2
    · rw [if_pos g2, if_pos g2]
      have hp : pText (c.toNat : Int) = true := by
        have : c = 92 := by simpa using g2
        subst this; decide
      cases r with
      | nil => simp only; rw [if_pos (by simp)]
      | cons d r =>
        simp only
        have hge := qL_ge _ r (k + 2) (Nat.le_refl _)
        have ih := fun o ho => txt_R n r o (k + 2) (by simp at hn; omega) ho
        have hlen : (c :: d :: r).length = r.length + 2 := rfl
        by_cases hq : k + (c :: d :: r).length < qL r (k + 2)
        · rw [if_pos hq]
          split
          · rfl
          split
          · rfl
          · rename_i h64
            have h64 : out.length + 1 ≤ 64 := by simp only [decide_eq_true_eq] at h64; omega
            rw [ih _ (by simp; omega)]
            unfold txtR; rw [if_pos (by omega)]
        · rw [if_neg hq]
          have et : (c :: d :: r).take (qL r (k + 2) - k - 1) = c :: d :: r.take (qL r (k + 2) - (k + 2) - 1) := by
            have : qL r (k + 2) - k - 1 = (qL r (k + 2) - (k + 2) - 1) + 2 := by omega
            rw [this]; rfl
          have eB : ∀ m, bodL (c :: d :: m) out = if (d != 34) && (d != 92) then ([], false) else bodL m (out ++ [d]) := fun m => by
            rw [bodL_cons, if_neg (by rw [g1, hp]; decide), if_pos g2]
          rw [et, eB]
          rcases tf ((d != 34) && (d != 92)) with g3 | g3
          · rw [if_pos g3, if_pos g3]; rfl
          have n3 : ¬ (((d != 34) && (d != 92)) = true) := by rw [g3]; decide
          rw [if_neg n3, if_neg n3]
          by_cases h64 : 64 < out.length + 1
          · rw [if_pos (by simpa using h64)]
            have := bodL_long _ (r.take (qL r (k + 2) - (k + 2) - 1)) (out ++ [d]) (Nat.le_refl _) (by simp; omega)
            rw [if_neg (by rw [this]; decide)]
          · rw [if_neg (by simpa using h64), ih _ (by simp; omega)]
            unfold txtR; rw [if_neg (by simp at hq; omega)]
    have n2 : ¬ ((c == 92) = true) := by rw [g2]; decide
    rw [if_neg n2, if_neg n2]
    have hge := qL_ge _ r (k + 1) (Nat.le_refl _)
    have ih := fun o ho => txt_R n r o (k + 1) hn ho
    have hlen : (c :: r).length = r.length + 1 := rfl
    by_cases hq : k + (c :: r).length < qL r (k + 1)
    · rw [if_pos hq]
      split
      · rfl
      split
      · rfl
      · rename_i h64
        have h64 : out.length + 1 ≤ 64 := by simp only [decide_eq_true_eq] at h64; omega
        rw [ih _ (by simp; omega)]
        unfold txtR; rw [if_pos (by omega)]
    · rw [if_neg hq]
      have et : (c :: r).take (qL r (k + 1) - k - 1) = c :: r.take (qL r (k + 1) - (k + 1) - 1) := by
        have : qL r (k + 1) - k - 1 = (qL r (k + 1) - (k + 1) - 1) + 1 := by omega
        rw [this]; rfl
      have eB : ∀ m, bodL (c :: m) out = if !(pText c.toNat) then ([], false) else bodL m (out ++ [c]) := fun m => by
        rw [bodL_cons, g1, Bool.false_or, if_neg n2]
      rw [et, eB]
      rcases tf (!(pText (c.toNat : Int))) with g3 | g3
      · rw [if_pos g3, if_pos g3]; rfl
      have n3 : ¬ ((!(pText (c.toNat : Int))) = true) := by rw [g3]; decide
      rw [if_neg n3, if_neg n3]
      by_cases h64 : 64 < out.length + 1
      · rw [if_pos (by simpa using h64)]
        have := bodL_long _ (r.take (qL r (k + 1) - (k + 1) - 1)) (out ++ [c]) (Nat.le_refl _) (by simp; omega)
        rw [if_neg (by rw [this]; decide)]
      · rw [if_neg (by simpa using h64), ih _ (by simp; omega)]
        unfold txtR; rw [if_neg (by simp at hq; omega)]
/-- Where a text is closed its last byte is a quote. -/
theorem qL_last : ∀ (n : Nat) (r : List UInt8) (k : Nat), r.length ≤ n → qL r k ≤ k + r.length → r[qL r k - k - 1]? = some 34
  | _, [], k, _, h => by rw [qL_nil] at h; exfalso; simp at h; omega
  | 0, _ :: _, _, h, _ => by simp at h
  | n + 1, c :: r, k, hn, h => by
    have hn : r.length ≤ n := by simp at hn; omega
    rw [qL_cons] at h ⊢
    rcases tf (c == 34) with g1 | g1
    · rw [if_pos g1]
      have : c = 34 := by simpa using g1
      subst this
      have e : k + 1 - k - 1 = 0 := by omega
      rw [e]; rfl
    have n1 : ¬ ((c == 34) = true) := by rw [g1]; decide
    rw [if_neg n1] at h ⊢
    rcases tf (c == 92) with g2 | g2
    · rw [if_pos g2] at h ⊢
      cases r with
      | nil => simp only at h; simp at h
      | cons d r =>
        simp only at h ⊢
        have hge := qL_ge _ r (k + 2) (Nat.le_refl _)
        have ih := qL_last n r (k + 2) (by simp at hn; omega) (by simp at h; omega)
        have : qL r (k + 2) - k - 1 = (qL r (k + 2) - (k + 2) - 1) + 2 := by omega
        rw [this]
        simpa using ih
    have n2 : ¬ ((c == 92) = true) := by rw [g2]; decide
    rw [if_neg n2] at h ⊢
    have hge := qL_ge _ r (k + 1) (Nat.le_refl _)
    have ih := qL_last n r (k + 1) hn (by simp at h; omega)
    have : qL r (k + 1) - k - 1 = (qL r (k + 1) - (k + 1) - 1) + 1 := by omega
    rw [this]
    simpa using ih
theorem body_text {r : List UInt8} (h : qL r 1 ≤ (34 :: r).length) : bodyR ((34 :: r).take (qL r 1)) = bodL (r.take (qL r 1 - 1 - 1)) [] := by
  have hge := qL_ge _ r 1 (Nat.le_refl _)
  have hl := qL_last _ r 1 (Nat.le_refl _) (by simp at h; omega)
  obtain ⟨n, hn⟩ : ∃ n, qL r 1 = n := ⟨_, rfl⟩
  rw [hn] at h hge hl ⊢
  have hlen : ((34 :: r).take n).length = n := by simp at h ⊢; omega
  unfold bodyR
  rw [hlen]
  rw [if_neg (by simp; omega)]
  have h0 : ((34 :: r).take n)[0]? = some (34 : UInt8) := by
    rw [List.getElem?_take, if_pos (by omega)]; rfl
  have h1 : ((34 :: r).take n)[n - 1]? = some (34 : UInt8) := by
    rw [List.getElem?_take, if_pos (by omega)]
    have : n - 1 = (n - 1 - 1) + 1 := by omega
    rw [this]; simpa using hl
  rw [h0, h1, if_neg (by decide)]
  congr 1
  rw [List.take_take, Nat.min_eq_left (by omega)]
  have : n - 1 = (n - 1 - 1) + 1 := by omega
  rw [this]; rfl
end GP
set_option linter.unusedSimpArgs false
/- The reference tells the same tokens: by what they begin with. -/
namespace GP
open Go Go.Proofs
set_option maxRecDepth 100000

theorem lenR_cons (c : UInt8) (r : List UInt8) : lenR (c :: r) =
    if pLet c.toNat then 1 + runL pWord r else
    if pDigit c.toNat || c == 64 then (if endSmall (c :: r) (1 + runL pDigit r) then 0 else 1 + runL pDigit r) else
    if c == 34 then (if decide ((c :: r).length < qL r 1) then 0 else qL r 1) else
    if decide (1 < (c :: r).length) && isSign ((c :: r).take 2) then 2 else 1 := rfl
theorem tokQ_cons (c : UInt8) (r : List UInt8) : tokQ (c :: r) =
    if pLet c.toNat then (if decide ((64 : Int) < (runL pWord (c :: r) : Nat)) then (mkT 0 [] 0, 0) else (mkT 1 ((c :: r).take (runL pWord (c :: r))) 0, runL pWord (c :: r)))
    else if pDigit c.toNat then (mkT 2 [] (numQ (c :: r) 9223372036854775807).1, (numQ (c :: r) 9223372036854775807).2)
    else if c == 64 then (if ((numQ r 1099511627776).2 : Int) == 0 then (mkT 0 [] 0, 0) else (mkT 4 [] (numQ r 1099511627776).1, (numQ r 1099511627776).2 + 1))
    else if c == 34 then (mkT 3 (txtL r [] 1).1 0, (txtL r [] 1).2)
    else sgnQ (c :: r) := rfl
theorem wordB_cons (c : UInt8) (r : List UInt8) : wordB (c :: r) = (pLet c.toNat && r.all (fun b => pWord b.toNat) && decide (((c :: r).length : Int) ≤ 64)) := rfl
theorem word_no {c : UInt8} {r : List UInt8} (h : pLet c.toNat = false) : wordB (c :: r) = false := by
  simp [wordB, h]
theorem val_no {c : UInt8} {r : List UInt8} {m : Int} (h : pDigit c.toNat = false) : (valR (c :: r) m).2 = false := by
  unfold valR
  have : (c :: r).all isDig = false := by simp [isDig, h]
  rw [this]; rfl
theorem take_c (c : UInt8) (r : List UInt8) (n : Nat) : (c :: r).take (1 + n) = c :: r.take n := by rw [Nat.add_comm]; rfl
theorem let_dig {n : Int} (h : pLet n = true) : pDigit n = false := by
  simp only [pLet, pDigit, Bool.and_eq_true, Bool.and_eq_false_iff, decide_eq_true_eq, decide_eq_false_iff_not] at h ⊢; omega
theorem let_ne {c : UInt8} (h : pLet c.toNat = true) : (c == 64) = false ∧ (c == 34) = false := by
  refine ⟨?_, ?_⟩ <;> (rw [beq_eq_false_iff_ne]; rintro rfl; exact absurd h (by decide))
theorem dig_let {n : Int} (h : pDigit n = true) : pLet n = false := by
  simp only [pLet, pDigit, Bool.and_eq_true, Bool.and_eq_false_iff, decide_eq_true_eq, decide_eq_false_iff_not] at h ⊢; omega
theorem dig_ne {c : UInt8} (h : pDigit c.toNat = true) : (c == 64) = false ∧ (c == 34) = false := by
  refine ⟨?_, ?_⟩ <;> (rw [beq_eq_false_iff_ne]; rintro rfl; exact absurd h (by decide))
/-- A text that is neither a word, nor a number, nor a time, nor a text. -/
theorem one_sign {c : UInt8} {r : List UInt8} (h1 : wordB (c :: r) = false) (h2 : (valR (c :: r) 9223372036854775807).2 = false) (h3 : (c == 64) = false) (h4 : (c == 34) = false) : oneR (c :: r) = (mkT 5 (c :: r) 0, isSign (c :: r)) := by
  unfold oneR
  have e0 : ((c :: r) == []) = false := rfl
  have e1 : ((c :: r)[0]? == some 64) = (c == 64) := rfl
  have e2 : ((c :: r)[0]? == some 34) = (c == 34) := rfl
  rw [e0, h1, h2, e1, e2, h3, h4]
  simp only [Bool.false_eq_true, if_false]
/-- What both tell. -/
def agree (s : List UInt8) : Prop :=
  if (((lenR s : Nat) : Int) == 0) || !(oneR (s.take (lenR s))).2 then (tokQ s).2 = 0 else tokQ s = ((oneR (s.take (lenR s))).1, lenR s)
theorem agree_zero {s : List UInt8} (h1 : lenR s = 0) (h2 : (tokQ s).2 = 0) : agree s := by
  unfold agree; rw [if_pos (by rw [h1]; rfl)]; exact h2
theorem agree_no {s : List UInt8} (h1 : (oneR (s.take (lenR s))).2 = false) (h2 : (tokQ s).2 = 0) : agree s := by
  unfold agree; rw [if_pos (by rw [h1]; simp)]; exact h2
theorem agree_yes {s : List UInt8} {d : D} {n : Nat} (h0 : lenR s = n) (hn : n ≠ 0) (h1 : oneR (s.take n) = (d, true)) (h2 : tokQ s = (d, n)) : agree s := by
  unfold agree; rw [h0, h1, if_neg ?_]
  · exact h2
  · simp; exact hn
theorem decV_dig {l : List UInt8} (hd : ∀ b ∈ l, isDig b = true) (h2 : l.length ≤ 19) : decV l < 10 ^ 19 := Nat.lt_of_lt_of_le (decV_lt hd h2) (Nat.pow_le_pow_right (by decide) h2)
theorem all_dig {l : List UInt8} (hd : ∀ b ∈ l, isDig b = true) : l.all isDig = true := List.all_eq_true.2 hd
theorem val_dig {l : List UInt8} {m : Int} (hd : ∀ b ∈ l, isDig b = true) (h2 : l.length ≤ 19) : valR l m = (IntKind.i64.wrap (decV l : Int), decide ((0 : Int) < l.length) && decide ((decV l : Int) ≤ m)) := by
  unfold valR; rw [if_pos]; rw [all_dig hd]; simpa using h2
theorem val_long {l : List UInt8} {m : Int} (h2 : 19 < l.length) : valR l m = (0, false) := by
  unfold valR; rw [if_neg]; simp only [Bool.and_eq_true, decide_eq_true_eq, not_and]; omega
theorem take_run (p : Int → Bool) (r : List UInt8) : (r.take (runL p r)).length = runL p r := by
  have := runL_le p r; simp; omega
theorem agree_let {c : UInt8} {r : List UInt8} (g : pLet c.toNat = true) : agree (c :: r) := by
  have e0 : lenR (c :: r) = 1 + runL pWord r := by rw [lenR_cons, if_pos g]
  have hw : pWord (c.toNat : Int) = true := by rw [pWord_let, g]; rfl
  have e1 := runL_cons (p := pWord) c r hw
  have ht := take_c c r (runL pWord r)
  have hr := take_run pWord r
  have hall : (r.take (runL pWord r)).all (fun b => pWord b.toNat) = true := List.all_eq_true.2 fun b hb => run_all (p := pWord) r b hb
  have eT : tokQ (c :: r) = if decide ((64 : Int) < (runL pWord (c :: r) : Nat)) then (mkT 0 [] 0, 0) else (mkT 1 ((c :: r).take (runL pWord (c :: r))) 0, runL pWord (c :: r)) := by
    rw [tokQ_cons, if_pos g]
  rw [e1, ht] at eT
  by_cases h64 : 1 + runL pWord r ≤ 64
  · refine agree_yes e0 (by omega) (d := mkT 1 (c :: r.take (runL pWord r)) 0) ?_ ?_
    · rw [ht]
      unfold oneR
      have w : wordB (c :: r.take (runL pWord r)) = true := by
        rw [wordB_cons, g, hall]; simp only [Bool.true_and, decide_eq_true_eq, List.length_cons, hr]; omega
      have z : ((c :: r.take (runL pWord r)) == []) = false := rfl
      rw [z, w]; rfl
    · rw [eT, if_neg (by simp only [decide_eq_true_eq]; omega)]
  · refine agree_no ?_ ?_
    · rw [e0, ht]
      have w : wordB (c :: r.take (runL pWord r)) = false := by
        rw [wordB_cons, g, hall]; simp only [Bool.true_and, decide_eq_false_iff_not, List.length_cons, hr]; omega
      rw [one_sign w (val_no (let_dig g)) (let_ne g).1 (let_ne g).2]
      exact isSign_long (by simp only [List.length_cons, hr]; omega)
    · rw [eT, if_pos (by simp only [decide_eq_true_eq]; omega)]
theorem agree_dig {c : UInt8} {r : List UInt8} (g : pDigit c.toNat = true) : agree (c :: r) := by
  have gl := dig_let g
  have e0 : lenR (c :: r) = if endSmall (c :: r) (1 + runL pDigit r) then 0 else 1 + runL pDigit r := by
    rw [lenR_cons, if_neg (by rw [gl]; decide), if_pos (by rw [g]; rfl)]
  have e1 := runL_cons (p := pDigit) c r g
  have ht := take_c c r (runL pDigit r)
  have hr := take_run pDigit r
  have eT : tokQ (c :: r) = (mkT 2 [] (numQ (c :: r) 9223372036854775807).1, (numQ (c :: r) 9223372036854775807).2) := by
    rw [tokQ_cons, if_neg (by rw [gl]; decide), if_pos g]
  have hd : ∀ b ∈ c :: r.take (runL pDigit r), isDig b = true := fun b hb => by
    rcases List.mem_cons.1 hb with rfl | hb
    · exact g
    · exact run_all (p := pDigit) r b hb
  have hlen : (c :: r.take (runL pDigit r)).length = 1 + runL pDigit r := by simp only [List.length_cons, hr]; omega
  unfold numQ at eT
  rw [e1, ht] at eT
  have hD := decV_lt hd
  have hV := fun m h => val_dig (m := m) hd h
  rw [hlen] at hD hV
  rcases tf (endSmall (c :: r) (1 + runL pDigit r)) with q | q
  · refine agree_zero (by rw [e0, if_pos q]) ?_
    rw [eT, if_pos (by rw [q]; simp)]
  rw [if_neg (by rw [q]; decide)] at e0
  obtain ⟨n, hn⟩ : ∃ n, 1 + runL pDigit r = n := ⟨_, rfl⟩
  obtain ⟨L, hL⟩ : ∃ L, c :: r.take (runL pDigit r) = L := ⟨_, rfl⟩
  have sg : wordB L = false := by rw [← hL]; exact word_no gl
  have one : (valR L 9223372036854775807).2 = false → oneR L = (mkT 5 L 0, isSign L) := fun h => by
    rw [← hL] at sg h ⊢; exact one_sign sg h (dig_ne g).1 (dig_ne g).2
  have zL : (L == []) = false := by rw [← hL]; rfl
  rw [hL] at eT hd hlen hD hV ht
  rw [hn] at eT hlen hD hV e0 q ht
  by_cases h19 : n ≤ 19
  · have hD := hD h19
    have hV := hV 9223372036854775807 h19
    by_cases hm : (decV L : Int) ≤ 9223372036854775807
    · have wv : IntKind.i64.wrap (decV L : Int) = decV L := wrap_in (by omega) (by omega)
      refine agree_yes e0 (by omega) (d := mkT 2 [] (decV L : Int)) ?_ ?_
      · rw [ht]
        unfold oneR
        rw [zL, sg, hV]
        have : (decide ((0 : Int) < (n : Nat)) && decide ((decV L : Int) ≤ 9223372036854775807)) = true := by simp only [Bool.and_eq_true, decide_eq_true_eq]; omega
        simp only [Bool.false_eq_true, if_false, this, if_true, wv]
      · have c1 : decide (n < 1) = false := decide_eq_false (by omega)
        have c2 : decide (19 < n) = false := decide_eq_false (by omega)
        have c3 : decide ((9223372036854775807 : Int) < (decV L : Int)) = false := decide_eq_false (by omega)
        rw [eT, q, c1, c2, c3, if_neg (by decide)]
    · refine agree_no ?_ ?_
      · rw [e0, ht, one (by rw [hV]; simp only [Bool.and_eq_false_iff, decide_eq_false_iff_not]; omega)]
        refine isSign_long ?_
        rw [hlen]
        rcases Nat.lt_or_ge 2 n with h | h
        · exact h
        · exfalso
          have : 10 ^ n ≤ 10 ^ 2 := Nat.pow_le_pow_right (by decide) h
          omega
      · rw [eT, if_pos (by simp only [Bool.or_eq_true, decide_eq_true_eq]; omega)]
  · refine agree_no ?_ ?_
    · rw [e0, ht, one (by rw [val_long (by omega)])]
      exact isSign_long (by omega)
    · rw [eT, if_pos (by simp only [Bool.or_eq_true, decide_eq_true_eq]; omega)]
theorem agree_at {r : List UInt8} : agree (64 :: r) := by
  have gl : pLet (((64 : UInt8).toNat : Int)) = false := by decide
  have gd : pDigit (((64 : UInt8).toNat : Int)) = false := by decide
  have e0 : lenR (64 :: r) = if endSmall (64 :: r) (1 + runL pDigit r) then 0 else 1 + runL pDigit r := by
    rw [lenR_cons, if_neg (by rw [gl]; decide), if_pos (by rw [gd]; rfl)]
  have ht := take_c 64 r (runL pDigit r)
  have hr := take_run pDigit r
  have eT : tokQ (64 :: r) = (if ((numQ r 1099511627776).2 : Int) == 0 then (mkT 0 [] 0, 0) else (mkT 4 [] (numQ r 1099511627776).1, (numQ r 1099511627776).2 + 1)) := by
    rw [tokQ_cons, if_neg (by rw [gl]; decide), if_neg (by rw [gd]; decide), if_pos (by decide)]
  have eS : endSmall (64 :: r) (1 + runL pDigit r) = endSmall r (runL pDigit r) := by
    unfold endSmall; rw [Nat.add_comm, List.getElem?_cons_succ]
  rw [eS] at e0
  have hd : ∀ b ∈ r.take (runL pDigit r), isDig b = true := fun b hb => run_all (p := pDigit) r b hb
  have hD := decV_lt hd
  have hV := fun m h => val_dig (m := m) hd h
  rw [hr] at hD hV
  have one : oneR (64 :: r.take (runL pDigit r)) = (mkT 4 [] (valR (r.take (runL pDigit r)) 1099511627776).1, (valR (r.take (runL pDigit r)) 1099511627776).2) := by
    unfold oneR
    have z : ((64 :: r.take (runL pDigit r)) == []) = false := rfl
    have e1 : ((64 :: r.take (runL pDigit r))[0]? == some (64 : UInt8)) = true := rfl
    rw [z, word_no gl, val_no gd, e1]
    simp only [Bool.false_eq_true, if_false, if_true]
    rfl
  have eN : numQ r 1099511627776 = if (decide (runL pDigit r < 1) || decide (19 < runL pDigit r) || endSmall r (runL pDigit r)) || decide ((1099511627776 : Int) < (decV (r.take (runL pDigit r)) : Int)) then (0, 0) else ((decV (r.take (runL pDigit r)) : Int), runL pDigit r) := rfl
  obtain ⟨n, hn⟩ : ∃ n, runL pDigit r = n := ⟨_, rfl⟩
  rw [hn] at eN e0 hD hV ht one
  obtain ⟨L, hL⟩ : ∃ L, r.take n = L := ⟨_, rfl⟩
  rw [hn] at hd hr
  rw [hL] at eN hD hV ht one hd hr
  rcases tf (endSmall r n) with q | q
  · refine agree_zero (by rw [e0, if_pos q]) ?_
    rw [eT, eN, if_pos (by rw [q]; simp)]
  rw [if_neg (by rw [q]; decide)] at e0
  by_cases h0 : n = 0
  · refine agree_no ?_ ?_
    · rw [e0, ht, one, hV _ (by omega)]
      have : decide ((0 : Int) < (n : Nat)) = false := decide_eq_false (by omega)
      rw [this]; rfl
    · have c1 : decide (n < 1) = true := decide_eq_true (by omega)
      rw [eT, eN, c1, if_pos (by rfl)]
  by_cases h19 : n ≤ 19
  · have hD := hD h19
    have hV := hV 1099511627776 h19
    by_cases hm : (decV L : Int) ≤ 1099511627776
    · have wv : IntKind.i64.wrap (decV L : Int) = decV L := wrap_in (by omega) (by omega)
      refine agree_yes e0 (by omega) (d := mkT 4 [] (decV L : Int)) ?_ ?_
      · rw [ht, one, hV]
        have : (decide ((0 : Int) < (n : Nat)) && decide ((decV L : Int) ≤ 1099511627776)) = true := by simp only [Bool.and_eq_true, decide_eq_true_eq]; omega
        rw [this, wv]
      · have c1 : ((decide (n < 1) || decide (19 < n) || endSmall r n) || decide ((1099511627776 : Int) < (decV L : Int))) = false := by
          have c1 : decide (n < 1) = false := decide_eq_false (by omega)
          have c2 : decide (19 < n) = false := decide_eq_false (by omega)
          have c3 : decide ((1099511627776 : Int) < (decV L : Int)) = false := decide_eq_false (by omega)
          rw [q, c1, c2, c3]; rfl
        rw [c1, if_neg (by decide)] at eN
        rw [eT, eN, if_neg (by simp; exact h0)]
        rw [Nat.add_comm]
    · refine agree_no ?_ ?_
      · rw [e0, ht, one, hV]
        have c3 : decide ((decV L : Int) ≤ 1099511627776) = false := decide_eq_false (by omega)
        rw [c3, Bool.and_false]
      · have c3 : decide ((1099511627776 : Int) < (decV L : Int)) = true := decide_eq_true (by omega)
        rw [eT, eN, c3, if_pos (by simp)]
  · refine agree_no ?_ ?_
    · rw [e0, ht, one, val_long (by omega)]
    · have c2 : decide (19 < n) = true := decide_eq_true (by omega)
      rw [eT, eN, c2, if_pos (by simp)]
theorem agree_text {r : List UInt8} : agree (34 :: r) := by
  have gl : pLet (((34 : UInt8).toNat : Int)) = false := by decide
  have gd : pDigit (((34 : UInt8).toNat : Int)) = false := by decide
  have e0 : lenR (34 :: r) = if decide ((34 :: r).length < qL r 1) then 0 else qL r 1 := by
    rw [lenR_cons, if_neg (by rw [gl]; decide), if_neg (by rw [gd]; decide), if_pos (by decide)]
  have eT : tokQ (34 :: r) = (mkT 3 (txtL r [] 1).1 0, (txtL r [] 1).2) := by
    rw [tokQ_cons, if_neg (by rw [gl]; decide), if_neg (by rw [gd]; decide), if_neg (by decide), if_pos (by decide)]
  rw [txt_R _ r [] 1 (Nat.le_refl _) (by simp)] at eT
  have hlen : (34 :: r).length = r.length + 1 := rfl
  have hge := qL_ge _ r 1 (Nat.le_refl _)
  by_cases hq : (34 :: r).length < qL r 1
  · refine agree_zero (by rw [e0, if_pos (by simpa using hq)]) ?_
    rw [eT]; unfold txtR; rw [if_pos (by omega)]
  rw [if_neg (by simpa using hq)] at e0
  have hb := body_text (r := r) (by omega)
  have one : oneR ((34 :: r).take (qL r 1)) = (mkT 3 (bodL (r.take (qL r 1 - 1 - 1)) []).1 0, (bodL (r.take (qL r 1 - 1 - 1)) []).2) := by
    have ht : (34 :: r).take (qL r 1) = 34 :: r.take (qL r 1 - 1) := by
      have : qL r 1 = (qL r 1 - 1) + 1 := by omega
      rw [this]; rfl
    rw [ht] at hb ⊢
    unfold oneR
    have z : ((34 :: r.take (qL r 1 - 1)) == []) = false := rfl
    have e1 : ((34 :: r.take (qL r 1 - 1))[0]? == some (64 : UInt8)) = false := rfl
    have e2 : ((34 :: r.take (qL r 1 - 1))[0]? == some (34 : UInt8)) = true := rfl
    rw [z, word_no gl, val_no gd, e1, e2, hb]
    simp only [Bool.false_eq_true, if_false, if_true]
  unfold txtR at eT
  rw [if_neg (by omega)] at eT
  obtain ⟨⟨o, b⟩, hB⟩ : ∃ z, bodL (r.take (qL r 1 - 1 - 1)) [] = z := ⟨_, rfl⟩
  rw [hB] at eT one
  cases b with
  | true =>
    refine agree_yes e0 (by omega) (d := mkT 3 o 0) one ?_
    rw [eT]; rfl
  | false =>
    refine agree_no ?_ ?_
    · rw [e0, one]
    · rw [eT]; rfl
theorem agree_all (c : UInt8) (r : List UInt8) : agree (c :: r) := by
  rcases tf (pLet (c.toNat : Int)) with g1 | g1
  · exact agree_let g1
  rcases tf (pDigit (c.toNat : Int)) with g2 | g2
  · exact agree_dig g2
  rcases tf (c == 64) with g3 | g3
  · have : c = 64 := by simpa using g3
    subst this; exact agree_at
  rcases tf (c == 34) with g4 | g4
  · have : c = 34 := by simpa using g4
    subst this; exact agree_text
  have e0 : lenR (c :: r) = if decide (1 < (c :: r).length) && isSign ((c :: r).take 2) then 2 else 1 := by
    rw [lenR_cons, if_neg (by rw [g1]; decide), if_neg (by rw [g2, g3]; decide), if_neg (by rw [g4]; decide)]
  have eT : tokQ (c :: r) = sgnQ (c :: r) := by
    rw [tokQ_cons, if_neg (by rw [g1]; decide), if_neg (by rw [g2]; decide), if_neg (by rw [g3]; decide), if_neg (by rw [g4]; decide)]
  rw [sgnQ_eq] at eT
  rcases tf (decide (1 < (c :: r).length) && isSign ((c :: r).take 2)) with q | q
  · rw [if_pos q] at e0 eT
    simp only [Bool.and_eq_true] at q
    have ht : (c :: r).take 2 = c :: r.take 1 := rfl
    refine agree_yes e0 (by decide) (d := mkT 5 ((c :: r).take 2) 0) ?_ eT
    have q2 := q.2
    rw [ht] at q2 ⊢
    rw [one_sign (word_no g1) (val_no g2) g3 g4, q2]
  · rw [if_neg (by rw [q]; decide)] at e0 eT
    have ht : (c :: r).take 1 = [c] := rfl
    rcases tf (isSign [c]) with q2 | q2
    · rw [if_pos q2] at eT
      refine agree_yes e0 (by decide) (d := mkT 5 [c] 0) ?_ eT
      rw [ht, one_sign (word_no g1) (val_no g2) g3 g4, q2]
    · rw [if_neg (by rw [q2]; decide)] at eT
      refine agree_no ?_ ?_
      · rw [e0, ht, one_sign (word_no g1) (val_no g2) g3 g4, q2]
      · rw [eT]
theorem lenR_le (c : UInt8) (r : List UInt8) : lenR (c :: r) ≤ (c :: r).length := by
  have h1 := runL_le pWord r
  have h2 := runL_le pDigit r
  have h3 : (c :: r).length = r.length + 1 := rfl
  rw [lenR_cons]
  split
  · omega
  split
  · split <;> omega
  split
  · split
    · omega
    · rename_i h; simp only [decide_eq_true_eq] at h; omega
  split
  · rename_i h; simp only [Bool.and_eq_true, decide_eq_true_eq] at h; omega
  · omega
end GP
