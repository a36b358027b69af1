import Derived.Test.YtnipbngimicldaaDoorGpdS
set_option linter.unusedSimpArgs false
/- The reference tells the same tokens. -/
namespace GP
open Go Go.Proofs
set_option maxRecDepth 100000

/-! ### Tokens of what is left -/
def numQ (s : List UInt8) (most : Int) : Int × Nat :=
  if (decide (runL pDigit s < 1) || decide (19 < runL pDigit s) || endSmall s (runL pDigit s)) || decide (most < (decV (s.take (runL pDigit s)) : Int)) then (0, 0) else ((decV (s.take (runL pDigit s)) : Int), runL pDigit s)
theorem numP_Q (l : List UInt8) (a : Nat) (m : Int) : numP l a m = numQ (l.drop a) m := by
  unfold numP numQ badN endSmall runN
  rw [sub_drop, List.getElem?_drop]
  rfl
def sgnQ (s : List UInt8) : D × Nat := match signsB.find? (hasP s) with
  | some x => (mkT 5 x 0, x.length)
  | none => (mkT 0 [] 0, 0)
def tokQ (s : List UInt8) : D × Nat := match s with
  | [] => (mkT 0 [] 0, 0)
  | c :: r =>
    if pLet c.toNat then (if decide ((64 : Int) < (runL pWord s : Nat)) then (mkT 0 [] 0, 0) else (mkT 1 (s.take (runL pWord s)) 0, runL pWord s))
    else if pDigit c.toNat then (mkT 2 [] (numQ s 9223372036854775807).1, (numQ s 9223372036854775807).2)
    else if c == 64 then (if ((numQ r 1099511627776).2 : Int) == 0 then (mkT 0 [] 0, 0) else (mkT 4 [] (numQ r 1099511627776).1, (numQ r 1099511627776).2 + 1))
    else if c == 34 then (mkT 3 (txtL r [] 1).1 0, (txtL r [] 1).2)
    else sgnQ s
theorem tokP_Q {l : List UInt8} {a : Nat} (h : a < l.length) : tokP l a = tokQ (l.drop a) := by
  have ex : l[a]? = some l[a] := by simp [h]
  rw [tokP_at h, drop_at ex]
  have d1 : l.drop a = l[a] :: l.drop (a + 1) := drop_at ex
  unfold tokC tokQ tokS sgnQ txtP runN
  rw [sub_drop, numP_Q, numP_Q]
  simp only [d1]
  rfl

/-! ### Signs -/
def signs2 : List (List UInt8) := [[61, 61], [33, 61], [60, 61], [62, 61]]
def signs1 : List (List UInt8) := [[123], [125], [40], [41], [91], [93], [59], [46], [44], [43], [45], [42], [60], [62]]
theorem signsB_12 : signsB = signs2 ++ signs1 := rfl
theorem isSign_12 (s : List UInt8) : isSign s = (signs1.contains s || signs2.contains s) := by
  have e : signsR = signs1 ++ signs2 := rfl
  unfold isSign
  rw [e, List.any_append]
  congr 1 <;> (rw [List.contains_eq_any_beq]; congr 1; funext x; exact BEq.comm)
theorem find_one {s : List UInt8} {n : Nat} : ∀ {L : List (List UInt8)}, (∀ x ∈ L, x.length = n) → L.find? (hasP s) = if L.contains (s.take n) then some (s.take n) else none
  | [], _ => rfl
  | x :: L, h => by
    have hx := h x (by simp)
    have ih := find_one (s := s) (n := n) (L := L) fun y hy => h y (by simp [hy])
    have e : hasP s x = (s.take n == x) := by unfold hasP; rw [hx]
    rw [List.find?_cons, e, ih]
    rcases tf (s.take n == x) with g | g
    · rw [g]
      have g' : s.take n = x := by simpa using g
      simp [List.contains_cons, g']
    · rw [g]
      simp only [List.contains_cons, g, Bool.false_or]
theorem not_two {s : List UInt8} (h : s.length ≠ 2) : signs2.contains s = false := by
  rw [Bool.eq_false_iff]; intro hc
  have := List.contains_iff_mem.1 hc
  have key : ∀ x ∈ signs2, x.length = 2 := by decide
  exact h (key s this)
theorem not_one {s : List UInt8} (h : s.length ≠ 1) : signs1.contains s = false := by
  rw [Bool.eq_false_iff]; intro hc
  have := List.contains_iff_mem.1 hc
  have key : ∀ x ∈ signs1, x.length = 1 := by decide
  exact h (key s this)
theorem isSign_long {s : List UInt8} (h : 2 < s.length) : isSign s = false := by
  rw [isSign_12, not_two (by omega), not_one (by omega)]; rfl
theorem sgnQ_eq (c : UInt8) (r : List UInt8) : sgnQ (c :: r) = if decide (1 < (c :: r).length) && isSign ((c :: r).take 2) then (mkT 5 ((c :: r).take 2) 0, 2) else if isSign [c] then (mkT 5 [c] 0, 1) else (mkT 0 [] 0, 0) := by
  unfold sgnQ
  rw [signsB_12, List.find?_append, find_one (n := 2) (by decide), find_one (n := 1) (by decide)]
  have e1 : (c :: r).take 1 = [c] := rfl
  rw [e1]
  have s1 : isSign [c] = signs1.contains [c] := by rw [isSign_12, not_two (s := [c]) (by simp)]; simp
  cases r with
  | nil =>
    have e2 : [c].take 2 = [c] := rfl
    rw [e2, not_two (s := [c]) (by simp), s1]
    have d : decide (1 < [c].length) = false := by simp
    rw [d]
    rcases tf (signs1.contains [c]) with g | g <;> rw [g] <;> rfl
  | cons d r =>
    have e2 : (c :: d :: r).take 2 = [c, d] := rfl
    have s2 : isSign [c, d] = signs2.contains [c, d] := by rw [isSign_12, not_one (s := [c, d]) (by simp)]; simp
    have dd : decide (1 < (c :: d :: r).length) = true := by simp
    rw [e2, s1, s2, dd]
    rcases tf (signs2.contains [c, d]) with g | g
    · rw [g]; rfl
    · rw [g]
      rcases tf (signs1.contains [c]) with g2 | g2 <;> rw [g2] <;> rfl

/-! ### Texts -/
theorem bodL_long : ∀ (n : Nat) (m out : List UInt8), m.length ≤ n → 64 < out.length → (bodL m out).2 = false
  | _, [], out, _, h => by rw [bodL_nil]; simp; omega
  | 0, _ :: _, _, h, _ => by simp at h
  | n + 1, c :: r, out, hn, h => by
    rw [bodL_cons]
    split
    · rfl
    split
    · cases r with
      | nil => rfl
      | cons d r =>
        simp only
        split
        · rfl
        · exact bodL_long n r _ (by simp at hn ⊢; omega) (by simp; omega)
    · exact bodL_long n r _ (by simp at hn; omega) (by simp; omega)
theorem qL_ge : ∀ (n : Nat) (r : List UInt8) (k : Nat), r.length ≤ n → k + 1 ≤ qL r k
  | _, [], k, _ => by rw [qL_nil]; omega
  | 0, _ :: _, _, h => by simp at h
  | n + 1, c :: r, k, h => by
    rw [qL_cons]
    split
    · omega
    split
    · cases r with
      | nil => simp
      | cons d r => have := qL_ge n r (k + 2) (by simp at h ⊢; omega); simp only; omega
    · have := qL_ge n r (k + 1) (by simp at h; omega); omega
/-- What is told of a text by its parts: up to the quote, its body. -/
def txtR (r out : List UInt8) (k : Nat) : List UInt8 × Nat :=
  if k + r.length < qL r k then ([], 0) else if (bodL (r.take (qL r k - k - 1)) out).2 then ((bodL (r.take (qL r k - k - 1)) out).1, qL r k) else ([], 0)
theorem txt_R : ∀ (n : Nat) (r out : List UInt8) (k : Nat), r.length ≤ n → out.length ≤ 64 → txtL r out k = txtR r out k
  | _, [], out, k, _, _ => by
    unfold txtR; rw [txtL_nil, qL_nil, if_pos (by simp)]
  | 0, _ :: _, _, _, h, _ => by simp at h
  | n + 1, c :: r, out, k, hn, ho => by
    have hn : r.length ≤ n := by simp at hn; omega
    rw [txtL_cons]
    unfold txtR
    rw [qL_cons]
    rcases tf (c == 34) with g1 | g1
    · rw [if_pos g1, if_pos g1, if_neg (by simp)]
      have e : k + 1 - k - 1 = 0 := by omega
      rw [e, List.take_zero, bodL_nil]
      have : decide (((out.length : Nat) : Int) ≤ 64) = true := by simp only [decide_eq_true_eq]; omega
      rw [this, if_pos rfl]
    have n1 : ¬ ((c == 34) = true) := by rw [g1]; decide
    rw [if_neg n1, if_neg n1]
    rcases tf (c == 92) with g2 | g2
    · rw [if_pos g2, if_pos g2]
      have hp : pText (c.toNat : Int) = true := by
        have : c = 92 := by simpa using g2
        subst this; decide
      cases r with
      | nil => simp only; rw [if_pos (by simp)]
      | cons d r =>
        simp only
        have hge := qL_ge _ r (k + 2) (Nat.le_refl _)
        have ih := fun o ho => txt_R n r o (k + 2) (by simp at hn; omega) ho
        have hlen : (c :: d :: r).length = r.length + 2 := rfl
        by_cases hq : k + (c :: d :: r).length < qL r (k + 2)
        · rw [if_pos hq]
          split
          · rfl
          split
          · rfl
          · rename_i h64
            have h64 : out.length + 1 ≤ 64 := by simp only [decide_eq_true_eq] at h64; omega
            rw [ih _ (by simp; omega)]
            unfold txtR; rw [if_pos (by omega)]
        · rw [if_neg hq]
          have et : (c :: d :: r).take (qL r (k + 2) - k - 1) = c :: d :: r.take (qL r (k + 2) - (k + 2) - 1) := by
            have : qL r (k + 2) - k - 1 = (qL r (k + 2) - (k + 2) - 1) + 2 := by omega
            rw [this]; rfl
          have eB : ∀ m, bodL (c :: d :: m) out = if (d != 34) && (d != 92) then ([], false) else bodL m (out ++ [d]) := fun m => by
            rw [bodL_cons, if_neg (by rw [g1, hp]; decide), if_pos g2]
          rw [et, eB]
          rcases tf ((d != 34) && (d != 92)) with g3 | g3
          · rw [if_pos g3, if_pos g3]; rfl
          have n3 : ¬ (((d != 34) && (d != 92)) = true) := by rw [g3]; decide
          rw [if_neg n3, if_neg n3]
          by_cases h64 : 64 < out.length + 1
          · rw [if_pos (by simpa using h64)]
            have := bodL_long _ (r.take (qL r (k + 2) - (k + 2) - 1)) (out ++ [d]) (Nat.le_refl _) (by simp; omega)
            rw [if_neg (by rw [this]; decide)]
          · rw [if_neg (by simpa using h64), ih _ (by simp; omega)]
            unfold txtR; rw [if_neg (by simp at hq; omega)]
    have n2 : ¬ ((c == 92) = true) := by rw [g2]; decide
    rw [if_neg n2, if_neg n2]
    have hge := qL_ge _ r (k + 1) (Nat.le_refl _)
    have ih := fun o ho => txt_R n r o (k + 1) hn ho
    have hlen : (c :: r).length = r.length + 1 := rfl
    by_cases hq : k + (c :: r).length < qL r (k + 1)
    · rw [if_pos hq]
      split
      · rfl
      split
      · rfl
      · rename_i h64
        have h64 : out.length + 1 ≤ 64 := by simp only [decide_eq_true_eq] at h64; omega
        rw [ih _ (by simp; omega)]
        unfold txtR; rw [if_pos (by omega)]
    · rw [if_neg hq]
      have et : (c :: r).take (qL r (k + 1) - k - 1) = c :: r.take (qL r (k + 1) - (k + 1) - 1) := by
        have : qL r (k + 1) - k - 1 = (qL r (k + 1) - (k + 1) - 1) + 1 := by omega
        rw [this]; rfl
      have eB : ∀ m, bodL (c :: m) out = if !(pText c.toNat) then ([], false) else bodL m (out ++ [c]) := fun m => by
        rw [bodL_cons, g1, Bool.false_or, if_neg n2]
      rw [et, eB]
      rcases tf (!(pText (c.toNat : Int))) with g3 | g3
      · rw [if_pos g3, if_pos g3]; rfl
      have n3 : ¬ ((!(pText (c.toNat : Int))) = true) := by rw [g3]; decide
      rw [if_neg n3, if_neg n3]
      by_cases h64 : 64 < out.length + 1
      · rw [if_pos (by simpa using h64)]
        have := bodL_long _ (r.take (qL r (k + 1) - (k + 1) - 1)) (out ++ [c]) (Nat.le_refl _) (by simp; omega)
        rw [if_neg (by rw [this]; decide)]
      · rw [if_neg (by simpa using h64), ih _ (by simp; omega)]
        unfold txtR; rw [if_neg (by simp at hq; omega)]
/-- Where a text is closed its last byte is a quote. -/
theorem qL_last : ∀ (n : Nat) (r : List UInt8) (k : Nat), r.length ≤ n → qL r k ≤ k + r.length → r[qL r k - k - 1]? = some 34
  | _, [], k, _, h => by rw [qL_nil] at h; exfalso; simp at h; omega
  | 0, _ :: _, _, h, _ => by simp at h
  | n + 1, c :: r, k, hn, h => by
    have hn : r.length ≤ n := by simp at hn; omega
    rw [qL_cons] at h ⊢
    rcases tf (c == 34) with g1 | g1
    · rw [if_pos g1]
      have : c = 34 := by simpa using g1
      subst this
      have e : k + 1 - k - 1 = 0 := by omega
      rw [e]; rfl
    have n1 : ¬ ((c == 34) = true) := by rw [g1]; decide
    rw [if_neg n1] at h ⊢
    rcases tf (c == 92) with g2 | g2
    · rw [if_pos g2] at h ⊢
      cases r with
      | nil => simp only at h; simp at h
      | cons d r =>
        simp only at h ⊢
        have hge := qL_ge _ r (k + 2) (Nat.le_refl _)
        have ih := qL_last n r (k + 2) (by simp at hn; omega) (by simp at h; omega)
        have : qL r (k + 2) - k - 1 = (qL r (k + 2) - (k + 2) - 1) + 2 := by omega
        rw [this]
        simpa using ih
    have n2 : ¬ ((c == 92) = true) := by rw [g2]; decide
    rw [if_neg n2] at h ⊢
    have hge := qL_ge _ r (k + 1) (Nat.le_refl _)
    have ih := qL_last n r (k + 1) hn (by simp at h; omega)
    have : qL r (k + 1) - k - 1 = (qL r (k + 1) - (k + 1) - 1) + 1 := by omega
    rw [this]
    simpa using ih
theorem body_text {r : List UInt8} (h : qL r 1 ≤ (34 :: r).length) : bodyR ((34 :: r).take (qL r 1)) = bodL (r.take (qL r 1 - 1 - 1)) [] := by
  have hge := qL_ge _ r 1 (Nat.le_refl _)
  have hl := qL_last _ r 1 (Nat.le_refl _) (by simp at h; omega)
  obtain ⟨n, hn⟩ : ∃ n, qL r 1 = n := ⟨_, rfl⟩
  rw [hn] at h hge hl ⊢
  have hlen : ((34 :: r).take n).length = n := by simp at h ⊢; omega
  unfold bodyR
  rw [hlen]
  rw [if_neg (by simp; omega)]
  have h0 : ((34 :: r).take n)[0]? = some (34 : UInt8) := by
    rw [List.getElem?_take, if_pos (by omega)]; rfl
  have h1 : ((34 :: r).take n)[n - 1]? = some (34 : UInt8) := by
    rw [List.getElem?_take, if_pos (by omega)]
    have : n - 1 = (n - 1 - 1) + 1 := by omega
    rw [this]; simpa using hl
  rw [h0, h1, if_neg (by decide)]
  congr 1
  rw [List.take_take, Nat.min_eq_left (by omega)]
  have : n - 1 = (n - 1 - 1) + 1 := by omega
  rw [this]; rfl
end GP
