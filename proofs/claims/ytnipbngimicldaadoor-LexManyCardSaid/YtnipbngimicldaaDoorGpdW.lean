import Derived.Test.YtnipbngimicldaaDoorGpdQ
set_option linter.unusedSimpArgs false
/- The reference tells the same tokens: by what they begin with. -/
namespace GP
open Go Go.Proofs
set_option maxRecDepth 100000

theorem lenR_cons (c : UInt8) (r : List UInt8) : lenR (c :: r) =
    if pLet c.toNat then 1 + runL pWord r else
    if pDigit c.toNat || c == 64 then (if endSmall (c :: r) (1 + runL pDigit r) then 0 else 1 + runL pDigit r) else
    if c == 34 then (if decide ((c :: r).length < qL r 1) then 0 else qL r 1) else
    if decide (1 < (c :: r).length) && isSign ((c :: r).take 2) then 2 else 1 := rfl
theorem tokQ_cons (c : UInt8) (r : List UInt8) : tokQ (c :: r) =
    if pLet c.toNat then (if decide ((64 : Int) < (runL pWord (c :: r) : Nat)) then (mkT 0 [] 0, 0) else (mkT 1 ((c :: r).take (runL pWord (c :: r))) 0, runL pWord (c :: r)))
    else if pDigit c.toNat then (mkT 2 [] (numQ (c :: r) 9223372036854775807).1, (numQ (c :: r) 9223372036854775807).2)
    else if c == 64 then (if ((numQ r 1099511627776).2 : Int) == 0 then (mkT 0 [] 0, 0) else (mkT 4 [] (numQ r 1099511627776).1, (numQ r 1099511627776).2 + 1))
    else if c == 34 then (mkT 3 (txtL r [] 1).1 0, (txtL r [] 1).2)
    else sgnQ (c :: r) := rfl
theorem wordB_cons (c : UInt8) (r : List UInt8) : wordB (c :: r) = (pLet c.toNat && r.all (fun b => pWord b.toNat) && decide (((c :: r).length : Int) ≤ 64)) := rfl
theorem word_no {c : UInt8} {r : List UInt8} (h : pLet c.toNat = false) : wordB (c :: r) = false := by
  simp [wordB, h]
theorem val_no {c : UInt8} {r : List UInt8} {m : Int} (h : pDigit c.toNat = false) : (valR (c :: r) m).2 = false := by
  unfold valR
  have : (c :: r).all isDig = false := by simp [isDig, h]
  rw [this]; rfl
theorem take_c (c : UInt8) (r : List UInt8) (n : Nat) : (c :: r).take (1 + n) = c :: r.take n := by rw [Nat.add_comm]; rfl
theorem let_dig {n : Int} (h : pLet n = true) : pDigit n = false := by
  simp only [pLet, pDigit, Bool.and_eq_true, Bool.and_eq_false_iff, decide_eq_true_eq, decide_eq_false_iff_not] at h ⊢; omega
theorem let_ne {c : UInt8} (h : pLet c.toNat = true) : (c == 64) = false ∧ (c == 34) = false := by
  refine ⟨?_, ?_⟩ <;> (rw [beq_eq_false_iff_ne]; rintro rfl; exact absurd h (by decide))
theorem dig_let {n : Int} (h : pDigit n = true) : pLet n = false := by
  simp only [pLet, pDigit, Bool.and_eq_true, Bool.and_eq_false_iff, decide_eq_true_eq, decide_eq_false_iff_not] at h ⊢; omega
theorem dig_ne {c : UInt8} (h : pDigit c.toNat = true) : (c == 64) = false ∧ (c == 34) = false := by
  refine ⟨?_, ?_⟩ <;> (rw [beq_eq_false_iff_ne]; rintro rfl; exact absurd h (by decide))
/-- A text that is neither a word, nor a number, nor a time, nor a text. -/
theorem one_sign {c : UInt8} {r : List UInt8} (h1 : wordB (c :: r) = false) (h2 : (valR (c :: r) 9223372036854775807).2 = false) (h3 : (c == 64) = false) (h4 : (c == 34) = false) : oneR (c :: r) = (mkT 5 (c :: r) 0, isSign (c :: r)) := by
  unfold oneR
  have e0 : ((c :: r) == []) = false := rfl
  have e1 : ((c :: r)[0]? == some 64) = (c == 64) := rfl
  have e2 : ((c :: r)[0]? == some 34) = (c == 34) := rfl
  rw [e0, h1, h2, e1, e2, h3, h4]
  simp only [Bool.false_eq_true, if_false]
/-- What both tell. -/
def agree (s : List UInt8) : Prop :=
  if (((lenR s : Nat) : Int) == 0) || !(oneR (s.take (lenR s))).2 then (tokQ s).2 = 0 else tokQ s = ((oneR (s.take (lenR s))).1, lenR s)
theorem agree_zero {s : List UInt8} (h1 : lenR s = 0) (h2 : (tokQ s).2 = 0) : agree s := by
  unfold agree; rw [if_pos (by rw [h1]; rfl)]; exact h2
theorem agree_no {s : List UInt8} (h1 : (oneR (s.take (lenR s))).2 = false) (h2 : (tokQ s).2 = 0) : agree s := by
  unfold agree; rw [if_pos (by rw [h1]; simp)]; exact h2
theorem agree_yes {s : List UInt8} {d : D} {n : Nat} (h0 : lenR s = n) (hn : n ≠ 0) (h1 : oneR (s.take n) = (d, true)) (h2 : tokQ s = (d, n)) : agree s := by
  unfold agree; rw [h0, h1, if_neg ?_]
  · exact h2
  · simp; exact hn
theorem decV_dig {l : List UInt8} (hd : ∀ b ∈ l, isDig b = true) (h2 : l.length ≤ 19) : decV l < 10 ^ 19 := Nat.lt_of_lt_of_le (decV_lt hd h2) (Nat.pow_le_pow_right (by decide) h2)
theorem all_dig {l : List UInt8} (hd : ∀ b ∈ l, isDig b = true) : l.all isDig = true := List.all_eq_true.2 hd
theorem val_dig {l : List UInt8} {m : Int} (hd : ∀ b ∈ l, isDig b = true) (h2 : l.length ≤ 19) : valR l m = (IntKind.i64.wrap (decV l : Int), decide ((0 : Int) < l.length) && decide ((decV l : Int) ≤ m)) := by
  unfold valR; rw [if_pos]; rw [all_dig hd]; simpa using h2
theorem val_long {l : List UInt8} {m : Int} (h2 : 19 < l.length) : valR l m = (0, false) := by
  unfold valR; rw [if_neg]; simp only [Bool.and_eq_true, decide_eq_true_eq, not_and]; omega
theorem take_run (p : Int → Bool) (r : List UInt8) : (r.take (runL p r)).length = runL p r := by
  have := runL_le p r; simp; omega
theorem agree_let {c : UInt8} {r : List UInt8} (g : pLet c.toNat = true) : agree (c :: r) := by
  have e0 : lenR (c :: r) = 1 + runL pWord r := by rw [lenR_cons, if_pos g]
  have hw : pWord (c.toNat : Int) = true := by rw [pWord_let, g]; rfl
  have e1 := runL_cons (p := pWord) c r hw
  have ht := take_c c r (runL pWord r)
  have hr := take_run pWord r
  have hall : (r.take (runL pWord r)).all (fun b => pWord b.toNat) = true := List.all_eq_true.2 fun b hb => run_all (p := pWord) r b hb
  have eT : tokQ (c :: r) = if decide ((64 : Int) < (runL pWord (c :: r) : Nat)) then (mkT 0 [] 0, 0) else (mkT 1 ((c :: r).take (runL pWord (c :: r))) 0, runL pWord (c :: r)) := by
    rw [tokQ_cons, if_pos g]
  rw [e1, ht] at eT
  by_cases h64 : 1 + runL pWord r ≤ 64
  · refine agree_yes e0 (by omega) (d := mkT 1 (c :: r.take (runL pWord r)) 0) ?_ ?_
    · rw [ht]
      unfold oneR
      have w : wordB (c :: r.take (runL pWord r)) = true := by
        rw [wordB_cons, g, hall]; simp only [Bool.true_and, decide_eq_true_eq, List.length_cons, hr]; omega
      have z : ((c :: r.take (runL pWord r)) == []) = false := rfl
      rw [z, w]; rfl
    · rw [eT, if_neg (by simp only [decide_eq_true_eq]; omega)]
  · refine agree_no ?_ ?_
    · rw [e0, ht]
      have w : wordB (c :: r.take (runL pWord r)) = false := by
        rw [wordB_cons, g, hall]; simp only [Bool.true_and, decide_eq_false_iff_not, List.length_cons, hr]; omega
      rw [one_sign w (val_no (let_dig g)) (let_ne g).1 (let_ne g).2]
      exact isSign_long (by simp only [List.length_cons, hr]; omega)
    · rw [eT, if_pos (by simp only [decide_eq_true_eq]; omega)]
theorem agree_dig {c : UInt8} {r : List UInt8} (g : pDigit c.toNat = true) : agree (c :: r) := by
  have gl := dig_let g
  have e0 : lenR (c :: r) = if endSmall (c :: r) (1 + runL pDigit r) then 0 else 1 + runL pDigit r := by
    rw [lenR_cons, if_neg (by rw [gl]; decide), if_pos (by rw [g]; rfl)]
  have e1 := runL_cons (p := pDigit) c r g
  have ht := take_c c r (runL pDigit r)
  have hr := take_run pDigit r
  have eT : tokQ (c :: r) = (mkT 2 [] (numQ (c :: r) 9223372036854775807).1, (numQ (c :: r) 9223372036854775807).2) := by
    rw [tokQ_cons, if_neg (by rw [gl]; decide), if_pos g]
  have hd : ∀ b ∈ c :: r.take (runL pDigit r), isDig b = true := fun b hb => by
    rcases List.mem_cons.1 hb with rfl | hb
    · exact g
    · exact run_all (p := pDigit) r b hb
  have hlen : (c :: r.take (runL pDigit r)).length = 1 + runL pDigit r := by simp only [List.length_cons, hr]; omega
  unfold numQ at eT
  rw [e1, ht] at eT
  have hD := decV_lt hd
  have hV := fun m h => val_dig (m := m) hd h
  rw [hlen] at hD hV
  rcases tf (endSmall (c :: r) (1 + runL pDigit r)) with q | q
  · refine agree_zero (by rw [e0, if_pos q]) ?_
    rw [eT, if_pos (by rw [q]; simp)]
  rw [if_neg (by rw [q]; decide)] at e0
  obtain ⟨n, hn⟩ : ∃ n, 1 + runL pDigit r = n := ⟨_, rfl⟩
  obtain ⟨L, hL⟩ : ∃ L, c :: r.take (runL pDigit r) = L := ⟨_, rfl⟩
  have sg : wordB L = false := by rw [← hL]; exact word_no gl
  have one : (valR L 9223372036854775807).2 = false → oneR L = (mkT 5 L 0, isSign L) := fun h => by
    rw [← hL] at sg h ⊢; exact one_sign sg h (dig_ne g).1 (dig_ne g).2
  have zL : (L == []) = false := by rw [← hL]; rfl
  rw [hL] at eT hd hlen hD hV ht
  rw [hn] at eT hlen hD hV e0 q ht
  by_cases h19 : n ≤ 19
  · have hD := hD h19
    have hV := hV 9223372036854775807 h19
    by_cases hm : (decV L : Int) ≤ 9223372036854775807
    · have wv : IntKind.i64.wrap (decV L : Int) = decV L := wrap_in (by omega) (by omega)
      refine agree_yes e0 (by omega) (d := mkT 2 [] (decV L : Int)) ?_ ?_
      · rw [ht]
        unfold oneR
        rw [zL, sg, hV]
        have : (decide ((0 : Int) < (n : Nat)) && decide ((decV L : Int) ≤ 9223372036854775807)) = true := by simp only [Bool.and_eq_true, decide_eq_true_eq]; omega
        simp only [Bool.false_eq_true, if_false, this, if_true, wv]
      · have c1 : decide (n < 1) = false := decide_eq_false (by omega)
        have c2 : decide (19 < n) = false := decide_eq_false (by omega)
        have c3 : decide ((9223372036854775807 : Int) < (decV L : Int)) = false := decide_eq_false (by omega)
        rw [eT, q, c1, c2, c3, if_neg (by decide)]
    · refine agree_no ?_ ?_
      · rw [e0, ht, one (by rw [hV]; simp only [Bool.and_eq_false_iff, decide_eq_false_iff_not]; omega)]
        refine isSign_long ?_
        rw [hlen]
        rcases Nat.lt_or_ge 2 n with h | h
        · exact h
        · exfalso
          have : 10 ^ n ≤ 10 ^ 2 := Nat.pow_le_pow_right (by decide) h
          omega
      · rw [eT, if_pos (by simp only [Bool.or_eq_true, decide_eq_true_eq]; omega)]
  · refine agree_no ?_ ?_
    · rw [e0, ht, one (by rw [val_long (by omega)])]
      exact isSign_long (by omega)
    · rw [eT, if_pos (by simp only [Bool.or_eq_true, decide_eq_true_eq]; omega)]
theorem agree_at {r : List UInt8} : agree (64 :: r) := by
  have gl : pLet (((64 : UInt8).toNat : Int)) = false := by decide
  have gd : pDigit (((64 : UInt8).toNat : Int)) = false := by decide
  have e0 : lenR (64 :: r) = if endSmall (64 :: r) (1 + runL pDigit r) then 0 else 1 + runL pDigit r := by
    rw [lenR_cons, if_neg (by rw [gl]; decide), if_pos (by rw [gd]; rfl)]
  have ht := take_c 64 r (runL pDigit r)
  have hr := take_run pDigit r
  have eT : tokQ (64 :: r) = (if ((numQ r 1099511627776).2 : Int) == 0 then (mkT 0 [] 0, 0) else (mkT 4 [] (numQ r 1099511627776).1, (numQ r 1099511627776).2 + 1)) := by
    rw [tokQ_cons, if_neg (by rw [gl]; decide), if_neg (by rw [gd]; decide), if_pos (by decide)]
  have eS : endSmall (64 :: r) (1 + runL pDigit r) = endSmall r (runL pDigit r) := by
    unfold endSmall; rw [Nat.add_comm, List.getElem?_cons_succ]
  rw [eS] at e0
  have hd : ∀ b ∈ r.take (runL pDigit r), isDig b = true := fun b hb => run_all (p := pDigit) r b hb
  have hD := decV_lt hd
  have hV := fun m h => val_dig (m := m) hd h
  rw [hr] at hD hV
  have one : oneR (64 :: r.take (runL pDigit r)) = (mkT 4 [] (valR (r.take (runL pDigit r)) 1099511627776).1, (valR (r.take (runL pDigit r)) 1099511627776).2) := by
    unfold oneR
    have z : ((64 :: r.take (runL pDigit r)) == []) = false := rfl
    have e1 : ((64 :: r.take (runL pDigit r))[0]? == some (64 : UInt8)) = true := rfl
    rw [z, word_no gl, val_no gd, e1]
    simp only [Bool.false_eq_true, if_false, if_true]
    rfl
  have eN : numQ r 1099511627776 = if (decide (runL pDigit r < 1) || decide (19 < runL pDigit r) || endSmall r (runL pDigit r)) || decide ((1099511627776 : Int) < (decV (r.take (runL pDigit r)) : Int)) then (0, 0) else ((decV (r.take (runL pDigit r)) : Int), runL pDigit r) := rfl
  obtain ⟨n, hn⟩ : ∃ n, runL pDigit r = n := ⟨_, rfl⟩
  rw [hn] at eN e0 hD hV ht one
  obtain ⟨L, hL⟩ : ∃ L, r.take n = L := ⟨_, rfl⟩
  rw [hn] at hd hr
  rw [hL] at eN hD hV ht one hd hr
  rcases tf (endSmall r n) with q | q
  · refine agree_zero (by rw [e0, if_pos q]) ?_
    rw [eT, eN, if_pos (by rw [q]; simp)]
  rw [if_neg (by rw [q]; decide)] at e0
  by_cases h0 : n = 0
  · refine agree_no ?_ ?_
    · rw [e0, ht, one, hV _ (by omega)]
      have : decide ((0 : Int) < (n : Nat)) = false := decide_eq_false (by omega)
      rw [this]; rfl
    · have c1 : decide (n < 1) = true := decide_eq_true (by omega)
      rw [eT, eN, c1, if_pos (by rfl)]
  by_cases h19 : n ≤ 19
  · have hD := hD h19
    have hV := hV 1099511627776 h19
    by_cases hm : (decV L : Int) ≤ 1099511627776
    · have wv : IntKind.i64.wrap (decV L : Int) = decV L := wrap_in (by omega) (by omega)
      refine agree_yes e0 (by omega) (d := mkT 4 [] (decV L : Int)) ?_ ?_
      · rw [ht, one, hV]
        have : (decide ((0 : Int) < (n : Nat)) && decide ((decV L : Int) ≤ 1099511627776)) = true := by simp only [Bool.and_eq_true, decide_eq_true_eq]; omega
        rw [this, wv]
      · have c1 : ((decide (n < 1) || decide (19 < n) || endSmall r n) || decide ((1099511627776 : Int) < (decV L : Int))) = false := by
          have c1 : decide (n < 1) = false := decide_eq_false (by omega)
          have c2 : decide (19 < n) = false := decide_eq_false (by omega)
          have c3 : decide ((1099511627776 : Int) < (decV L : Int)) = false := decide_eq_false (by omega)
          rw [q, c1, c2, c3]; rfl
        rw [c1, if_neg (by decide)] at eN
        rw [eT, eN, if_neg (by simp; exact h0)]
        rw [Nat.add_comm]
    · refine agree_no ?_ ?_
      · rw [e0, ht, one, hV]
        have c3 : decide ((decV L : Int) ≤ 1099511627776) = false := decide_eq_false (by omega)
        rw [c3, Bool.and_false]
      · have c3 : decide ((1099511627776 : Int) < (decV L : Int)) = true := decide_eq_true (by omega)
        rw [eT, eN, c3, if_pos (by simp)]
  · refine agree_no ?_ ?_
    · rw [e0, ht, one, val_long (by omega)]
    · have c2 : decide (19 < n) = true := decide_eq_true (by omega)
      rw [eT, eN, c2, if_pos (by simp)]
theorem agree_text {r : List UInt8} : agree (34 :: r) := by
  have gl : pLet (((34 : UInt8).toNat : Int)) = false := by decide
  have gd : pDigit (((34 : UInt8).toNat : Int)) = false := by decide
  have e0 : lenR (34 :: r) = if decide ((34 :: r).length < qL r 1) then 0 else qL r 1 := by
    rw [lenR_cons, if_neg (by rw [gl]; decide), if_neg (by rw [gd]; decide), if_pos (by decide)]
  have eT : tokQ (34 :: r) = (mkT 3 (txtL r [] 1).1 0, (txtL r [] 1).2) := by
    rw [tokQ_cons, if_neg (by rw [gl]; decide), if_neg (by rw [gd]; decide), if_neg (by decide), if_pos (by decide)]
  rw [txt_R _ r [] 1 (Nat.le_refl _) (by simp)] at eT
  have hlen : (34 :: r).length = r.length + 1 := rfl
  have hge := qL_ge _ r 1 (Nat.le_refl _)
  by_cases hq : (34 :: r).length < qL r 1
  · refine agree_zero (by rw [e0, if_pos (by simpa using hq)]) ?_
    rw [eT]; unfold txtR; rw [if_pos (by omega)]
  rw [if_neg (by simpa using hq)] at e0
  have hb := body_text (r := r) (by omega)
  have one : oneR ((34 :: r).take (qL r 1)) = (mkT 3 (bodL (r.take (qL r 1 - 1 - 1)) []).1 0, (bodL (r.take (qL r 1 - 1 - 1)) []).2) := by
    have ht : (34 :: r).take (qL r 1) = 34 :: r.take (qL r 1 - 1) := by
      have : qL r 1 = (qL r 1 - 1) + 1 := by omega
      rw [this]; rfl
    rw [ht] at hb ⊢
    unfold oneR
    have z : ((34 :: r.take (qL r 1 - 1)) == []) = false := rfl
    have e1 : ((34 :: r.take (qL r 1 - 1))[0]? == some (64 : UInt8)) = false := rfl
    have e2 : ((34 :: r.take (qL r 1 - 1))[0]? == some (34 : UInt8)) = true := rfl
    rw [z, word_no gl, val_no gd, e1, e2, hb]
    simp only [Bool.false_eq_true, if_false, if_true]
  unfold txtR at eT
  rw [if_neg (by omega)] at eT
  obtain ⟨⟨o, b⟩, hB⟩ : ∃ z, bodL (r.take (qL r 1 - 1 - 1)) [] = z := ⟨_, rfl⟩
  rw [hB] at eT one
  cases b with
  | true =>
    refine agree_yes e0 (by omega) (d := mkT 3 o 0) one ?_
    rw [eT]; rfl
  | false =>
    refine agree_no ?_ ?_
    · rw [e0, one]
    · rw [eT]; rfl
theorem agree_all (c : UInt8) (r : List UInt8) : agree (c :: r) := by
  rcases tf (pLet (c.toNat : Int)) with g1 | g1
  · exact agree_let g1
  rcases tf (pDigit (c.toNat : Int)) with g2 | g2
  · exact agree_dig g2
  rcases tf (c == 64) with g3 | g3
  · have : c = 64 := by simpa using g3
    subst this; exact agree_at
  rcases tf (c == 34) with g4 | g4
  · have : c = 34 := by simpa using g4
    subst this; exact agree_text
  have e0 : lenR (c :: r) = if decide (1 < (c :: r).length) && isSign ((c :: r).take 2) then 2 else 1 := by
    rw [lenR_cons, if_neg (by rw [g1]; decide), if_neg (by rw [g2, g3]; decide), if_neg (by rw [g4]; decide)]
  have eT : tokQ (c :: r) = sgnQ (c :: r) := by
    rw [tokQ_cons, if_neg (by rw [g1]; decide), if_neg (by rw [g2]; decide), if_neg (by rw [g3]; decide), if_neg (by rw [g4]; decide)]
  rw [sgnQ_eq] at eT
  rcases tf (decide (1 < (c :: r).length) && isSign ((c :: r).take 2)) with q | q
  · rw [if_pos q] at e0 eT
    simp only [Bool.and_eq_true] at q
    have ht : (c :: r).take 2 = c :: r.take 1 := rfl
    refine agree_yes e0 (by decide) (d := mkT 5 ((c :: r).take 2) 0) ?_ eT
    have q2 := q.2
    rw [ht] at q2 ⊢
    rw [one_sign (word_no g1) (val_no g2) g3 g4, q2]
  · rw [if_neg (by rw [q]; decide)] at e0 eT
    have ht : (c :: r).take 1 = [c] := rfl
    rcases tf (isSign [c]) with q2 | q2
    · rw [if_pos q2] at eT
      refine agree_yes e0 (by decide) (d := mkT 5 [c] 0) ?_ eT
      rw [ht, one_sign (word_no g1) (val_no g2) g3 g4, q2]
    · rw [if_neg (by rw [q2]; decide)] at eT
      refine agree_no ?_ ?_
      · rw [e0, ht, one_sign (word_no g1) (val_no g2) g3 g4, q2]
      · rw [eT]
theorem lenR_le (c : UInt8) (r : List UInt8) : lenR (c :: r) ≤ (c :: r).length := by
  have h1 := runL_le pWord r
  have h2 := runL_le pDigit r
  have h3 : (c :: r).length = r.length + 1 := rfl
  rw [lenR_cons]
  split
  · omega
  split
  · split <;> omega
  split
  · split
    · omega
    · rename_i h; simp only [decide_eq_true_eq] at h; omega
  split
  · rename_i h; simp only [Bool.and_eq_true, decide_eq_true_eq] at h; omega
  · omega
end GP
