import Derived.Test.YtnipbngimicldaaDoorGpdH
set_option linter.unusedSimpArgs false
/- Tokens' texts. -/
namespace GP
open Go Go.Proofs
set_option maxRecDepth 100000

/-! ### Digits -/
theorem dg_nat {d : Nat} (h : d < 10) : (UInt8.ofNat (48 + d)).toNat = 48 + d := by simp; omega
theorem isDig_dg {d : Nat} (h : d < 10) : isDig (UInt8.ofNat (48 + d)) = true := by rw [isDig_iff, dg_nat h]; omega
theorem dd_small {u : Nat} (h : u < 10) : Lib.decDigits u = [UInt8.ofNat (48 + u)] := by rw [Lib.decDigits, dif_pos h]
theorem dd_big {u : Nat} (h : ¬ u < 10) : Lib.decDigits u = Lib.decDigits (u / 10) ++ [UInt8.ofNat (48 + u % 10)] := by
  conv => lhs; rw [Lib.decDigits]
  rw [dif_neg h]
theorem dd_spec : ∀ (m u : Nat), u ≤ m → (∀ b ∈ Lib.decDigits u, isDig b = true) ∧ decV (Lib.decDigits u) = u ∧ 1 ≤ (Lib.decDigits u).length ∧ ∀ j, u < 10 ^ (j + 1) → (Lib.decDigits u).length ≤ j + 1
  | m, u, h => by
    by_cases hu : u < 10
    · rw [dd_small hu]
      refine ⟨fun b hb => by rw [List.mem_singleton] at hb; subst hb; exact isDig_dg hu, ?_, by simp, by simp⟩
      simp only [decV, decA, List.foldl_cons, List.foldl_nil, dg_nat hu]; omega
    · have hm : 0 < m := by omega
      obtain ⟨i1, i2, i3, i4⟩ := dd_spec (m - 1) (u / 10) (by omega)
      rw [dd_big hu]
      have hd : u % 10 < 10 := Nat.mod_lt _ (by decide)
      refine ⟨?_, ?_, by simp, ?_⟩
      · intro b hb
        rcases List.mem_append.1 hb with hb | hb
        · exact i1 b hb
        · rw [List.mem_singleton] at hb; subst hb; exact isDig_dg hd
      · simp only [decV, decA] at i2 ⊢
        rw [List.foldl_append, i2]
        simp only [List.foldl_cons, List.foldl_nil, dg_nat hd]; omega
      · intro j hj
        cases j with
        | zero => simp at hj; omega
        | succ j =>
          have := i4 j (by rw [Nat.pow_succ] at hj; omega)
          simp; omega
termination_by m => m
decreasing_by omega
theorem dd_dig (u : Nat) : ∀ b ∈ Lib.decDigits u, isDig b = true := (dd_spec u u (Nat.le_refl _)).1
theorem dd_val (u : Nat) : decV (Lib.decDigits u) = u := (dd_spec u u (Nat.le_refl _)).2.1
theorem dd_pos (u : Nat) : 1 ≤ (Lib.decDigits u).length := (dd_spec u u (Nat.le_refl _)).2.2.1
theorem dd_len {u : Nat} (h : u < 2 ^ 63) : (Lib.decDigits u).length ≤ 19 := (dd_spec u u (Nat.le_refl _)).2.2.2 18 (by omega)
def φdigs : List D → Option D
  | [.int .i64 n] => if 0 ≤ n ∧ n < 2 ^ 63 then some (.str (Lib.decDigits n.toNat)) else none
  | _ => none
set_option maxHeartbeats 4000000 in
theorem ok20 : OkAt Tryd.prog 20 φdigs := by
  refine ok_of (l := []) .nil fn20 fun args r h => ?_
  unfold φdigs at h
  split at h
  · rename_i n
    split at h
    · rename_i hv
      obtain ⟨h0, h1⟩ := hv
      injection h with h; subst h
      obtain ⟨n, rfl⟩ : ∃ k : Nat, n = (k : Int) := ⟨n.toNat, by omega⟩
      have h1 : n < 2 ^ 63 := by omega
      refine ⟨by simp, by simp [D.cl], fun H T => ?_⟩
      rw [show ((n : Int)).toNat = n from by omega]
      have hL := dd_len h1
      simp (config := { contextual := true, maxSteps := 10000000 }) only [c20, go_sem, Nat.reduceAdd, Nat.reduceSub, Nat.reduceMul, Nat.reduceEqDiff, Nat.reduceLeDiff, Nat.reduceLT, Int.reduceToNat, Int.reduceLE, Int.reduceLT, Int.reduceEq, Int.reduceNe, Int.reduceBEq, Int.reduceBNe, Nat.reduceBEq, Nat.reduceBNe, ↓reduceIte, reduceCtorEq, ↓reduceDIte, W_draw]
      refine W_for (fun i s' => s'.H = H ∧ ExtT T s'.T ∧ ∃ (m : Nat) (acc : List UInt8), s'.t 0 = .int .i64 (m : Nat) ∧ s'.t 3 = .str acc ∧ m + i ≤ n ∧ Lib.decDigits m ++ acc = Lib.decDigits n) n ⟨0, rfl, ExtT.refl T, n, [], rfl, rfl, by omega, by simp⟩ (fun i s h => by obtain ⟨_, _, m, acc, h⟩ := h; omega) ?_ (XL_mono _)
      rintro i ⟨t, B, T'⟩ ⟨rfl, hX, m, acc, r0, r3, hm, hS⟩
      simp only at hX r0 r3
      have hacc : acc.length ≤ 19 := by have := congrArg List.length hS; simp at this; omega
      by_cases hlt : m < 10
      · have d1 : decide ((9 : Int) < (m : Nat)) = false := by simp only [decide_eq_false_iff_not]; omega
        have w1 : IntKind.i64.wrap (48 + (m : Int)) = ((48 + m : Nat) : Int) := by rw [wrap_in (by omega) (by omega)]; omega
        have w2 : IntKind.u8.wrap ((48 + m : Nat) : Int) = (((UInt8.ofNat (48 + m)).toNat : Nat) : Int) := by rw [wrapU8, dg_nat hlt]; omega
        have sa := sadd (a := [UInt8.ofNat (48 + m)]) (b := acc) (by simp; omega)
        rw [dd_small hlt] at hS
        rw [← hS]
        simp (config := { contextual := true, maxSteps := 10000000 }) only [r0, r3, d1, w1, w2, b2one, sa, leaves_E (Ext.refl B) hX, leaves_Et (Ext.refl B) hX, go_sem, Nat.reduceAdd, Nat.reduceSub, Nat.reduceMul, Nat.reduceEqDiff, Nat.reduceLeDiff, Nat.reduceLT, Int.reduceToNat, Int.reduceLE, Int.reduceLT, Int.reduceEq, Int.reduceNe, Int.reduceBEq, Int.reduceBNe, Nat.reduceBEq, Nat.reduceBNe, ↓reduceIte, reduceCtorEq, ↓reduceDIte, W_draw]
      · have d1 : decide ((9 : Int) < (m : Nat)) = true := by simp only [decide_eq_true_eq]; omega
        have hd : m % 10 < 10 := Nat.mod_lt _ (by decide)
        have t1 : ((m : Int)).tmod 10 = ((m % 10 : Nat) : Int) := rfl
        have t2 : IntKind.i64.wrap (((m : Int)).tdiv 10) = ((m / 10 : Nat) : Int) := by
          have : ((m : Int)).tdiv 10 = ((m / 10 : Nat) : Int) := rfl
          rw [this, wrap_in (by omega) (by omega)]
        have w1 : IntKind.i64.wrap (48 + ((m % 10 : Nat) : Int)) = ((48 + m % 10 : Nat) : Int) := by rw [wrap_in (by omega) (by omega)]; omega
        have w2 : IntKind.u8.wrap ((48 + m % 10 : Nat) : Int) = (((UInt8.ofNat (48 + m % 10)).toNat : Nat) : Int) := by rw [wrapU8, dg_nat hd]; omega
        have sa := sadd (a := [UInt8.ofNat (48 + m % 10)]) (b := acc) (by simp; omega)
        simp (config := { contextual := true, maxSteps := 10000000 }) only [r0, r3, d1, t1, t2, w1, w2, b2one, sa, hX.ta, go_sem, Nat.reduceAdd, Nat.reduceSub, Nat.reduceMul, Nat.reduceEqDiff, Nat.reduceLeDiff, Nat.reduceLT, Int.reduceToNat, Int.reduceLE, Int.reduceLT, Int.reduceEq, Int.reduceNe, Int.reduceBEq, Int.reduceBNe, Nat.reduceBEq, Nat.reduceBNe, ↓reduceIte, reduceCtorEq, ↓reduceDIte, W_draw]
        refine ⟨m / 10, UInt8.ofNat (48 + m % 10) :: acc, rfl, rfl, by omega, ?_⟩
        rw [← hS, dd_big hlt]; simp
    · cases h
  · cases h

/-! ### Quoted texts -/
def esc1 (c : UInt8) : List UInt8 := if (c == 34) || (c == 92) then [92, c] else [c]
def escL (s : List UInt8) : List UInt8 := s.flatMap esc1
theorem escL_len : ∀ (s : List UInt8), (escL s).length ≤ 2 * s.length
  | [] => by simp [escL]
  | c :: r => by
    have := escL_len r
    have h1 : (esc1 c).length ≤ 2 := by unfold esc1; split <;> simp
    simp only [escL, List.flatMap_cons, List.length_append, List.length_cons] at this ⊢; omega
theorem escL_take {s : List UInt8} {i : Nat} {c : UInt8} (h : s[i]? = some c) : escL (s.take (i + 1)) = escL (s.take i) ++ esc1 c := by
  rw [List.take_add_one, h]; simp [escL]
def showP (k : Int) (s : List UInt8) (n : Int) : List UInt8 :=
  if k == 2 then Lib.decDigits n.toNat else if k == 4 then 64 :: Lib.decDigits n.toNat else if k == 3 then 34 :: escL s ++ [34] else s
def φshow : List D → Option D
  | [.agg [.int .i64 k, .str s, .int .i64 n]] => if s.length ≤ 2 ^ 40 ∧ (k = 2 ∨ k = 4 → 0 ≤ n ∧ n < 2 ^ 63) then some (.str (showP k s n)) else none
  | _ => none
set_option maxHeartbeats 8000000 in
theorem ok11 : OkAt Tryd.prog 11 φshow := by
  refine ok_of (l := [(20, φdigs)]) (.cons ok20 .nil) fn11 fun args r h => ?_
  unfold φshow at h
  split at h
  · rename_i k s n
    split at h
    · rename_i hv
      obtain ⟨hl, hn⟩ := hv
      injection h with h; subst h
      refine ⟨by simp, by simp [D.cl], fun H T => ?_⟩
      unfold showP
      rcases tf (k == 2) with k2 | k2
      · rw [if_pos k2]
        have hn := hn (.inl (by simpa using k2))
        have p : φdigs [.int .i64 n] = some (.str (Lib.decDigits n.toNat)) := by simp only [φdigs]; rw [if_pos hn]
        simp (config := { contextual := true, maxSteps := 10000000 }) only [c11, k2, p, go_sem, Nat.reduceAdd, Nat.reduceSub, Nat.reduceMul, Nat.reduceEqDiff, Nat.reduceLeDiff, Nat.reduceLT, Int.reduceToNat, Int.reduceLE, Int.reduceLT, Int.reduceEq, Int.reduceNe, Int.reduceBEq, Int.reduceBNe, Nat.reduceBEq, Nat.reduceBNe, ↓reduceIte, reduceCtorEq, ↓reduceDIte, W_draw]
      rw [if_neg (by rw [k2]; decide)]
      rcases tf (k == 4) with k4 | k4
      · rw [if_pos k4]
        have hn := hn (.inr (by simpa using k4))
        have p : φdigs [.int .i64 n] = some (.str (Lib.decDigits n.toNat)) := by simp only [φdigs]; rw [if_pos hn]
        have hd := dd_len (u := n.toNat) (by omega)
        have sa := sadd (a := [64]) (b := Lib.decDigits n.toNat) (by simp; omega)
        simp (config := { contextual := true, maxSteps := 10000000 }) only [c11, k2, k4, p, sa, go_sem, Nat.reduceAdd, Nat.reduceSub, Nat.reduceMul, Nat.reduceEqDiff, Nat.reduceLeDiff, Nat.reduceLT, Int.reduceToNat, Int.reduceLE, Int.reduceLT, Int.reduceEq, Int.reduceNe, Int.reduceBEq, Int.reduceBNe, Nat.reduceBEq, Nat.reduceBNe, ↓reduceIte, reduceCtorEq, ↓reduceDIte, W_draw]
      rw [if_neg (by rw [k4]; decide)]
      rcases tf (k == 3) with k3 | k3
      · rw [if_pos k3]
        simp (config := { contextual := true, maxSteps := 10000000 }) only [c11, k2, k4, k3, go_sem, Nat.reduceAdd, Nat.reduceSub, Nat.reduceMul, Nat.reduceEqDiff, Nat.reduceLeDiff, Nat.reduceLT, Int.reduceToNat, Int.reduceLE, Int.reduceLT, Int.reduceEq, Int.reduceNe, Int.reduceBEq, Int.reduceBNe, Nat.reduceBEq, Nat.reduceBNe, ↓reduceIte, reduceCtorEq, ↓reduceDIte, W_draw]
        refine W_for (fun i s' => s'.t 1 = .ptr H.length 0 ∧ s'.t 3 = .str (34 :: escL (s.take i)) ∧ s'.t 4 = .int .i64 (i : Nat) ∧ s'.H = H ++ [.row [.int .i64 k, .str s, .int .i64 n]] ∧ s'.T = T ∧ i ≤ s.length) s.length ⟨0, by simp [upd, argT, escL]⟩ (fun i s h => h.2.2.2.2.2) ?_ (XL_mono _)
        rintro i ⟨t, B, T'⟩ ⟨r1, r3, r4, rfl, rfl, hi⟩
        simp only at r1 r3 r4
        have hE := escL_len (s.take i)
        have ht : (s.take i).length ≤ s.length := by simp; omega
        by_cases hlt : i < s.length
        · have d1 : decide (((i : Nat) : Int) < s.length) = true := by simp only [decide_eq_true_eq]; omega
          have ex : s[i]? = some s[i] := by simp [hlt]
          obtain ⟨b, hb⟩ : ∃ b, s[i] = b := ⟨_, rfl⟩
          rw [hb] at ex
          have ix := fun q => ixs_at ex q
          have e1 : ((b.toNat : Int) == 34) = (b == 34) := u8_eq b 34 (by decide)
          have e2 : ((b.toNat : Int) == 92) = (b == 92) := u8_eq b 92 (by decide)
          have tk := escL_take ex
          have wS := wrap_su i (by omega)
          have hs : sub (some (i : Int)) (some ((i + 1 : Nat) : Int)) (.str s) = some (.str [b]) := by
            rw [sub_s, if_pos ⟨by omega, by omega, by omega⟩, show (((i + 1 : Nat) : Int)).toNat = i + 1 from by omega, show ((i : Int)).toNat = i from by omega, sub_drop, drop_at ex]; rfl
          have sa1 := sadd (a := 34 :: escL (s.take i)) (b := [92]) (by simp; omega)
          have sa2 : bin2 .add (.str (34 :: (escL (s.take i) ++ [92]))) (.str [b]) = some (.str (34 :: (escL (s.take i) ++ [92, b]))) := by
            rw [sadd (by simp; omega)]; simp
          have sa3 := sadd (a := 34 :: escL (s.take i)) (b := [b]) (by simp; omega)
          rw [tk]
          rcases tf (b == 34) with g1 | g1
          · have e : esc1 b = [92, b] := by unfold esc1; rw [g1]; rfl
            rw [e]
            simp (config := { contextual := true, maxSteps := 10000000 }) only [r1, r3, r4, d1, ix, e1, g1, wS, hs, sa1, sa2, go_sem, Nat.reduceAdd, Nat.reduceSub, Nat.reduceMul, Nat.reduceEqDiff, Nat.reduceLeDiff, Nat.reduceLT, Int.reduceToNat, Int.reduceLE, Int.reduceLT, Int.reduceEq, Int.reduceNe, Int.reduceBEq, Int.reduceBNe, Nat.reduceBEq, Nat.reduceBNe, ↓reduceIte, reduceCtorEq, ↓reduceDIte, W_draw]
            omega
          rcases tf (b == 92) with g2 | g2
          · have e : esc1 b = [92, b] := by unfold esc1; rw [g1, g2]; rfl
            rw [e]
            simp (config := { contextual := true, maxSteps := 10000000 }) only [r1, r3, r4, d1, ix, e1, e2, g1, g2, wS, hs, sa1, sa2, go_sem, Nat.reduceAdd, Nat.reduceSub, Nat.reduceMul, Nat.reduceEqDiff, Nat.reduceLeDiff, Nat.reduceLT, Int.reduceToNat, Int.reduceLE, Int.reduceLT, Int.reduceEq, Int.reduceNe, Int.reduceBEq, Int.reduceBNe, Nat.reduceBEq, Nat.reduceBNe, ↓reduceIte, reduceCtorEq, ↓reduceDIte, W_draw]
            omega
          · have e : esc1 b = [b] := by unfold esc1; rw [g1, g2]; rfl
            rw [e]
            simp (config := { contextual := true, maxSteps := 10000000 }) only [r1, r3, r4, d1, ix, e1, e2, g1, g2, wS, hs, sa3, go_sem, Nat.reduceAdd, Nat.reduceSub, Nat.reduceMul, Nat.reduceEqDiff, Nat.reduceLeDiff, Nat.reduceLT, Int.reduceToNat, Int.reduceLE, Int.reduceLT, Int.reduceEq, Int.reduceNe, Int.reduceBEq, Int.reduceBNe, Nat.reduceBEq, Nat.reduceBNe, ↓reduceIte, reduceCtorEq, ↓reduceDIte, W_draw]
            omega
        · have d1 : decide (((i : Nat) : Int) < s.length) = false := by simp only [decide_eq_false_iff_not]; omega
          have ei : i = s.length := by omega
          rw [ei, List.take_length] at r3 hE
          have sa := sadd (a := 34 :: escL s) (b := [34]) (by simp; omega)
          simp (config := { contextual := true, maxSteps := 10000000 }) only [r1, r3, r4, d1, sa, go_sem, Nat.reduceAdd, Nat.reduceSub, Nat.reduceMul, Nat.reduceEqDiff, Nat.reduceLeDiff, Nat.reduceLT, Int.reduceToNat, Int.reduceLE, Int.reduceLT, Int.reduceEq, Int.reduceNe, Int.reduceBEq, Int.reduceBNe, Nat.reduceBEq, Nat.reduceBNe, ↓reduceIte, reduceCtorEq, ↓reduceDIte, W_draw]
      rw [if_neg (by rw [k3]; decide)]
      simp (config := { contextual := true, maxSteps := 10000000 }) only [c11, k2, k4, k3, go_sem, Nat.reduceAdd, Nat.reduceSub, Nat.reduceMul, Nat.reduceEqDiff, Nat.reduceLeDiff, Nat.reduceLT, Int.reduceToNat, Int.reduceLE, Int.reduceLT, Int.reduceEq, Int.reduceNe, Int.reduceBEq, Int.reduceBNe, Nat.reduceBEq, Nat.reduceBNe, ↓reduceIte, reduceCtorEq, ↓reduceDIte, W_draw]
    · cases h
  · cases h
end GP
set_option linter.unusedSimpArgs false
/- A token's text is lexed as the token. -/
namespace GP
open Go Go.Proofs
set_option maxRecDepth 100000

/-- What may come behind a token's text. -/
def okRest (r : List UInt8) : Prop := r = [] ∨ ∃ b r', r = b :: r' ∧ (b = 32 ∨ b = 10)
theorem okRest_p {p : Int → Bool} (h32 : p 32 = false) (h10 : p 10 = false) {r : List UInt8} (h : okRest r) : r = [] ∨ ∃ b r', r = b :: r' ∧ p b.toNat = false := by
  rcases h with h | ⟨b, r', h, hb⟩
  · exact .inl h
  · refine .inr ⟨b, r', h, ?_⟩
    rcases hb with rfl | rfl
    · exact h32
    · exact h10
theorem runL_app {p : Int → Bool} {s rest : List UInt8} (h : ∀ b ∈ s, p b.toNat = true) (hr : rest = [] ∨ ∃ b r', rest = b :: r' ∧ p b.toNat = false) : runL p (s ++ rest) = s.length := by
  refine runL_eq (fun j b hj hb => ?_) (by simp) ?_
  · rw [List.getElem?_append_left hj] at hb
    exact h b (List.mem_of_getElem? hb)
  · rcases hr with rfl | ⟨b, r', rfl, hb⟩
    · exact .inl (by simp)
    · exact .inr ⟨b, by rw [List.getElem?_append_right (Nat.le_refl _)]; simp, hb⟩
theorem take_app (s rest : List UInt8) : (s ++ rest).take s.length = s := by simp
theorem endSmall_app {s rest : List UInt8} (hr : okRest rest) : endSmall (s ++ rest) s.length = false := by
  unfold endSmall
  rw [List.getElem?_append_right (Nat.le_refl _), Nat.sub_self]
  rcases hr with rfl | ⟨b, r', rfl, hb⟩
  · rfl
  · rcases hb with rfl | rfl <;> rfl
theorem numQ_digits {u : Nat} {m : Int} (h : u < 2 ^ 63) (hm : (u : Int) ≤ m) {rest : List UInt8} (hr : okRest rest) : numQ (Lib.decDigits u ++ rest) m = ((u : Int), (Lib.decDigits u).length) := by
  unfold numQ
  rw [runL_app (p := pDigit) (dd_dig u) (okRest_p (by decide) (by decide) hr), take_app, endSmall_app hr, dd_val]
  have h1 := dd_pos u
  have h2 := dd_len h
  have c1 : decide ((Lib.decDigits u).length < 1) = false := decide_eq_false (by omega)
  have c2 : decide (19 < (Lib.decDigits u).length) = false := decide_eq_false (by omega)
  have c3 : decide (m < (u : Int)) = false := decide_eq_false (by omega)
  rw [c1, c2, c3]; rfl
theorem txt_show : ∀ (s out : List UInt8) (k : Nat) (rest : List UInt8), s.all (fun b => pText b.toNat) = true → out.length + s.length ≤ 64 → txtL (escL s ++ 34 :: rest) out k = (out ++ s, k + (escL s).length + 1)
  | [], out, k, rest, _, _ => by
    have e : escL [] = [] := rfl
    rw [e, List.nil_append, txtL_cons, if_pos (by decide)]; simp
  | c :: s, out, k, rest, ha, hl => by
    simp only [List.all_cons, Bool.and_eq_true] at ha
    simp only [List.length_cons] at hl
    have e : escL (c :: s) = esc1 c ++ escL s := rfl
    have h64 : ¬ (decide (64 < out.length + 1) = true) := by simp only [decide_eq_true_eq]; omega
    rcases tf ((c == 34) || (c == 92)) with g | g
    · have e1 : esc1 c = [92, c] := by unfold esc1; rw [if_pos g]
      rw [e, e1]
      show txtL (92 :: c :: (escL s ++ 34 :: rest)) out k = _
      rw [txtL_cons, if_neg (by decide), if_pos (by decide)]
      have g3 : ¬ (((c != 34) && (c != 92)) = true) := by
        simp only [Bool.or_eq_true, beq_iff_eq] at g
        rcases g with rfl | rfl <;> decide
      simp only
      rw [if_neg g3, if_neg h64, txt_show s (out ++ [c]) (k + 2) rest ha.2 (by simp; omega)]
      simp; omega
    · have e1 : esc1 c = [c] := by unfold esc1; rw [if_neg (by rw [g]; decide)]
      simp only [Bool.or_eq_false_iff] at g
      rw [e, e1]
      show txtL (c :: (escL s ++ 34 :: rest)) out k = _
      rw [txtL_cons, if_neg (by rw [g.1]; decide), if_neg (by rw [g.2]; decide), if_neg (by rw [ha.1]; decide), if_neg h64, txt_show s (out ++ [c]) (k + 1) rest ha.2 (by simp; omega)]
      simp; omega
def headOk (y : List UInt8) : Bool := match y with
  | c :: _ => (!(pLet c.toNat) && !(pDigit c.toNat) && !(c == 64) && !(c == 34) && !(c == 32) && !(c == 10) && !(c == 35))
  | [] => false
theorem sign_first : ∀ y ∈ signsB, headOk y = true := by decide
theorem isSign_mem {s : List UInt8} (h : isSign s = true) : s ∈ signsB := by
  rw [isSign_12, Bool.or_eq_true] at h
  rw [signsB_12]
  rcases h with h | h
  · exact List.mem_append.2 (.inr (List.contains_iff_mem.1 h))
  · exact List.mem_append.2 (.inl (List.contains_iff_mem.1 h))
theorem tok_show {k : Int} {s : List UInt8} {n : Int} (hf : formI k s n = true) (hn : n < 2 ^ 63) {rest : List UInt8} (hr : okRest rest) :
    tokQ (showP k s n ++ rest) = (mkT k s n, (showP k s n).length) ∧ ∃ c r, showP k s n = c :: r ∧ (c == 32) = false ∧ (c == 10) = false ∧ (c == 35) = false := by
  unfold formI at hf
  rcases tf (k == 1) with k1 | k1
  · rw [if_pos k1] at hf
    have ek : k = 1 := by simpa using k1
    subst ek
    simp only [Bool.and_eq_true, beq_iff_eq] at hf
    obtain ⟨hw, rfl⟩ := hf
    have eS : showP 1 s 0 = s := rfl
    rw [eS]
    cases s with
    | nil => cases hw
    | cons c r =>
      rw [wordB_cons] at hw
      simp only [Bool.and_eq_true, decide_eq_true_eq] at hw
      obtain ⟨⟨w1, w2⟩, w3⟩ := hw
      have all : ∀ b ∈ c :: r, pWord b.toNat = true := fun b hb => by
        rcases List.mem_cons.1 hb with rfl | hb
        · rw [pWord_let, w1]; rfl
        · exact List.all_eq_true.1 w2 b hb
      have hR := runL_app (p := pWord) (s := c :: r) (rest := rest) all (okRest_p (by decide) (by decide) hr)
      refine ⟨?_, c, r, rfl, ?_⟩
      · rw [List.cons_append, tokQ_cons, if_pos w1, ← List.cons_append, hR, take_app, if_neg (by simp only [decide_eq_true_eq]; omega)]
      · refine ⟨?_, ?_, ?_⟩ <;> (rw [beq_eq_false_iff_ne]; rintro rfl; exact absurd w1 (by decide))
  rw [if_neg (by rw [k1]; decide)] at hf
  rcases tf (k == 2) with k2 | k2
  · rw [if_pos k2] at hf
    have ek : k = 2 := by simpa using k2
    subst ek
    simp only [Bool.and_eq_true, beq_iff_eq, decide_eq_true_eq] at hf
    obtain ⟨rfl, h0⟩ := hf
    obtain ⟨u, rfl⟩ : ∃ u : Nat, n = (u : Int) := ⟨n.toNat, by omega⟩
    have eS : showP 2 [] (u : Int) = Lib.decDigits u := by unfold showP; rw [if_pos (by decide)]; simp
    rw [eS]
    have hq := numQ_digits (u := u) (m := 9223372036854775807) (by omega) (by omega) hr
    have hd := dd_dig u
    have hp := dd_pos u
    cases hD : Lib.decDigits u with
    | nil => rw [hD] at hp; simp at hp
    | cons d r =>
      rw [hD] at hq hd
      have gd : pDigit (d.toNat : Int) = true := hd d (by simp)
      refine ⟨?_, d, r, rfl, ?_⟩
      · rw [List.cons_append, tokQ_cons, if_neg (by rw [dig_let gd]; decide), if_pos gd, ← List.cons_append, hq]
      · refine ⟨?_, ?_, ?_⟩ <;> (rw [beq_eq_false_iff_ne]; rintro rfl; exact absurd gd (by decide))
  rw [if_neg (by rw [k2]; decide)] at hf
  rcases tf (k == 3) with k3 | k3
  · rw [if_pos k3] at hf
    have ek : k = 3 := by simpa using k3
    subst ek
    simp only [Bool.and_eq_true, beq_iff_eq, decide_eq_true_eq] at hf
    obtain ⟨⟨ha, hl⟩, rfl⟩ := hf
    have eS : showP 3 s 0 = 34 :: (escL s ++ [34]) := rfl
    rw [eS]
    refine ⟨?_, 34, _, rfl, by decide, by decide, by decide⟩
    have e : (34 :: (escL s ++ [34])) ++ rest = 34 :: (escL s ++ 34 :: rest) := by simp
    rw [e, tokQ_cons, if_neg (by decide), if_neg (by decide), if_neg (by decide), if_pos (by decide), txt_show s [] 1 rest ha (by simp; omega)]
    simp; omega
  rw [if_neg (by rw [k3]; decide)] at hf
  rcases tf (k == 4) with k4 | k4
  · rw [if_pos k4] at hf
    have ek : k = 4 := by simpa using k4
    subst ek
    simp only [Bool.and_eq_true, beq_iff_eq, decide_eq_true_eq] at hf
    obtain ⟨⟨rfl, h0⟩, h1⟩ := hf
    obtain ⟨u, rfl⟩ : ∃ u : Nat, n = (u : Int) := ⟨n.toNat, by omega⟩
    have eS : showP 4 [] (u : Int) = 64 :: Lib.decDigits u := by unfold showP; rw [if_neg (by decide), if_pos (by decide)]; simp
    rw [eS]
    have hq := numQ_digits (u := u) (m := 1099511627776) (by omega) h1 hr
    have hp := dd_pos u
    refine ⟨?_, 64, _, rfl, by decide, by decide, by decide⟩
    rw [List.cons_append, tokQ_cons, if_neg (by decide), if_neg (by decide), if_pos (by decide), hq]
    have z : ((((u : Int), (Lib.decDigits u).length).2 : Int) == 0) = false := by simp only; rw [beq_eq_false_iff_ne]; omega
    rw [if_neg (by rw [z]; decide)]
    rfl
  rw [if_neg (by rw [k4]; decide)] at hf
  rcases tf (k == 5) with k5 | k5
  · rw [if_pos k5] at hf
    have ek : k = 5 := by simpa using k5
    subst ek
    simp only [Bool.and_eq_true, beq_iff_eq] at hf
    obtain ⟨hs, rfl⟩ := hf
    have eS : showP 5 s 0 = s := rfl
    rw [eS]
    have hm := isSign_mem hs
    have hfst := sign_first s hm
    have key : ∀ y ∈ signsB, y.length = 1 ∨ y.length = 2 := by decide
    have hlen := key s hm
    cases s with
    | nil => cases hfst
    | cons c r =>
      simp only [headOk, Bool.and_eq_true, Bool.not_eq_true'] at hfst
      obtain ⟨⟨⟨⟨⟨⟨f1, f2⟩, f3⟩, f4⟩, f5⟩, f6⟩, f7⟩ := hfst
      refine ⟨?_, c, r, rfl, f5, f6, f7⟩
      rw [List.cons_append, tokQ_cons, if_neg (by rw [f1]; decide), if_neg (by rw [f2]; decide), if_neg (by rw [f3]; decide), if_neg (by rw [f4]; decide), sgnQ_eq]
      match r, hlen with
      | [], _ =>
        rw [List.nil_append]
        have hno : (decide (1 < (c :: rest).length) && isSign ((c :: rest).take 2)) = false := by
          rcases hr with rfl | ⟨b, r', rfl, hb⟩
          · rfl
          · have e2 : (c :: b :: r').take 2 = [c, b] := rfl
            have k2 : ∀ y ∈ signs2, y[1]? = some 61 := by decide
            have : isSign [c, b] = false := by
              rw [isSign_12, not_one (s := [c, b]) (by simp), Bool.false_or, Bool.eq_false_iff]
              intro hc
              have := k2 _ (List.contains_iff_mem.1 hc)
              have hb61 : b = 61 := by simpa using this
              rcases hb with rfl | rfl <;> exact absurd hb61 (by decide)
            rw [e2, this, Bool.and_false]
        rw [if_neg (by rw [hno]; decide), if_pos hs]; rfl
      | [d], _ =>
        have e2 : (c :: ([d] ++ rest)).take 2 = [c, d] := rfl
        have e3 : decide (1 < (c :: ([d] ++ rest)).length) = true := by simp
        rw [e2, e3, hs, if_pos (by decide)]; rfl
      | d :: d' :: r', h => simp at h
  · rw [if_neg (by rw [k5]; decide)] at hf; cases hf

/-! ### Texts of many tokens -/
def showD : D → List UInt8
  | .agg [.int _ k, .str s, .int _ n] => showP k s n
  | _ => []
def fitT (d : D) : Prop := ∃ k s n, d = mkT k s n ∧ formI k s n = true ∧ n < 2 ^ 63
def gapOk (g : List UInt8) : Prop := (∃ b r, g = b :: r ∧ (b = 32 ∨ b = 10)) ∧ ∀ r, gapL false (g ++ r) = g.length + gapL false r
def textOf (items : List (List UInt8 × D)) (tail : List UInt8) : List UInt8 := items.flatMap (fun p => p.1 ++ showD p.2) ++ tail
theorem textOf_cons (p : List UInt8 × D) (items : List (List UInt8 × D)) (tail : List UInt8) : textOf (p :: items) tail = p.1 ++ (showD p.2 ++ textOf items tail) := by
  simp [textOf]
theorem lex_items : ∀ (items : List (List UInt8 × D)) (tail : List UInt8) (f : Nat) (l : List UInt8) (a : Nat) (out : List D), (∀ p ∈ items, gapOk p.1 ∧ fitT p.2) → okRest tail → gapL false tail = tail.length →
    l.drop a = textOf items tail → a ≤ l.length → l.length < betw l a + f → out.length + items.length ≤ 600 → lexF f l (betw l a) out = (out ++ items.map (·.2), 0, 0)
  | [], tail, f, l, a, out, _, _, ht, hd, ha, hf, _ => by
    have e : l.drop a = tail := by rw [hd]; simp [textOf]
    have hb : betw l a = l.length := by
      unfold betw; rw [e, ht, ← e]; simp; omega
    rw [hb] at hf ⊢
    cases f with
    | zero => omega
    | succ f => rw [lexF_succ, if_pos (by simp)]; simp
  | p :: items, tail, f, l, a, out, hp, hr, ht, hd, ha, hf, ho => by
    obtain ⟨⟨⟨b, r, hg, hb⟩, hgap⟩, k, s, n, hT, hF, hn⟩ := hp p (by simp)
    have hp' : ∀ q ∈ items, gapOk q.1 ∧ fitT q.2 := fun q hq => hp q (by simp [hq])
    have hrest : okRest (textOf items tail) := by
      cases items with
      | nil => simpa [textOf] using hr
      | cons q items =>
        obtain ⟨⟨⟨b, r, hg, hb⟩, _⟩, _⟩ := hp' q (by simp)
        rw [textOf_cons, hg]
        exact .inr ⟨b, _, rfl, hb⟩
    have hS : showD p.2 = showP k s n := by rw [hT]; rfl
    rw [textOf_cons, hS] at hd
    obtain ⟨h1, c, r2, h2, h3, h4, h5⟩ := tok_show hF hn hrest
    have hgl : gapL false (l.drop a) = p.1.length := by
      rw [hd, hgap, h2]
      simp [gapL, h3, h4, h5]
    have hbt : betw l a = a + p.1.length := by unfold betw; rw [hgl]
    have hd1 : l.drop (a + p.1.length) = showP k s n ++ textOf items tail := by
      rw [← List.drop_drop, hd]; simp
    have hpos : 0 < (showP k s n).length := by rw [h2]; simp
    have hlen : a + p.1.length + (showP k s n).length ≤ l.length := by
      have e1 := congrArg List.length hd1
      simp only [List.length_drop, List.length_append] at e1
      have e2 := congrArg List.length hd
      simp only [List.length_drop, List.length_append] at e2
      omega
    have hd2 : l.drop (a + p.1.length + (showP k s n).length) = textOf items tail := by
      rw [← List.drop_drop, hd1]; simp
    rw [hbt] at hf ⊢
    cases f with
    | zero => omega
    | succ f =>
      have hlt : a + p.1.length < l.length := by omega
      rw [lexF_succ, if_neg (by simp only [decide_eq_true_eq]; omega), tokP_Q hlt, hd1, h1]
      simp only
      simp only [List.length_cons] at ho
      have z1 : ((((showP k s n).length : Nat) : Int) == 0) = false := by rw [beq_eq_false_iff_ne]; omega
      have z2 : (((out.length : Nat) : Int) == 600) = false := by rw [beq_eq_false_iff_ne]; omega
      rw [if_neg (by rw [z1]; decide), if_neg (by rw [z2]; decide)]
      have hb2 := betw_le (l := l) (a := a + p.1.length + (showP k s n).length) hlen
      rw [lex_items items tail f l _ (out ++ [mkT k s n]) hp' hr ht hd2 hlen (by omega) (by simp; omega)]
      simp [hT]
theorem lexP_items {items : List (List UInt8 × D)} {tail : List UInt8} (h : ∀ p ∈ items, gapOk p.1 ∧ fitT p.2) (hr : okRest tail) (ht : gapL false tail = tail.length) (hl : (textOf items tail).length ≤ 4096) (h6 : items.length ≤ 600) : lexP (textOf items tail) = (items.map (·.2), 0, 0) := by
  unfold lexP
  rw [if_neg (by simp only [decide_eq_true_eq]; omega)]
  have := lex_items items tail ((textOf items tail).length + 1) (textOf items tail) 0 [] h hr ht rfl (by omega) (by omega) (by simpa using h6)
  simpa using this
theorem lexP_long {l : List UInt8} (h : 4096 < l.length) : lexP l = ([], 0, 3) := by
  unfold lexP; rw [if_pos (by simpa using h)]
end GP
