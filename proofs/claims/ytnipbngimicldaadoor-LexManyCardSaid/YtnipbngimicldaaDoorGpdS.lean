import Derived.Test.YtnipbngimicldaaDoorGpdX
set_option linter.unusedSimpArgs false
/- The reference's lexing: its parts. -/
namespace GP
open Go Go.Proofs
set_option maxRecDepth 100000

def pLet (n : Int) : Bool := decide (97 ≤ n) && decide (n ≤ 122)
theorem pSmall_let (n : Int) : pSmall n = (pLet n || n == 95) := rfl
theorem pWord_let (n : Int) : pWord n = (pLet n || n == 95 || pDigit n) := rfl
theorem ok35 : OkAt Tryd.prog 35 (φb pLet) := by
  refine ok_of (l := []) .nil fn35 fun args r h => ?_
  unfold φb at h
  split at h
  · rename_i n
    injection h with h; subst h
    refine ⟨by simp, by simp [D.cl], fun H T => ?_⟩
    unfold pLet
    rcases tf (decide (97 ≤ n)) with h1 | h1 <;> simp (config := { contextual := true, maxSteps := 10000000 }) only [c35, h1, go_sem, Nat.reduceAdd, Nat.reduceSub, Nat.reduceMul, Nat.reduceEqDiff, Nat.reduceLeDiff, Nat.reduceLT, Int.reduceToNat, Int.reduceLE, Int.reduceLT, Int.reduceEq, Int.reduceNe, Int.reduceBEq, Int.reduceBNe, Nat.reduceBEq, Nat.reduceBNe, ↓reduceIte, reduceCtorEq, ↓reduceDIte, W_draw]
  · cases h
theorem ok36 : OkAt Tryd.prog 36 (φb pDigit) := by
  refine ok_of (l := []) .nil fn36 fun args r h => ?_
  unfold φb at h
  split at h
  · rename_i n
    injection h with h; subst h
    refine ⟨by simp, by simp [D.cl], fun H T => ?_⟩
    unfold pDigit
    rcases tf (decide (48 ≤ n)) with h1 | h1 <;> simp (config := { contextual := true, maxSteps := 10000000 }) only [c36, h1, go_sem, Nat.reduceAdd, Nat.reduceSub, Nat.reduceMul, Nat.reduceEqDiff, Nat.reduceLeDiff, Nat.reduceLT, Int.reduceToNat, Int.reduceLE, Int.reduceLT, Int.reduceEq, Int.reduceNe, Int.reduceBEq, Int.reduceBNe, Nat.reduceBEq, Nat.reduceBNe, ↓reduceIte, reduceCtorEq, ↓reduceDIte, W_draw]
  · cases h

/-! ### Signs -/
def signsR : List (List UInt8) := [[123], [125], [40], [41], [91], [93], [59], [46], [44], [43], [45], [42], [60], [62], [61, 61], [33, 61], [60, 61], [62, 61]]
def φsignsR : List D → Option D
  | [] => some (.sl none (signsR.map .str))
  | _ => none
theorem ok37 : OkAt Tryd.prog 37 φsignsR := by
  refine ok_of (l := []) .nil fn37 fun args r h => ?_
  unfold φsignsR at h
  split at h
  · injection h with h; subst h
    refine ⟨by simp, by decide, fun H T => ?_⟩
    simp (config := { contextual := true, maxSteps := 10000000 }) only [c37, go_sem, Nat.reduceAdd, Nat.reduceSub, Nat.reduceMul, Nat.reduceEqDiff, Nat.reduceLeDiff, Nat.reduceLT, Int.reduceToNat, Int.reduceLE, Int.reduceLT, Int.reduceEq, Int.reduceNe, Int.reduceBEq, Int.reduceBNe, Nat.reduceBEq, Nat.reduceBNe, ↓reduceIte, reduceCtorEq, ↓reduceDIte, W_draw]
    rfl
  · cases h
def isSign (s : List UInt8) : Bool := signsR.any (fun x => x == s)
def φsign : List D → Option D
  | [.str s] => some (.bool (isSign s))
  | _ => none
theorem any_take_no {α : Type} {p : α → Bool} {xs : List α} {i : Nat} {x : α} (hx : xs[i]? = some x) (h : (xs.take i).any p = false) (hp : p x = false) : (xs.take (i + 1)).any p = false := by
  rw [List.take_add_one, hx]; simp [h, hp]
theorem any_hit {α : Type} {p : α → Bool} {xs : List α} {i : Nat} {x : α} (hx : xs[i]? = some x) (hp : p x = true) : xs.any p = true := List.any_eq_true.2 ⟨x, List.mem_of_getElem? hx, hp⟩
theorem ok19 : OkAt Tryd.prog 19 φsign := by
  refine ok_of (l := [(37, φsignsR)]) (.cons ok37 .nil) fn19 fun args r h => ?_
  unfold φsign at h
  split at h
  · rename_i s
    injection h with h; subst h
    refine ⟨by simp, by simp [D.cl], fun H T => ?_⟩
    have ps : φsignsR [] = some (.sl none (signsR.map .str)) := rfl
    have eS : D.eraseL (signsR.map D.str) = signsR.map D.str := rfl
    have lS : (signsR.map D.str).length = 18 := rfl
    have get : ∀ j, j < 18 → ∃ x, (signsR.map D.str)[j]? = some (.str x) ∧ signsR[j]? = some x := fun j h => by
      have hl : j < signsR.length := h
      exact ⟨signsR[j], by simp [hl], by simp [hl]⟩
    obtain ⟨SB, hSB⟩ : ∃ z, signsR.map D.str = z := ⟨_, rfl⟩
    rw [hSB] at ps eS lS get
    simp (config := { contextual := true, maxSteps := 10000000 }) only [c19, ps, eS, go_sem, Nat.reduceAdd, Nat.reduceSub, Nat.reduceMul, Nat.reduceEqDiff, Nat.reduceLeDiff, Nat.reduceLT, Int.reduceToNat, Int.reduceLE, Int.reduceLT, Int.reduceEq, Int.reduceNe, Int.reduceBEq, Int.reduceBNe, Nat.reduceBEq, Nat.reduceBNe, ↓reduceIte, reduceCtorEq, ↓reduceDIte, W_draw]
    refine W_for (fun j s' => s'.t 0 = .str s ∧ s'.t 3 = .sl none SB ∧ s'.t 4 = .int .i64 (j : Nat) ∧ s'.H = H ∧ s'.T = T ∧ j ≤ 18 ∧ (signsR.take j).any (fun x => x == s) = false) 18 ⟨0, by simp [upd, argT]⟩ (fun i s h => h.2.2.2.2.2.1) ?_ (XL_mono _)
    rintro j ⟨t, B, T'⟩ ⟨r0, r3, r4, rfl, rfl, hj, hc⟩
    simp only at r0 r3 r4
    by_cases hlt : j < 18
    · have d1 : decide (((j : Nat) : Int) < SB.length) = true := by rw [lS]; simp only [decide_eq_true_eq]; omega
      obtain ⟨x, f1, f2⟩ := get j hlt
      rcases tf (x == s) with q | q
      · have hT : isSign s = true := any_hit (p := fun x => x == s) f2 q
        rw [hT]
        simp (config := { contextual := true, maxSteps := 10000000 }) only [r0, r3, r4, d1, f1, q, go_sem, Nat.reduceAdd, Nat.reduceSub, Nat.reduceMul, Nat.reduceEqDiff, Nat.reduceLeDiff, Nat.reduceLT, Int.reduceToNat, Int.reduceLE, Int.reduceLT, Int.reduceEq, Int.reduceNe, Int.reduceBEq, Int.reduceBNe, Nat.reduceBEq, Nat.reduceBNe, ↓reduceIte, reduceCtorEq, ↓reduceDIte, W_draw]
      · have nx := any_take_no (p := fun x => x == s) f2 hc q
        simp (config := { contextual := true, maxSteps := 10000000 }) only [r0, r3, r4, d1, f1, q, wrap_su j (by omega), go_sem, Nat.reduceAdd, Nat.reduceSub, Nat.reduceMul, Nat.reduceEqDiff, Nat.reduceLeDiff, Nat.reduceLT, Int.reduceToNat, Int.reduceLE, Int.reduceLT, Int.reduceEq, Int.reduceNe, Int.reduceBEq, Int.reduceBNe, Nat.reduceBEq, Nat.reduceBNe, ↓reduceIte, reduceCtorEq, ↓reduceDIte, W_draw]
        exact ⟨by omega, nx⟩
    · have d1 : decide (((j : Nat) : Int) < SB.length) = false := by rw [lS]; simp only [decide_eq_false_iff_not]; omega
      have hT : isSign s = false := by
        have : j = signsR.length := by show j = 18; omega
        subst this; rw [List.take_length] at hc
        exact hc
      rw [hT]
      simp (config := { contextual := true, maxSteps := 10000000 }) only [r0, r3, r4, d1, go_sem, Nat.reduceAdd, Nat.reduceSub, Nat.reduceMul, Nat.reduceEqDiff, Nat.reduceLeDiff, Nat.reduceLT, Int.reduceToNat, Int.reduceLE, Int.reduceLT, Int.reduceEq, Int.reduceNe, Int.reduceBEq, Int.reduceBNe, Nat.reduceBEq, Nat.reduceBNe, ↓reduceIte, reduceCtorEq, ↓reduceDIte, W_draw]
  · cases h

/-! ### Words -/
def wordB (s : List UInt8) : Bool := match s with
  | [] => false
  | c :: r => pLet c.toNat && r.all (fun b => pWord b.toNat) && decide ((s.length : Int) ≤ 64)
def okAtW (j : Nat) (b : UInt8) : Bool := if j = 0 then pLet b.toNat else pWord b.toNat
theorem wordB_no {s : List UInt8} {j : Nat} {b : UInt8} (h : s[j]? = some b) (hb : okAtW j b = false) : wordB s = false := by
  cases s with
  | nil => rfl
  | cons c r =>
    cases j with
    | zero =>
      simp at h; subst h
      have hb : pLet (c.toNat : Int) = false := hb
      simp [wordB, hb]
    | succ j =>
      have h : r[j]? = some b := by simpa using h
      have hb : pWord (b.toNat : Int) = false := hb
      have : r.all (fun b => pWord b.toNat) = false := List.all_eq_false.2 ⟨b, List.mem_of_getElem? h, by simp [hb]⟩
      simp [wordB, this]
theorem wordB_end {s : List UInt8} (h : ∀ j b, s[j]? = some b → okAtW j b = true) : wordB s = (decide ((0 : Int) < s.length) && decide ((s.length : Int) ≤ 64)) := by
  cases s with
  | nil => rfl
  | cons c r =>
    have h0 : pLet (c.toNat : Int) = true := h 0 c rfl
    have h1 : r.all (fun b => pWord b.toNat) = true := List.all_eq_true.2 fun b hb => by
      obtain ⟨j, hj⟩ := List.getElem?_of_mem hb
      exact h (j + 1) b (by simpa using hj)
    have : decide ((0 : Int) < ((c :: r).length : Nat)) = true := by simp
    rw [this]; simp only [wordB, h0, h1, Bool.true_and]
def φword : List D → Option D
  | [.str s] => if s.length ≤ 2 ^ 60 then some (.bool (wordB s)) else none
  | _ => none
set_option maxHeartbeats 4000000 in
theorem ok18 : OkAt Tryd.prog 18 φword := by
  refine ok_of (l := [(35, φb pLet), (36, φb pDigit)]) (.cons ok35 (.cons ok36 .nil)) fn18 fun args r h => ?_
  unfold φword at h
  split at h
  · rename_i s
    split at h
    · rename_i hl
      injection h with h; subst h
      refine ⟨by simp, by simp [D.cl], fun H T => ?_⟩
      simp (config := { contextual := true, maxSteps := 10000000 }) only [c18, go_sem, Nat.reduceAdd, Nat.reduceSub, Nat.reduceMul, Nat.reduceEqDiff, Nat.reduceLeDiff, Nat.reduceLT, Int.reduceToNat, Int.reduceLE, Int.reduceLT, Int.reduceEq, Int.reduceNe, Int.reduceBEq, Int.reduceBNe, Nat.reduceBEq, Nat.reduceBNe, ↓reduceIte, reduceCtorEq, ↓reduceDIte, W_draw]
      refine W_for (fun i s' => s'.t 0 = .str s ∧ s'.t 3 = .int .i64 (i : Nat) ∧ s'.H = H ∧ s'.T = T ∧ i ≤ s.length ∧ ∀ j b, j < i → s[j]? = some b → okAtW j b = true) s.length ⟨0, by simp [upd, argT]⟩ (fun i s h => h.2.2.2.2.1) ?_ (XL_mono _)
      rintro i ⟨t, B, T'⟩ ⟨r0, r3, rfl, rfl, hi, hc⟩
      simp only at r0 r3
      by_cases hlt : i < s.length
      · have d1 : decide (((i : Nat) : Int) < s.length) = true := by simp only [decide_eq_true_eq]; omega
        have ex : s[i]? = some s[i] := by simp [hlt]
        obtain ⟨b, hb⟩ : ∃ b, s[i] = b := ⟨_, rfl⟩
        rw [hb] at ex
        have ix := fun q => ixs_at ex q
        have no := fun hp => wordB_no ex hp
        have nx : okAtW i b = true → ∀ j b, j < i + 1 → s[j]? = some b → okAtW j b = true := fun hp j c hj hc' => by
          rcases Nat.lt_or_ge j i with h' | h'
          · exact hc j c h' hc'
          · have : j = i := by omega
            subst this; rw [ex] at hc'; injection hc' with hc'; subst hc'; exact hp
        have q1 : φb pLet [.int .u8 (b.toNat : Int)] = some (.bool (pLet b.toNat)) := rfl
        have q2 : φb pDigit [.int .u8 (b.toNat : Int)] = some (.bool (pDigit b.toNat)) := rfl
        rcases tf (pLet (b.toNat : Int)) with g1 | g1
        · have nx := nx (by unfold okAtW; split <;> simp [g1, pWord_let])
          simp (config := { contextual := true, maxSteps := 10000000 }) only [r0, r3, d1, ix, q1, g1, wrap_su i (by omega), go_sem, Nat.reduceAdd, Nat.reduceSub, Nat.reduceMul, Nat.reduceEqDiff, Nat.reduceLeDiff, Nat.reduceLT, Int.reduceToNat, Int.reduceLE, Int.reduceLT, Int.reduceEq, Int.reduceNe, Int.reduceBEq, Int.reduceBNe, Nat.reduceBEq, Nat.reduceBNe, ↓reduceIte, reduceCtorEq, ↓reduceDIte, W_draw]
          exact ⟨by omega, nx⟩
        by_cases h0 : i = 0
        · have e0 : (((i : Nat) : Int) == 0) = true := by rw [beq_iff_eq]; omega
          have no := no (by unfold okAtW; rw [if_pos h0]; exact g1)
          rw [no]
          simp (config := { contextual := true, maxSteps := 10000000 }) only [r0, r3, d1, ix, q1, g1, e0, go_sem, Nat.reduceAdd, Nat.reduceSub, Nat.reduceMul, Nat.reduceEqDiff, Nat.reduceLeDiff, Nat.reduceLT, Int.reduceToNat, Int.reduceLE, Int.reduceLT, Int.reduceEq, Int.reduceNe, Int.reduceBEq, Int.reduceBNe, Nat.reduceBEq, Nat.reduceBNe, ↓reduceIte, reduceCtorEq, ↓reduceDIte, W_draw]
        have e0 : (((i : Nat) : Int) == 0) = false := by rw [beq_eq_false_iff_ne]; omega
        rcases tf (pDigit (b.toNat : Int)) with g2 | g2
        · have nx := nx (by unfold okAtW; rw [if_neg h0, pWord_let, g2]; simp)
          simp (config := { contextual := true, maxSteps := 10000000 }) only [r0, r3, d1, ix, q1, q2, g1, g2, e0, wrap_su i (by omega), go_sem, Nat.reduceAdd, Nat.reduceSub, Nat.reduceMul, Nat.reduceEqDiff, Nat.reduceLeDiff, Nat.reduceLT, Int.reduceToNat, Int.reduceLE, Int.reduceLT, Int.reduceEq, Int.reduceNe, Int.reduceBEq, Int.reduceBNe, Nat.reduceBEq, Nat.reduceBNe, ↓reduceIte, reduceCtorEq, ↓reduceDIte, W_draw]
          exact ⟨by omega, nx⟩
        rcases tf ((b.toNat : Int) == 95) with g3 | g3
        · have nx := nx (by unfold okAtW; rw [if_neg h0, pWord_let, g3]; simp)
          have g3' : ((b.toNat : Int) != 95) = false := by simp only [bne, g3]; rfl
          simp (config := { contextual := true, maxSteps := 10000000 }) only [r0, r3, d1, ix, q1, q2, g1, g2, g3', e0, wrap_su i (by omega), go_sem, Nat.reduceAdd, Nat.reduceSub, Nat.reduceMul, Nat.reduceEqDiff, Nat.reduceLeDiff, Nat.reduceLT, Int.reduceToNat, Int.reduceLE, Int.reduceLT, Int.reduceEq, Int.reduceNe, Int.reduceBEq, Int.reduceBNe, Nat.reduceBEq, Nat.reduceBNe, ↓reduceIte, reduceCtorEq, ↓reduceDIte, W_draw]
          exact ⟨by omega, nx⟩
        · have no := no (by unfold okAtW; rw [if_neg h0, pWord_let, g1, g2, g3]; rfl)
          have g3' : ((b.toNat : Int) != 95) = true := by simp only [bne, g3]; rfl
          rw [no]
          simp (config := { contextual := true, maxSteps := 10000000 }) only [r0, r3, d1, ix, q1, q2, g1, g2, g3', e0, go_sem, Nat.reduceAdd, Nat.reduceSub, Nat.reduceMul, Nat.reduceEqDiff, Nat.reduceLeDiff, Nat.reduceLT, Int.reduceToNat, Int.reduceLE, Int.reduceLT, Int.reduceEq, Int.reduceNe, Int.reduceBEq, Int.reduceBNe, Nat.reduceBEq, Nat.reduceBNe, ↓reduceIte, reduceCtorEq, ↓reduceDIte, W_draw]
      · have d1 : decide (((i : Nat) : Int) < s.length) = false := by simp only [decide_eq_false_iff_not]; omega
        have hE := wordB_end (s := s) fun j b hj => hc j b (by
          rcases Nat.lt_or_ge j s.length with h' | h'
          · omega
          · rw [List.getElem?_eq_none h'] at hj; cases hj) hj
        rw [hE]
        rcases tf (decide ((0 : Int) < s.length)) with g | g <;> simp (config := { contextual := true, maxSteps := 10000000 }) only [r0, r3, d1, g, go_sem, Nat.reduceAdd, Nat.reduceSub, Nat.reduceMul, Nat.reduceEqDiff, Nat.reduceLeDiff, Nat.reduceLT, Int.reduceToNat, Int.reduceLE, Int.reduceLT, Int.reduceEq, Int.reduceNe, Int.reduceBEq, Int.reduceBNe, Nat.reduceBEq, Nat.reduceBNe, ↓reduceIte, reduceCtorEq, ↓reduceDIte, W_draw]
    · cases h
  · cases h

/-! ### Values -/
def valR (s : List UInt8) (most : Int) : Int × Bool :=
  if s.all isDig && decide (s.length ≤ 19) then (IntKind.i64.wrap (decV s : Int), decide ((0 : Int) < s.length) && decide ((decV s : Int) ≤ most)) else (0, false)
def tupR (p : Int × Bool) : D := .tup [.int .i64 p.1, .bool p.2]
theorem tupR_cl (p : Int × Bool) : (tupR p).cl 0 0 = true := by simp [tupR, D.cl, D.clL]
def φval : List D → Option D
  | [.str s, .int .i64 most] => if s.length ≤ 2 ^ 60 ∧ 0 ≤ most ∧ most < 2 ^ 63 then some (tupR (valR s most)) else none
  | _ => none
theorem wrapU (a : Int) : IntKind.u64.wrap a = a % 2 ^ 64 := by simp [IntKind.wrap, IntKind.bits, IntKind.signed]
theorem wrapU8 (a : Int) : IntKind.u8.wrap a = a % 2 ^ 8 := by simp [IntKind.wrap, IntKind.bits, IntKind.signed]
theorem decA_take {s : List UInt8} {i : Nat} {b : UInt8} (h : s[i]? = some b) : decA 0 (s.take (i + 1)) = decA 0 (s.take i) * 10 + (b.toNat - 48) := by
  rw [List.take_add_one, h]; simp [decA]
set_option maxHeartbeats 4000000 in
theorem ok43 : OkAt Tryd.prog 43 φval := by
  refine ok_of (l := [(36, φb pDigit)]) (.cons ok36 .nil) fn43 fun args r h => ?_
  unfold φval at h
  split at h
  · rename_i s most
    split at h
    · rename_i hv
      obtain ⟨hl, m0, m1⟩ := hv
      injection h with h; subst h
      refine ⟨by simp, tupR_cl _, fun H T => ?_⟩
      simp (config := { contextual := true, maxSteps := 10000000 }) only [c43, go_sem, Nat.reduceAdd, Nat.reduceSub, Nat.reduceMul, Nat.reduceEqDiff, Nat.reduceLeDiff, Nat.reduceLT, Int.reduceToNat, Int.reduceLE, Int.reduceLT, Int.reduceEq, Int.reduceNe, Int.reduceBEq, Int.reduceBNe, Nat.reduceBEq, Nat.reduceBNe, ↓reduceIte, reduceCtorEq, ↓reduceDIte, W_draw]
      refine W_for (fun i s' => s'.t 0 = .str s ∧ s'.t 1 = .int .i64 most ∧ s'.t 6 = .int .u64 (decA 0 (s.take i) : Nat) ∧ s'.t 7 = .int .i64 (i : Nat) ∧ s'.H = H ∧ s'.T = T ∧ i ≤ s.length ∧ i ≤ 19 ∧ (s.take i).all isDig = true) s.length ⟨0, by simp [upd, argT, decA]⟩ (fun i s h => h.2.2.2.2.2.2.1) ?_ (XL_mono _)
      rintro i ⟨t, B, T'⟩ ⟨r0, r1, r6, r7, rfl, rfl, hi, hi9, hc⟩
      simp only at r0 r1 r6 r7
      have hdg : ∀ b ∈ s.take i, isDig b = true := fun b hb => List.all_eq_true.1 hc b hb
      have hlt19 : (s.take i).length ≤ 19 := by simp; omega
      have hval := decV_lt hdg hlt19
      have hpow : 10 ^ (s.take i).length ≤ 10 ^ i := Nat.pow_le_pow_right (by decide) (by simp; omega)
      by_cases hlt : i < s.length
      · have d1 : decide (((i : Nat) : Int) < s.length) = true := by simp only [decide_eq_true_eq]; omega
        have ex : s[i]? = some s[i] := by simp [hlt]
        obtain ⟨b, hb⟩ : ∃ b, s[i] = b := ⟨_, rfl⟩
        rw [hb] at ex
        have ix := fun q => ixs_at ex q
        have q2 : φb pDigit [.int .u8 (b.toNat : Int)] = some (.bool (pDigit b.toNat)) := rfl
        rcases tf (pDigit (b.toNat : Int)) with g | g
        · by_cases h19 : i < 19
          · have d2 : decide ((19 : Int) ≤ (i : Nat)) = false := by simp only [decide_eq_false_iff_not]; omega
            have hd : isDig b = true := g
            have hb2 := isDig_iff.1 hd
            have tk := decA_take ex
            have v18 : decA 0 (s.take i) < 10 ^ 18 := by
              have : 10 ^ i ≤ 10 ^ 18 := Nat.pow_le_pow_right (by decide) (by omega)
              unfold decV at hval; omega
            have w1 : IntKind.u64.wrap (((decA 0 (s.take i) : Nat) : Int) * 10) = ((decA 0 (s.take i) * 10 : Nat) : Int) := by rw [wrapU]; omega
            have w2 : IntKind.u8.wrap ((b.toNat : Int) - 48) = ((b.toNat - 48 : Nat) : Int) := by rw [wrapU8]; omega
            have w3 : IntKind.u64.wrap ((b.toNat - 48 : Nat) : Int) = ((b.toNat - 48 : Nat) : Int) := by rw [wrapU]; omega
            have w4 : IntKind.u64.wrap (((decA 0 (s.take i) * 10 : Nat) : Int) + ((b.toNat - 48 : Nat) : Int)) = ((decA 0 (s.take (i + 1)) : Nat) : Int) := by rw [wrapU, tk]; omega
            simp (config := { contextual := true, maxSteps := 10000000 }) only [r0, r1, r6, r7, d1, d2, ix, q2, g, w1, w2, w3, w4, wrap_su i (by omega), go_sem, Nat.reduceAdd, Nat.reduceSub, Nat.reduceMul, Nat.reduceEqDiff, Nat.reduceLeDiff, Nat.reduceLT, Int.reduceToNat, Int.reduceLE, Int.reduceLT, Int.reduceEq, Int.reduceNe, Int.reduceBEq, Int.reduceBNe, Nat.reduceBEq, Nat.reduceBNe, ↓reduceIte, reduceCtorEq, ↓reduceDIte, W_draw]
            refine ⟨by omega, by omega, ?_⟩
            rw [List.take_add_one, ex]; simp [hc, hd]
          · have d2 : decide ((19 : Int) ≤ (i : Nat)) = true := by simp only [decide_eq_true_eq]; omega
            have hE : valR s most = (0, false) := by
              unfold valR; rw [if_neg]; simp only [Bool.and_eq_true, decide_eq_true_eq, not_and]; omega
            rw [hE]
            simp (config := { contextual := true, maxSteps := 10000000 }) only [r0, r1, r6, r7, d1, d2, ix, q2, g, tupR, go_sem, Nat.reduceAdd, Nat.reduceSub, Nat.reduceMul, Nat.reduceEqDiff, Nat.reduceLeDiff, Nat.reduceLT, Int.reduceToNat, Int.reduceLE, Int.reduceLT, Int.reduceEq, Int.reduceNe, Int.reduceBEq, Int.reduceBNe, Nat.reduceBEq, Nat.reduceBNe, ↓reduceIte, reduceCtorEq, ↓reduceDIte, W_draw]
        · have hE : valR s most = (0, false) := by
            unfold valR; rw [if_neg]
            have : s.all isDig = false := List.all_eq_false.2 ⟨b, List.mem_of_getElem? ex, by simp [isDig, g]⟩
            simp [this]
          rw [hE]
          simp (config := { contextual := true, maxSteps := 10000000 }) only [r0, r1, r6, r7, d1, ix, q2, g, tupR, go_sem, Nat.reduceAdd, Nat.reduceSub, Nat.reduceMul, Nat.reduceEqDiff, Nat.reduceLeDiff, Nat.reduceLT, Int.reduceToNat, Int.reduceLE, Int.reduceLT, Int.reduceEq, Int.reduceNe, Int.reduceBEq, Int.reduceBNe, Nat.reduceBEq, Nat.reduceBNe, ↓reduceIte, reduceCtorEq, ↓reduceDIte, W_draw]
      · have d1 : decide (((i : Nat) : Int) < s.length) = false := by simp only [decide_eq_false_iff_not]; omega
        have ei : i = s.length := by omega
        have eT : s.take i = s := by rw [ei, List.take_length]
        rw [eT] at r6 hc hval
        have hE : valR s most = (IntKind.i64.wrap (decV s : Int), decide ((0 : Int) < s.length) && decide ((decV s : Int) ≤ most)) := by
          unfold valR; rw [if_pos]; simp only [Bool.and_eq_true, decide_eq_true_eq]; exact ⟨hc, by omega⟩
        rw [hE]
        have wm : IntKind.u64.wrap most = most := by rw [wrapU]; omega
        have eV : decV s = decA 0 s := rfl
        rw [eV]
        rcases tf (decide ((0 : Int) < s.length)) with g | g
        · simp (config := { contextual := true, maxSteps := 10000000 }) only [r0, r1, r6, r7, d1, g, wm, tupR, go_sem, Nat.reduceAdd, Nat.reduceSub, Nat.reduceMul, Nat.reduceEqDiff, Nat.reduceLeDiff, Nat.reduceLT, Int.reduceToNat, Int.reduceLE, Int.reduceLT, Int.reduceEq, Int.reduceNe, Int.reduceBEq, Int.reduceBNe, Nat.reduceBEq, Nat.reduceBNe, ↓reduceIte, reduceCtorEq, ↓reduceDIte, W_draw]
        · simp (config := { contextual := true, maxSteps := 10000000 }) only [r0, r1, r6, r7, d1, g, tupR, go_sem, Nat.reduceAdd, Nat.reduceSub, Nat.reduceMul, Nat.reduceEqDiff, Nat.reduceLeDiff, Nat.reduceLT, Int.reduceToNat, Int.reduceLE, Int.reduceLT, Int.reduceEq, Int.reduceNe, Int.reduceBEq, Int.reduceBNe, Nat.reduceBEq, Nat.reduceBNe, ↓reduceIte, reduceCtorEq, ↓reduceDIte, W_draw]
    · cases h
  · cases h
end GP
set_option linter.unusedSimpArgs false
/- The reference's texts, and a token by what its text is. -/
namespace GP
open Go Go.Proofs
set_option maxRecDepth 100000

def bodL : List UInt8 → List UInt8 → List UInt8 × Bool
  | [], out => (out, decide (((out.length : Nat) : Int) ≤ 64))
  | c :: r, out =>
    if (c == 34) || !(pText c.toNat) then ([], false) else
    if c == 92 then (match r with
      | [] => ([], false)
      | d :: r => if (d != 34) && (d != 92) then ([], false) else bodL r (out ++ [d])) else bodL r (out ++ [c])
theorem bodL_nil (out : List UInt8) : bodL [] out = (out, decide (((out.length : Nat) : Int) ≤ 64)) := by unfold bodL; rfl
theorem bodL_cons (c : UInt8) (r out : List UInt8) : bodL (c :: r) out =
    if (c == 34) || !(pText c.toNat) then ([], false) else
    if c == 92 then (match r with
      | [] => ([], false)
      | d :: r => if (d != 34) && (d != 92) then ([], false) else bodL r (out ++ [d])) else bodL r (out ++ [c]) := by
  conv => lhs; unfold bodL
def bodyR (s : List UInt8) : List UInt8 × Bool :=
  if decide (((s.length : Nat) : Int) < 2) then ([], false) else
  if (s[0]? != some 34) || (s[s.length - 1]? != some 34) then ([], false) else bodL ((s.take (s.length - 1)).drop 1) []
def tupB2 (p : List UInt8 × Bool) : D := .tup [.str p.1, .bool p.2]
theorem tupB2_cl (p : List UInt8 × Bool) : (tupB2 p).cl 0 0 = true := by simp [tupB2, D.cl, D.clL]
def φbody : List D → Option D
  | [.str s] => if s.length ≤ 2 ^ 60 then some (tupB2 (bodyR s)) else none
  | _ => none
theorem b2one (t : Option Nat) (c : UInt8) : b2sD (.sl t [.int .u8 (c.toNat : Int)]) = some (.str [c]) := b2s_byteD t [c]
theorem sadd {a b : List UInt8} (h : a.length + b.length < 2 ^ 62) : bin2 .add (.str a) (.str b) = some (.str (a ++ b)) := by
  show strOp .add a b = _
  simp [strOp, h]
set_option maxHeartbeats 8000000 in
theorem ok44 : OkAt Tryd.prog 44 φbody := by
  refine ok_of (l := []) .nil fn44 fun args r h => ?_
  unfold φbody at h
  split at h
  · rename_i s
    split at h
    · rename_i hl
      injection h with h; subst h
      refine ⟨by simp, tupB2_cl _, fun H T => ?_⟩
      unfold bodyR
      rcases tf (decide (((s.length : Nat) : Int) < 2)) with g | g
      · rw [if_pos g]
        simp (config := { contextual := true, maxSteps := 10000000 }) only [c44, g, tupB2, go_sem, Nat.reduceAdd, Nat.reduceSub, Nat.reduceMul, Nat.reduceEqDiff, Nat.reduceLeDiff, Nat.reduceLT, Int.reduceToNat, Int.reduceLE, Int.reduceLT, Int.reduceEq, Int.reduceNe, Int.reduceBEq, Int.reduceBNe, Nat.reduceBEq, Nat.reduceBNe, ↓reduceIte, reduceCtorEq, ↓reduceDIte, W_draw]
      rw [if_neg (by rw [g]; decide)]
      have h2 : 2 ≤ s.length := by simp only [decide_eq_false_iff_not] at g; omega
      have ex0 : s[0]? = some s[0] := by simp
      obtain ⟨b0, hb0⟩ : ∃ b, s[0] = b := ⟨_, rfl⟩
      rw [hb0] at ex0
      have exl : s[s.length - 1]? = some (s[s.length - 1]'(by omega)) := List.getElem?_eq_getElem (by omega)
      obtain ⟨bl, hbl⟩ : ∃ b, (s[s.length - 1]'(by omega)) = b := ⟨_, rfl⟩
      rw [hbl] at exl
      have ix0 : ∀ q, ixs (.str s) (.int q 0) = some (.int .u8 b0.toNat) := fun q => ixs_at ex0 q
      have ixl := fun q => ixs_at exl q
      have e0 : ((b0.toNat : Int) != 34) = (b0 != 34) := by simp only [bne]; rw [show ((b0.toNat : Int) == 34) = (b0 == 34) from u8_eq b0 34 (by decide)]
      have el : ((bl.toNat : Int) != 34) = (bl != 34) := by simp only [bne]; rw [show ((bl.toNat : Int) == 34) = (bl == 34) from u8_eq bl 34 (by decide)]
      have wl : IntKind.i64.wrap ((s.length : Int) - 1) = ((s.length - 1 : Nat) : Int) := by rw [wrap_in (by omega) (by omega)]; omega
      rw [ex0, exl]
      have f0 : (some b0 != some (34 : UInt8)) = (b0 != 34) := rfl
      have fl : (some bl != some (34 : UInt8)) = (bl != 34) := rfl
      rw [f0, fl]
      rcases tf (b0 != 34) with g0 | g0
      · rw [if_pos (by rw [g0]; rfl)]
        simp (config := { contextual := true, maxSteps := 10000000 }) only [c44, g, ix0, e0, g0, tupB2, go_sem, Nat.reduceAdd, Nat.reduceSub, Nat.reduceMul, Nat.reduceEqDiff, Nat.reduceLeDiff, Nat.reduceLT, Int.reduceToNat, Int.reduceLE, Int.reduceLT, Int.reduceEq, Int.reduceNe, Int.reduceBEq, Int.reduceBNe, Nat.reduceBEq, Nat.reduceBNe, ↓reduceIte, reduceCtorEq, ↓reduceDIte, W_draw]
      rcases tf (bl != 34) with g1 | g1
      · rw [if_pos (by rw [g0, g1]; rfl)]
        simp (config := { contextual := true, maxSteps := 10000000 }) only [c44, g, ix0, e0, g0, wl, ixl, el, g1, tupB2, go_sem, Nat.reduceAdd, Nat.reduceSub, Nat.reduceMul, Nat.reduceEqDiff, Nat.reduceLeDiff, Nat.reduceLT, Int.reduceToNat, Int.reduceLE, Int.reduceLT, Int.reduceEq, Int.reduceNe, Int.reduceBEq, Int.reduceBNe, Nat.reduceBEq, Nat.reduceBNe, ↓reduceIte, reduceCtorEq, ↓reduceDIte, W_draw]
      rw [if_neg (by rw [g0, g1]; decide)]
      simp (config := { contextual := true, maxSteps := 10000000 }) only [c44, g, ix0, e0, g0, wl, ixl, el, g1, go_sem, Nat.reduceAdd, Nat.reduceSub, Nat.reduceMul, Nat.reduceEqDiff, Nat.reduceLeDiff, Nat.reduceLT, Int.reduceToNat, Int.reduceLE, Int.reduceLT, Int.reduceEq, Int.reduceNe, Int.reduceBEq, Int.reduceBNe, Nat.reduceBEq, Nat.reduceBNe, ↓reduceIte, reduceCtorEq, ↓reduceDIte, W_draw]
      refine W_for (fun i s' => s'.t 0 = .str s ∧ s'.H = H ∧ ExtT T s'.T ∧ ∃ (k : Nat) (out : List UInt8), s'.t 5 = .int .i64 (k : Nat) ∧ s'.t 4 = .str out ∧ i + 1 ≤ k ∧ k ≤ s.length - 1 ∧ out.length ≤ k ∧ bodL ((s.take (s.length - 1)).drop k) out = bodL ((s.take (s.length - 1)).drop 1) []) s.length ⟨0, rfl, rfl, ExtT.refl T, 1, [], rfl, rfl, by omega, by omega, by simp, rfl⟩ (fun i s h => by obtain ⟨_, _, _, k, out, h⟩ := h; omega) ?_ (XL_mono _)
      rintro i ⟨t, B, T'⟩ ⟨r0, rfl, hX, k, out, r5, r4, h1, hk, ho, hS⟩
      simp only at r0 hX r5 r4
      have wk : IntKind.i64.wrap (((k : Nat) : Int) + 1) = ((k + 1 : Nat) : Int) := wrap_su k (by omega)
      have wk2 : IntKind.i64.wrap (((k + 1 : Nat) : Int) + 1) = ((k + 1 + 1 : Nat) : Int) := wrap_su (k + 1) (by omega)
      have tk : ∀ j : Nat, j < s.length - 1 → (s.take (s.length - 1))[j]? = s[j]? := fun j hj => by rw [List.getElem?_take, if_pos hj]
      by_cases hlt : k < s.length - 1
      · have d1 : decide (((k : Nat) : Int) < ((s.length - 1 : Nat) : Int)) = true := by simp only [decide_eq_true_eq]; omega
        have ex : s[k]? = some (s[k]'(by omega)) := List.getElem?_eq_getElem (by omega)
        obtain ⟨b, hb⟩ : ∃ b, (s[k]'(by omega)) = b := ⟨_, rfl⟩
        rw [hb] at ex
        have ix := fun q => ixs_at ex q
        rw [drop_at ((tk k hlt).trans ex), bodL_cons] at hS
        have e1 : ((b.toNat : Int) == 34) = (b == 34) := u8_eq b 34 (by decide)
        have e2 : ((b.toNat : Int) == 92) = (b == 92) := u8_eq b 92 (by decide)
        have pT : pText (b.toNat : Int) = (decide ((32 : Int) ≤ b.toNat) && decide ((b.toNat : Int) ≤ 126)) := rfl
        rcases tf (b == 34) with g2 | g2
        · rw [if_pos (by rw [g2]; rfl)] at hS
          rw [← hS]
          simp (config := { contextual := true, maxSteps := 10000000 }) only [r0, r5, r4, wl, d1, ix, e1, g2, leaves_E (Ext.refl B) hX, tupB2, go_sem, Nat.reduceAdd, Nat.reduceSub, Nat.reduceMul, Nat.reduceEqDiff, Nat.reduceLeDiff, Nat.reduceLT, Int.reduceToNat, Int.reduceLE, Int.reduceLT, Int.reduceEq, Int.reduceNe, Int.reduceBEq, Int.reduceBNe, Nat.reduceBEq, Nat.reduceBNe, ↓reduceIte, reduceCtorEq, ↓reduceDIte, W_draw]
        by_cases q1 : (b.toNat : Int) < 32
        · have g3 : decide ((b.toNat : Int) < 32) = true := by simpa using q1
          have g4 : pText (b.toNat : Int) = false := by rw [pT]; simp only [Bool.and_eq_false_iff, decide_eq_false_iff_not]; omega
          rw [if_pos (by rw [g2, g4]; rfl)] at hS
          rw [← hS]
          simp (config := { contextual := true, maxSteps := 10000000 }) only [r0, r5, r4, wl, d1, ix, e1, g2, g3, leaves_E (Ext.refl B) hX, tupB2, go_sem, Nat.reduceAdd, Nat.reduceSub, Nat.reduceMul, Nat.reduceEqDiff, Nat.reduceLeDiff, Nat.reduceLT, Int.reduceToNat, Int.reduceLE, Int.reduceLT, Int.reduceEq, Int.reduceNe, Int.reduceBEq, Int.reduceBNe, Nat.reduceBEq, Nat.reduceBNe, ↓reduceIte, reduceCtorEq, ↓reduceDIte, W_draw]
        have g3 : decide ((b.toNat : Int) < 32) = false := by simpa using q1
        by_cases q2 : (126 : Int) < b.toNat
        · have g5 : decide ((126 : Int) < b.toNat) = true := by simpa using q2
          have g4 : pText (b.toNat : Int) = false := by rw [pT]; simp only [Bool.and_eq_false_iff, decide_eq_false_iff_not]; omega
          rw [if_pos (by rw [g2, g4]; rfl)] at hS
          rw [← hS]
          simp (config := { contextual := true, maxSteps := 10000000 }) only [r0, r5, r4, wl, d1, ix, e1, g2, g3, g5, leaves_E (Ext.refl B) hX, tupB2, go_sem, Nat.reduceAdd, Nat.reduceSub, Nat.reduceMul, Nat.reduceEqDiff, Nat.reduceLeDiff, Nat.reduceLT, Int.reduceToNat, Int.reduceLE, Int.reduceLT, Int.reduceEq, Int.reduceNe, Int.reduceBEq, Int.reduceBNe, Nat.reduceBEq, Nat.reduceBNe, ↓reduceIte, reduceCtorEq, ↓reduceDIte, W_draw]
        have g5 : decide ((126 : Int) < b.toNat) = false := by simpa using q2
        have g4 : pText (b.toNat : Int) = true := by rw [pT]; simp only [Bool.and_eq_true, decide_eq_true_eq]; omega
        rw [if_neg (by rw [g2, g4]; decide)] at hS
        rcases tf (b == 92) with g6 | g6
        · rw [if_pos g6] at hS
          by_cases hl2 : k + 1 < s.length - 1
          · have d2 : (((k + 1 : Nat) : Int) == ((s.length - 1 : Nat) : Int)) = false := by rw [beq_eq_false_iff_ne]; omega
            have ex2 : s[k + 1]? = some (s[k + 1]'(by omega)) := List.getElem?_eq_getElem (by omega)
            obtain ⟨b2, hb2'⟩ : ∃ b2, (s[k + 1]'(by omega)) = b2 := ⟨_, rfl⟩
            rw [hb2'] at ex2
            have ix2 := fun q => ixs_at ex2 q
            rw [drop_at ((tk (k + 1) hl2).trans ex2)] at hS
            have e3 : ((b2.toNat : Int) != 34) = (b2 != 34) := by simp only [bne]; rw [show ((b2.toNat : Int) == 34) = (b2 == 34) from u8_eq b2 34 (by decide)]
            have e4 : ((b2.toNat : Int) != 92) = (b2 != 92) := by simp only [bne]; rw [show ((b2.toNat : Int) == 92) = (b2 == 92) from u8_eq b2 92 (by decide)]
            simp only at hS
            have hadd := sadd (a := out) (b := [b2]) (by simp; omega)
            rcases tf ((b2 != 34) && (b2 != 92)) with g7 | g7
            · rw [if_pos g7] at hS
              rw [← hS]
              simp only [Bool.and_eq_true] at g7
              simp (config := { contextual := true, maxSteps := 10000000 }) only [r0, r5, r4, wl, d1, ix, e1, e2, g2, g3, g5, g6, wk, d2, ix2, e3, e4, g7.1, g7.2, leaves_E (Ext.refl B) hX, tupB2, go_sem, Nat.reduceAdd, Nat.reduceSub, Nat.reduceMul, Nat.reduceEqDiff, Nat.reduceLeDiff, Nat.reduceLT, Int.reduceToNat, Int.reduceLE, Int.reduceLT, Int.reduceEq, Int.reduceNe, Int.reduceBEq, Int.reduceBNe, Nat.reduceBEq, Nat.reduceBNe, ↓reduceIte, reduceCtorEq, ↓reduceDIte, W_draw]
            · rw [if_neg (by rw [g7]; decide)] at hS
              rcases tf (b2 != 34) with g8 | g8
              · have g9 : (b2 != 92) = false := by rw [g8] at g7; simpa using g7
                simp (config := { contextual := true, maxSteps := 10000000 }) only [r0, r5, r4, wl, d1, ix, e1, e2, g2, g3, g5, g6, wk, d2, ix2, e3, e4, g8, g9, b2one, hadd, wk2, hX.ta, go_sem, Nat.reduceAdd, Nat.reduceSub, Nat.reduceMul, Nat.reduceEqDiff, Nat.reduceLeDiff, Nat.reduceLT, Int.reduceToNat, Int.reduceLE, Int.reduceLT, Int.reduceEq, Int.reduceNe, Int.reduceBEq, Int.reduceBNe, Nat.reduceBEq, Nat.reduceBNe, ↓reduceIte, reduceCtorEq, ↓reduceDIte, W_draw]
                exact ⟨k + 1 + 1, out ++ [b2], rfl, rfl, by omega, by omega, by simp; omega, hS⟩
              · simp (config := { contextual := true, maxSteps := 10000000 }) only [r0, r5, r4, wl, d1, ix, e1, e2, g2, g3, g5, g6, wk, d2, ix2, e3, e4, g8, b2one, hadd, wk2, hX.ta, go_sem, Nat.reduceAdd, Nat.reduceSub, Nat.reduceMul, Nat.reduceEqDiff, Nat.reduceLeDiff, Nat.reduceLT, Int.reduceToNat, Int.reduceLE, Int.reduceLT, Int.reduceEq, Int.reduceNe, Int.reduceBEq, Int.reduceBNe, Nat.reduceBEq, Nat.reduceBNe, ↓reduceIte, reduceCtorEq, ↓reduceDIte, W_draw]
                exact ⟨k + 1 + 1, out ++ [b2], rfl, rfl, by omega, by omega, by simp; omega, hS⟩
          · have d2 : (((k + 1 : Nat) : Int) == ((s.length - 1 : Nat) : Int)) = true := by rw [beq_iff_eq]; omega
            rw [List.drop_eq_nil_of_le (by simp; omega)] at hS
            rw [← hS]
            simp (config := { contextual := true, maxSteps := 10000000 }) only [r0, r5, r4, wl, d1, ix, e1, e2, g2, g3, g5, g6, wk, d2, leaves_E (Ext.refl B) hX, tupB2, go_sem, Nat.reduceAdd, Nat.reduceSub, Nat.reduceMul, Nat.reduceEqDiff, Nat.reduceLeDiff, Nat.reduceLT, Int.reduceToNat, Int.reduceLE, Int.reduceLT, Int.reduceEq, Int.reduceNe, Int.reduceBEq, Int.reduceBNe, Nat.reduceBEq, Nat.reduceBNe, ↓reduceIte, reduceCtorEq, ↓reduceDIte, W_draw]
        · rw [if_neg (by rw [g6]; decide)] at hS
          have hadd := sadd (a := out) (b := [b]) (by simp; omega)
          simp (config := { contextual := true, maxSteps := 10000000 }) only [r0, r5, r4, wl, d1, ix, e1, e2, g2, g3, g5, g6, b2one, hadd, wk, hX.ta, go_sem, Nat.reduceAdd, Nat.reduceSub, Nat.reduceMul, Nat.reduceEqDiff, Nat.reduceLeDiff, Nat.reduceLT, Int.reduceToNat, Int.reduceLE, Int.reduceLT, Int.reduceEq, Int.reduceNe, Int.reduceBEq, Int.reduceBNe, Nat.reduceBEq, Nat.reduceBNe, ↓reduceIte, reduceCtorEq, ↓reduceDIte, W_draw]
          exact ⟨k + 1, out ++ [b], rfl, rfl, by omega, by omega, by simp; omega, hS⟩
      · have d1 : decide (((k : Nat) : Int) < ((s.length - 1 : Nat) : Int)) = false := by simp only [decide_eq_false_iff_not]; omega
        rw [List.drop_eq_nil_of_le (by simp; omega), bodL_nil] at hS
        rw [← hS]
        simp (config := { contextual := true, maxSteps := 10000000 }) only [r0, r5, r4, wl, d1, leaves_E (Ext.refl B) hX, tupB2, go_sem, Nat.reduceAdd, Nat.reduceSub, Nat.reduceMul, Nat.reduceEqDiff, Nat.reduceLeDiff, Nat.reduceLT, Int.reduceToNat, Int.reduceLE, Int.reduceLT, Int.reduceEq, Int.reduceNe, Int.reduceBEq, Int.reduceBNe, Nat.reduceBEq, Nat.reduceBNe, ↓reduceIte, reduceCtorEq, ↓reduceDIte, W_draw]
    · cases h
  · cases h

/-! ### A token by its text -/
def oneR (s : List UInt8) : D × Bool :=
  if s == [] then (mkT 0 [] 0, false) else
  if wordB s then (mkT 1 s 0, true) else
  if (valR s 9223372036854775807).2 then (mkT 2 [] (valR s 9223372036854775807).1, true) else
  if s[0]? == some 64 then (mkT 4 [] (valR (s.drop 1) 1099511627776).1, (valR (s.drop 1) 1099511627776).2) else
  if s[0]? == some 34 then (mkT 3 (bodyR s).1 0, (bodyR s).2) else (mkT 5 s 0, isSign s)
def tupO (p : D × Bool) : D := .tup [p.1, .bool p.2]
theorem oneR_T (s : List UInt8) : isTok (oneR s).1 := by
  unfold oneR
  repeat' split
  all_goals exact ⟨_, _, _, rfl⟩
theorem tupO_cl {p : D × Bool} (h : isTok p.1) : (tupO p).cl 0 0 = true := by
  obtain ⟨k, s, n, e⟩ := h
  simp [tupO, e, mkT, D.cl, D.clL]
def φone : List D → Option D
  | [.str s] => if s.length ≤ 2 ^ 60 then some (tupO (oneR s)) else none
  | _ => none
set_option maxHeartbeats 8000000 in
theorem ok24 : OkAt Tryd.prog 24 φone := by
  refine ok_of (l := [(18, φword), (43, φval), (44, φbody), (19, φsign)]) (.cons ok18 (.cons ok43 (.cons ok44 (.cons ok19 .nil)))) fn24 fun args r h => ?_
  unfold φone at h
  split at h
  · rename_i s
    split at h
    · rename_i hl
      injection h with h; subst h
      refine ⟨by simp, tupO_cl (oneR_T s), fun H T => ?_⟩
      have p1 : φword [.str s] = some (.bool (wordB s)) := by simp only [φword]; rw [if_pos hl]
      have p2 : φval [.str s, .int .i64 9223372036854775807] = some (tupR (valR s 9223372036854775807)) := by simp only [φval]; rw [if_pos ⟨hl, by decide, by decide⟩]
      have p3 : φval [.str (s.drop 1), .int .i64 1099511627776] = some (tupR (valR (s.drop 1) 1099511627776)) := by simp only [φval]; rw [if_pos ⟨by simp; omega, by decide, by decide⟩]
      have p4 : φbody [.str s] = some (tupB2 (bodyR s)) := by simp only [φbody]; rw [if_pos hl]
      have p5 : φsign [.str s] = some (.bool (isSign s)) := rfl
      unfold oneR
      rcases tf (s == []) with g0 | g0
      · rw [if_pos g0]
        simp (config := { contextual := true, maxSteps := 10000000 }) only [c24, g0, tupO, mkT, go_sem, Nat.reduceAdd, Nat.reduceSub, Nat.reduceMul, Nat.reduceEqDiff, Nat.reduceLeDiff, Nat.reduceLT, Int.reduceToNat, Int.reduceLE, Int.reduceLT, Int.reduceEq, Int.reduceNe, Int.reduceBEq, Int.reduceBNe, Nat.reduceBEq, Nat.reduceBNe, ↓reduceIte, reduceCtorEq, ↓reduceDIte, W_draw]
      rw [if_neg (by rw [g0]; decide)]
      rcases tf (wordB s) with g1 | g1
      · rw [if_pos g1]
        simp (config := { contextual := true, maxSteps := 10000000 }) only [c24, g0, p1, g1, tupO, mkT, go_sem, Nat.reduceAdd, Nat.reduceSub, Nat.reduceMul, Nat.reduceEqDiff, Nat.reduceLeDiff, Nat.reduceLT, Int.reduceToNat, Int.reduceLE, Int.reduceLT, Int.reduceEq, Int.reduceNe, Int.reduceBEq, Int.reduceBNe, Nat.reduceBEq, Nat.reduceBNe, ↓reduceIte, reduceCtorEq, ↓reduceDIte, W_draw]
      rw [if_neg (by rw [g1]; decide)]
      obtain ⟨⟨v, vb⟩, hq⟩ : ∃ z, valR s 9223372036854775807 = z := ⟨_, rfl⟩
      simp only [hq, tupR] at p2 ⊢
      cases vb with
      | true =>
        rw [if_pos rfl]
        simp (config := { contextual := true, maxSteps := 10000000 }) only [c24, g0, p1, g1, p2, tupO, mkT, go_sem, Nat.reduceAdd, Nat.reduceSub, Nat.reduceMul, Nat.reduceEqDiff, Nat.reduceLeDiff, Nat.reduceLT, Int.reduceToNat, Int.reduceLE, Int.reduceLT, Int.reduceEq, Int.reduceNe, Int.reduceBEq, Int.reduceBNe, Nat.reduceBEq, Nat.reduceBNe, ↓reduceIte, reduceCtorEq, ↓reduceDIte, W_draw]
      | false =>
      rw [if_neg (by decide)]
      have hne : s ≠ [] := by simpa using g0
      have hpos : 0 < s.length := List.length_pos_iff.2 hne
      have ex0 : s[0]? = some s[0] := by simp
      obtain ⟨b0, hb0⟩ : ∃ b, s[0] = b := ⟨_, rfl⟩
      rw [hb0] at ex0
      have ix0 : ∀ q, ixs (.str s) (.int q 0) = some (.int .u8 b0.toNat) := fun q => ixs_at ex0 q
      have e1 : ((b0.toNat : Int) == 64) = (b0 == 64) := u8_eq b0 64 (by decide)
      have e2 : ((b0.toNat : Int) == 34) = (b0 == 34) := u8_eq b0 34 (by decide)
      rw [ex0]
      have f1 : (some b0 == some (64 : UInt8)) = (b0 == 64) := rfl
      have f2 : (some b0 == some (34 : UInt8)) = (b0 == 34) := rfl
      rw [f1, f2]
      rcases tf (b0 == 64) with g2 | g2
      · rw [if_pos g2]
        have hs : sub (some 1) (some (s.length : Int)) (.str s) = some (.str (s.drop 1)) := by
          rw [sub_s, if_pos ⟨by omega, by omega, by omega⟩]; simp [subList]
        obtain ⟨⟨w, wb⟩, hq2⟩ : ∃ z, valR (s.drop 1) 1099511627776 = z := ⟨_, rfl⟩
        simp only [hq2, tupR] at p3 ⊢
        simp (config := { contextual := true, maxSteps := 10000000 }) only [c24, g0, p1, g1, p2, ix0, e1, g2, hs, p3, tupO, mkT, go_sem, Nat.reduceAdd, Nat.reduceSub, Nat.reduceMul, Nat.reduceEqDiff, Nat.reduceLeDiff, Nat.reduceLT, Int.reduceToNat, Int.reduceLE, Int.reduceLT, Int.reduceEq, Int.reduceNe, Int.reduceBEq, Int.reduceBNe, Nat.reduceBEq, Nat.reduceBNe, ↓reduceIte, reduceCtorEq, ↓reduceDIte, W_draw]
      rw [if_neg (by rw [g2]; decide)]
      rcases tf (b0 == 34) with g3 | g3
      · rw [if_pos g3]
        obtain ⟨⟨w, wb⟩, hq2⟩ : ∃ z, bodyR s = z := ⟨_, rfl⟩
        simp only [hq2, tupB2] at p4 ⊢
        simp (config := { contextual := true, maxSteps := 10000000 }) only [c24, g0, p1, g1, p2, ix0, e1, g2, e2, g3, p4, tupO, mkT, go_sem, Nat.reduceAdd, Nat.reduceSub, Nat.reduceMul, Nat.reduceEqDiff, Nat.reduceLeDiff, Nat.reduceLT, Int.reduceToNat, Int.reduceLE, Int.reduceLT, Int.reduceEq, Int.reduceNe, Int.reduceBEq, Int.reduceBNe, Nat.reduceBEq, Nat.reduceBNe, ↓reduceIte, reduceCtorEq, ↓reduceDIte, W_draw]
      rw [if_neg (by rw [g3]; decide)]
      simp (config := { contextual := true, maxSteps := 10000000 }) only [c24, g0, p1, g1, p2, ix0, e1, g2, e2, g3, p5, tupO, mkT, go_sem, Nat.reduceAdd, Nat.reduceSub, Nat.reduceMul, Nat.reduceEqDiff, Nat.reduceLeDiff, Nat.reduceLT, Int.reduceToNat, Int.reduceLE, Int.reduceLT, Int.reduceEq, Int.reduceNe, Int.reduceBEq, Int.reduceBNe, Nat.reduceBEq, Nat.reduceBNe, ↓reduceIte, reduceCtorEq, ↓reduceDIte, W_draw]
    · cases h
  · cases h
end GP
set_option linter.unusedSimpArgs false
/- The reference's lengths of tokens. -/
namespace GP
open Go Go.Proofs
set_option maxRecDepth 100000

/-- The place behind a text's closing quote. -/
def qL : List UInt8 → Nat → Nat
  | [], k => k + 1
  | c :: r, k => if c == 34 then k + 1 else if c == 92 then (match r with
    | [] => k + 3
    | _ :: r => qL r (k + 2)) else qL r (k + 1)
theorem qL_nil (k : Nat) : qL [] k = k + 1 := by unfold qL; rfl
theorem qL_cons (c : UInt8) (r : List UInt8) (k : Nat) : qL (c :: r) k = if c == 34 then k + 1 else if c == 92 then (match r with
    | [] => k + 3
    | _ :: r => qL r (k + 2)) else qL r (k + 1) := by
  conv => lhs; unfold qL
def endSmall (s : List UInt8) (n : Nat) : Bool := match s[n]? with
  | some b => pSmall b.toNat
  | none => false
def lenR (s : List UInt8) : Nat := match s with
  | [] => 0
  | c :: r =>
    if pLet c.toNat then 1 + runL pWord r else
    if pDigit c.toNat || c == 64 then (if endSmall (c :: r) (1 + runL pDigit r) then 0 else 1 + runL pDigit r) else
    if c == 34 then (if decide ((c :: r).length < qL r 1) then 0 else qL r 1) else
    if decide (1 < (c :: r).length) && isSign ((c :: r).take 2) then 2 else 1
def φlen : List D → Option D
  | [.str s] => if 0 < s.length ∧ s.length ≤ 2 ^ 60 then some (.int .i64 (lenR s : Nat)) else none
  | _ => none
theorem runL_cons {p : Int → Bool} (c : UInt8) (r : List UInt8) (h : p c.toNat = true) : runL p (c :: r) = 1 + runL p r := by
  unfold runL; simp only [List.takeWhile_cons, h, if_true, List.length_cons]; omega
theorem run_step {p : Int → Bool} {s : List UInt8} {k : Nat} {b : UInt8} (h : s[k]? = some b) : runL p (s.drop k) = if p b.toNat then 1 + runL p (s.drop (k + 1)) else 0 := by
  rw [drop_at h]
  unfold runL
  simp only [List.takeWhile_cons]
  split
  · simp; omega
  · rfl
theorem run_end {p : Int → Bool} {s : List UInt8} {k : Nat} (h : s.length ≤ k) : runL p (s.drop k) = 0 := by rw [List.drop_eq_nil_of_le h]; rfl
set_option maxHeartbeats 16000000 in
theorem ok23 : OkAt Tryd.prog 23 φlen := by
  refine ok_of (l := [(35, φb pLet), (36, φb pDigit), (19, φsign)]) (.cons ok35 (.cons ok36 (.cons ok19 .nil))) fn23 fun args r h => ?_
  unfold φlen at h
  split at h
  · rename_i s
    split at h
    · rename_i hv
      obtain ⟨h0, hl⟩ := hv
      injection h with h; subst h
      refine ⟨by simp, by simp [D.cl], fun H T => ?_⟩
      cases s with
      | nil => simp at h0
      | cons c r =>
      have ex0 : (c :: r)[0]? = some c := rfl
      have ix0 : ∀ q, ixs (.str (c :: r)) (.int q 0) = some (.int .u8 c.toNat) := fun q => ixs_at ex0 q
      have qs : φsign [.str ((c :: r).take 2)] = some (.bool (isSign ((c :: r).take 2))) := rfl
      have hs2 : 2 ≤ (c :: r).length → sub (some 0) (some 2) (.str (c :: r)) = some (.str ((c :: r).take 2)) := fun h => by
        rw [sub_s, if_pos ⟨by omega, by omega, by omega⟩]; simp [subList]
      have E : lenR (c :: r) = if pLet c.toNat then 1 + runL pWord ((c :: r).drop 1) else
        if pDigit c.toNat || c == 64 then (if endSmall (c :: r) (1 + runL pDigit ((c :: r).drop 1)) then 0 else 1 + runL pDigit ((c :: r).drop 1)) else
        if c == 34 then (if decide ((c :: r).length < qL ((c :: r).drop 1) 1) then 0 else qL ((c :: r).drop 1) 1) else
        if decide (1 < (c :: r).length) && isSign ((c :: r).take 2) then 2 else 1 := rfl
      have hlr : (c :: r).length = r.length + 1 := rfl
      rw [E]
      clear E
      obtain ⟨s, hs⟩ : ∃ s, (c :: r) = s := ⟨_, rfl⟩
      rw [hs] at h0 hl ix0 ex0 qs hs2 hlr ⊢
      have q1 : ∀ b : UInt8, φb pLet [.int .u8 (b.toNat : Int)] = some (.bool (pLet b.toNat)) := fun _ => rfl
      have q2 : ∀ b : UInt8, φb pDigit [.int .u8 (b.toNat : Int)] = some (.bool (pDigit b.toNat)) := fun _ => rfl
      have e64 : ((c.toNat : Int) == 64) = (c == 64) := u8_eq c 64 (by decide)
      have e34 : ((c.toNat : Int) == 34) = (c == 34) := u8_eq c 34 (by decide)
      rcases tf (pLet (c.toNat : Int)) with g1 | g1
      · rw [if_pos g1]
        simp (config := { contextual := true, maxSteps := 10000000 }) only [c23, ix0, q1, g1, go_sem, Nat.reduceAdd, Nat.reduceSub, Nat.reduceMul, Nat.reduceEqDiff, Nat.reduceLeDiff, Nat.reduceLT, Int.reduceToNat, Int.reduceLE, Int.reduceLT, Int.reduceEq, Int.reduceNe, Int.reduceBEq, Int.reduceBNe, Nat.reduceBEq, Nat.reduceBNe, ↓reduceIte, reduceCtorEq, ↓reduceDIte, W_draw]
        refine W_for (fun i s' => s'.t 0 = .str s ∧ s'.H = H ∧ s'.T = T ∧ ∃ k : Nat, s'.t 3 = .int .i64 (k : Nat) ∧ i + 1 ≤ k ∧ k ≤ s.length ∧ k + runL pWord (s.drop k) = 1 + runL pWord (s.drop 1)) s.length ⟨0, rfl, rfl, rfl, 1, rfl, by omega, by omega, rfl⟩ (fun i s h => by obtain ⟨_, _, _, k, h⟩ := h; omega) ?_ (XL_mono _)
        rintro i ⟨t, B, T'⟩ ⟨r0, rfl, rfl, k, r3, h1, h2, h3⟩
        simp only at r0 r3
        rw [← h3]
        by_cases hlt : k < s.length
        · have d1 : decide (((k : Nat) : Int) < s.length) = true := by simp only [decide_eq_true_eq]; omega
          have ex : s[k]? = some s[k] := by simp [hlt]
          obtain ⟨b, hb⟩ : ∃ b, s[k] = b := ⟨_, rfl⟩
          rw [hb] at ex
          have ix := fun q => ixs_at ex q
          have e95 : ((b.toNat : Int) == 95) = (b == 95) := u8_eq b 95 (by decide)
          have rs := run_step (p := pWord) ex
          have nx : pWord (b.toNat : Int) = true → (k + 1) + runL pWord (s.drop (k + 1)) = k + runL pWord (s.drop k) := fun h => by rw [rs, h, if_pos rfl]; omega
          rcases tf (pLet (b.toNat : Int)) with g2 | g2
          · have nx := nx (by rw [pWord_let, g2]; rfl)
            simp (config := { contextual := true, maxSteps := 10000000 }) only [r0, r3, d1, ix, q1, g2, wrap_su k (by omega), go_sem, Nat.reduceAdd, Nat.reduceSub, Nat.reduceMul, Nat.reduceEqDiff, Nat.reduceLeDiff, Nat.reduceLT, Int.reduceToNat, Int.reduceLE, Int.reduceLT, Int.reduceEq, Int.reduceNe, Int.reduceBEq, Int.reduceBNe, Nat.reduceBEq, Nat.reduceBNe, ↓reduceIte, reduceCtorEq, ↓reduceDIte, W_draw]
            exact ⟨k + 1, rfl, by omega, by omega, nx⟩
          rcases tf (pDigit (b.toNat : Int)) with g3 | g3
          · have nx := nx (by rw [pWord_let, g3]; simp)
            simp (config := { contextual := true, maxSteps := 10000000 }) only [r0, r3, d1, ix, q1, q2, g2, g3, wrap_su k (by omega), go_sem, Nat.reduceAdd, Nat.reduceSub, Nat.reduceMul, Nat.reduceEqDiff, Nat.reduceLeDiff, Nat.reduceLT, Int.reduceToNat, Int.reduceLE, Int.reduceLT, Int.reduceEq, Int.reduceNe, Int.reduceBEq, Int.reduceBNe, Nat.reduceBEq, Nat.reduceBNe, ↓reduceIte, reduceCtorEq, ↓reduceDIte, W_draw]
            exact ⟨k + 1, rfl, by omega, by omega, nx⟩
          rcases tf (b == 95) with g4 | g4
          · have nx := nx (by rw [pWord_let, e95, g4]; simp)
            simp (config := { contextual := true, maxSteps := 10000000 }) only [r0, r3, d1, ix, q1, q2, g2, g3, e95, g4, wrap_su k (by omega), go_sem, Nat.reduceAdd, Nat.reduceSub, Nat.reduceMul, Nat.reduceEqDiff, Nat.reduceLeDiff, Nat.reduceLT, Int.reduceToNat, Int.reduceLE, Int.reduceLT, Int.reduceEq, Int.reduceNe, Int.reduceBEq, Int.reduceBNe, Nat.reduceBEq, Nat.reduceBNe, ↓reduceIte, reduceCtorEq, ↓reduceDIte, W_draw]
            exact ⟨k + 1, rfl, by omega, by omega, nx⟩
          · have hw : pWord (b.toNat : Int) = false := by rw [pWord_let, e95, g2, g3, g4]; rfl
            rw [rs, hw, if_neg (by decide)]
            have d3 : decide ((s.length : Int) < (k : Nat)) = false := by simp only [decide_eq_false_iff_not]; omega
            simp (config := { contextual := true, maxSteps := 10000000 }) only [r0, r3, d1, ix, q1, q2, g2, g3, e95, g4, d3, go_sem, Nat.reduceAdd, Nat.reduceSub, Nat.reduceMul, Nat.reduceEqDiff, Nat.reduceLeDiff, Nat.reduceLT, Int.reduceToNat, Int.reduceLE, Int.reduceLT, Int.reduceEq, Int.reduceNe, Int.reduceBEq, Int.reduceBNe, Nat.reduceBEq, Nat.reduceBNe, ↓reduceIte, reduceCtorEq, ↓reduceDIte, W_draw]
        · have d1 : decide (((k : Nat) : Int) < s.length) = false := by simp only [decide_eq_false_iff_not]; omega
          have d3 : decide ((s.length : Int) < (k : Nat)) = false := by simp only [decide_eq_false_iff_not]; omega
          rw [run_end (by omega)]
          simp (config := { contextual := true, maxSteps := 10000000 }) only [r0, r3, d1, d3, go_sem, Nat.reduceAdd, Nat.reduceSub, Nat.reduceMul, Nat.reduceEqDiff, Nat.reduceLeDiff, Nat.reduceLT, Int.reduceToNat, Int.reduceLE, Int.reduceLT, Int.reduceEq, Int.reduceNe, Int.reduceBEq, Int.reduceBNe, Nat.reduceBEq, Nat.reduceBNe, ↓reduceIte, reduceCtorEq, ↓reduceDIte, W_draw]
      rw [if_neg (by rw [g1]; decide)]
      rcases tf (pDigit (c.toNat : Int) || c == 64) with g2 | g2
      · rw [if_pos g2]
        have G : pDigit (c.toNat : Int) = true ∨ (pDigit (c.toNat : Int) = false ∧ (c == 64) = true) := by
          rcases tf (pDigit (c.toNat : Int)) with h | h
          · exact .inl h
          · rw [h] at g2; exact .inr ⟨h, by simpa using g2⟩
        rcases G with gd | ⟨gd, g64⟩
        · simp (config := { contextual := true, maxSteps := 10000000 }) only [c23, ix0, q1, q2, g1, gd, go_sem, Nat.reduceAdd, Nat.reduceSub, Nat.reduceMul, Nat.reduceEqDiff, Nat.reduceLeDiff, Nat.reduceLT, Int.reduceToNat, Int.reduceLE, Int.reduceLT, Int.reduceEq, Int.reduceNe, Int.reduceBEq, Int.reduceBNe, Nat.reduceBEq, Nat.reduceBNe, ↓reduceIte, reduceCtorEq, ↓reduceDIte, W_draw]
          refine W_for (fun i s' => s'.t 0 = .str s ∧ s'.H = H ∧ s'.T = T ∧ ∃ k : Nat, s'.t 3 = .int .i64 (k : Nat) ∧ i + 1 ≤ k ∧ k ≤ s.length ∧ k + runL pDigit (s.drop k) = 1 + runL pDigit (s.drop 1)) s.length ⟨0, rfl, rfl, rfl, 1, rfl, by omega, by omega, rfl⟩ (fun i s h => by obtain ⟨_, _, _, k, h⟩ := h; omega) ?_ (XL_mono _)
          rintro i ⟨t, B, T'⟩ ⟨r0, rfl, rfl, k, r3, h1, h2, h3⟩
          simp only at r0 r3
          rw [← h3]
          by_cases hlt : k < s.length
          · have d1 : decide (((k : Nat) : Int) < s.length) = true := by simp only [decide_eq_true_eq]; omega
            have ex : s[k]? = some s[k] := by simp [hlt]
            obtain ⟨b, hb⟩ : ∃ b, s[k] = b := ⟨_, rfl⟩
            rw [hb] at ex
            have ix := fun q => ixs_at ex q
            have e95 : ((b.toNat : Int) == 95) = (b == 95) := u8_eq b 95 (by decide)
            have rs := run_step (p := pDigit) ex
            rcases tf (pDigit (b.toNat : Int)) with g3 | g3
            · have nx : (k + 1) + runL pDigit (s.drop (k + 1)) = k + runL pDigit (s.drop k) := by rw [rs, g3, if_pos rfl]; omega
              simp (config := { contextual := true, maxSteps := 10000000 }) only [r0, r3, d1, ix, q2, g3, wrap_su k (by omega), go_sem, Nat.reduceAdd, Nat.reduceSub, Nat.reduceMul, Nat.reduceEqDiff, Nat.reduceLeDiff, Nat.reduceLT, Int.reduceToNat, Int.reduceLE, Int.reduceLT, Int.reduceEq, Int.reduceNe, Int.reduceBEq, Int.reduceBNe, Nat.reduceBEq, Nat.reduceBNe, ↓reduceIte, reduceCtorEq, ↓reduceDIte, W_draw]
              exact ⟨k + 1, rfl, by omega, by omega, nx⟩
            · rw [rs, g3, if_neg (by decide), show k + 0 = k from rfl]
              have hE : endSmall s k = (pLet b.toNat || b == 95) := by unfold endSmall; rw [ex]; simp only [pSmall_let, e95]
              have d3 : decide ((s.length : Int) < (k : Nat)) = false := by simp only [decide_eq_false_iff_not]; omega
              rw [hE]
              rcases tf (pLet (b.toNat : Int)) with g4 | g4
              · rw [g4]; simp (config := { contextual := true, maxSteps := 10000000 }) only [r0, r3, d1, ix, q1, q2, g3, g4, go_sem, Nat.reduceAdd, Nat.reduceSub, Nat.reduceMul, Nat.reduceEqDiff, Nat.reduceLeDiff, Nat.reduceLT, Int.reduceToNat, Int.reduceLE, Int.reduceLT, Int.reduceEq, Int.reduceNe, Int.reduceBEq, Int.reduceBNe, Nat.reduceBEq, Nat.reduceBNe, ↓reduceIte, reduceCtorEq, ↓reduceDIte, W_draw]
              · rcases tf (b == 95) with g5 | g5
                · rw [g4, g5]; simp (config := { contextual := true, maxSteps := 10000000 }) only [r0, r3, d1, ix, q1, q2, g3, g4, e95, g5, go_sem, Nat.reduceAdd, Nat.reduceSub, Nat.reduceMul, Nat.reduceEqDiff, Nat.reduceLeDiff, Nat.reduceLT, Int.reduceToNat, Int.reduceLE, Int.reduceLT, Int.reduceEq, Int.reduceNe, Int.reduceBEq, Int.reduceBNe, Nat.reduceBEq, Nat.reduceBNe, ↓reduceIte, reduceCtorEq, ↓reduceDIte, W_draw]
                · rw [g4, g5]; simp (config := { contextual := true, maxSteps := 10000000 }) only [r0, r3, d1, ix, q1, q2, g3, g4, e95, g5, d3, go_sem, Nat.reduceAdd, Nat.reduceSub, Nat.reduceMul, Nat.reduceEqDiff, Nat.reduceLeDiff, Nat.reduceLT, Int.reduceToNat, Int.reduceLE, Int.reduceLT, Int.reduceEq, Int.reduceNe, Int.reduceBEq, Int.reduceBNe, Nat.reduceBEq, Nat.reduceBNe, ↓reduceIte, reduceCtorEq, ↓reduceDIte, W_draw]
          · have d1 : decide (((k : Nat) : Int) < s.length) = false := by simp only [decide_eq_false_iff_not]; omega
            have d3 : decide ((s.length : Int) < (k : Nat)) = false := by simp only [decide_eq_false_iff_not]; omega
            have hE : endSmall s k = false := by unfold endSmall; rw [List.getElem?_eq_none (by omega)]
            rw [run_end (by omega), show k + 0 = k from rfl, hE]
            simp (config := { contextual := true, maxSteps := 10000000 }) only [r0, r3, d1, d3, go_sem, Nat.reduceAdd, Nat.reduceSub, Nat.reduceMul, Nat.reduceEqDiff, Nat.reduceLeDiff, Nat.reduceLT, Int.reduceToNat, Int.reduceLE, Int.reduceLT, Int.reduceEq, Int.reduceNe, Int.reduceBEq, Int.reduceBNe, Nat.reduceBEq, Nat.reduceBNe, ↓reduceIte, reduceCtorEq, ↓reduceDIte, W_draw]
        · simp (config := { contextual := true, maxSteps := 10000000 }) only [c23, ix0, q1, q2, g1, gd, e64, g64, go_sem, Nat.reduceAdd, Nat.reduceSub, Nat.reduceMul, Nat.reduceEqDiff, Nat.reduceLeDiff, Nat.reduceLT, Int.reduceToNat, Int.reduceLE, Int.reduceLT, Int.reduceEq, Int.reduceNe, Int.reduceBEq, Int.reduceBNe, Nat.reduceBEq, Nat.reduceBNe, ↓reduceIte, reduceCtorEq, ↓reduceDIte, W_draw]
          refine W_for (fun i s' => s'.t 0 = .str s ∧ s'.H = H ∧ s'.T = T ∧ ∃ k : Nat, s'.t 3 = .int .i64 (k : Nat) ∧ i + 1 ≤ k ∧ k ≤ s.length ∧ k + runL pDigit (s.drop k) = 1 + runL pDigit (s.drop 1)) s.length ⟨0, rfl, rfl, rfl, 1, rfl, by omega, by omega, rfl⟩ (fun i s h => by obtain ⟨_, _, _, k, h⟩ := h; omega) ?_ (XL_mono _)
          rintro i ⟨t, B, T'⟩ ⟨r0, rfl, rfl, k, r3, h1, h2, h3⟩
          simp only at r0 r3
          rw [← h3]
          by_cases hlt : k < s.length
          · have d1 : decide (((k : Nat) : Int) < s.length) = true := by simp only [decide_eq_true_eq]; omega
            have ex : s[k]? = some s[k] := by simp [hlt]
            obtain ⟨b, hb⟩ : ∃ b, s[k] = b := ⟨_, rfl⟩
            rw [hb] at ex
            have ix := fun q => ixs_at ex q
            have e95 : ((b.toNat : Int) == 95) = (b == 95) := u8_eq b 95 (by decide)
            have rs := run_step (p := pDigit) ex
            rcases tf (pDigit (b.toNat : Int)) with g3 | g3
            · have nx : (k + 1) + runL pDigit (s.drop (k + 1)) = k + runL pDigit (s.drop k) := by rw [rs, g3, if_pos rfl]; omega
              simp (config := { contextual := true, maxSteps := 10000000 }) only [r0, r3, d1, ix, q2, g3, wrap_su k (by omega), go_sem, Nat.reduceAdd, Nat.reduceSub, Nat.reduceMul, Nat.reduceEqDiff, Nat.reduceLeDiff, Nat.reduceLT, Int.reduceToNat, Int.reduceLE, Int.reduceLT, Int.reduceEq, Int.reduceNe, Int.reduceBEq, Int.reduceBNe, Nat.reduceBEq, Nat.reduceBNe, ↓reduceIte, reduceCtorEq, ↓reduceDIte, W_draw]
              exact ⟨k + 1, rfl, by omega, by omega, nx⟩
            · rw [rs, g3, if_neg (by decide), show k + 0 = k from rfl]
              have hE : endSmall s k = (pLet b.toNat || b == 95) := by unfold endSmall; rw [ex]; simp only [pSmall_let, e95]
              have d3 : decide ((s.length : Int) < (k : Nat)) = false := by simp only [decide_eq_false_iff_not]; omega
              rw [hE]
              rcases tf (pLet (b.toNat : Int)) with g4 | g4
              · rw [g4]; simp (config := { contextual := true, maxSteps := 10000000 }) only [r0, r3, d1, ix, q1, q2, g3, g4, go_sem, Nat.reduceAdd, Nat.reduceSub, Nat.reduceMul, Nat.reduceEqDiff, Nat.reduceLeDiff, Nat.reduceLT, Int.reduceToNat, Int.reduceLE, Int.reduceLT, Int.reduceEq, Int.reduceNe, Int.reduceBEq, Int.reduceBNe, Nat.reduceBEq, Nat.reduceBNe, ↓reduceIte, reduceCtorEq, ↓reduceDIte, W_draw]
              · rcases tf (b == 95) with g5 | g5
                · rw [g4, g5]; simp (config := { contextual := true, maxSteps := 10000000 }) only [r0, r3, d1, ix, q1, q2, g3, g4, e95, g5, go_sem, Nat.reduceAdd, Nat.reduceSub, Nat.reduceMul, Nat.reduceEqDiff, Nat.reduceLeDiff, Nat.reduceLT, Int.reduceToNat, Int.reduceLE, Int.reduceLT, Int.reduceEq, Int.reduceNe, Int.reduceBEq, Int.reduceBNe, Nat.reduceBEq, Nat.reduceBNe, ↓reduceIte, reduceCtorEq, ↓reduceDIte, W_draw]
                · rw [g4, g5]; simp (config := { contextual := true, maxSteps := 10000000 }) only [r0, r3, d1, ix, q1, q2, g3, g4, e95, g5, d3, go_sem, Nat.reduceAdd, Nat.reduceSub, Nat.reduceMul, Nat.reduceEqDiff, Nat.reduceLeDiff, Nat.reduceLT, Int.reduceToNat, Int.reduceLE, Int.reduceLT, Int.reduceEq, Int.reduceNe, Int.reduceBEq, Int.reduceBNe, Nat.reduceBEq, Nat.reduceBNe, ↓reduceIte, reduceCtorEq, ↓reduceDIte, W_draw]
          · have d1 : decide (((k : Nat) : Int) < s.length) = false := by simp only [decide_eq_false_iff_not]; omega
            have d3 : decide ((s.length : Int) < (k : Nat)) = false := by simp only [decide_eq_false_iff_not]; omega
            have hE : endSmall s k = false := by unfold endSmall; rw [List.getElem?_eq_none (by omega)]
            rw [run_end (by omega), show k + 0 = k from rfl, hE]
            simp (config := { contextual := true, maxSteps := 10000000 }) only [r0, r3, d1, d3, go_sem, Nat.reduceAdd, Nat.reduceSub, Nat.reduceMul, Nat.reduceEqDiff, Nat.reduceLeDiff, Nat.reduceLT, Int.reduceToNat, Int.reduceLE, Int.reduceLT, Int.reduceEq, Int.reduceNe, Int.reduceBEq, Int.reduceBNe, Nat.reduceBEq, Nat.reduceBNe, ↓reduceIte, reduceCtorEq, ↓reduceDIte, W_draw]
      rw [if_neg (by rw [g2]; decide)]
      have gd : pDigit (c.toNat : Int) = false ∧ (c == 64) = false := by simpa using g2
      rcases tf (c == 34) with g3 | g3
      · rw [if_pos g3]
        simp (config := { contextual := true, maxSteps := 10000000 }) only [c23, ix0, q1, q2, g1, gd.1, e64, gd.2, e34, g3, go_sem, Nat.reduceAdd, Nat.reduceSub, Nat.reduceMul, Nat.reduceEqDiff, Nat.reduceLeDiff, Nat.reduceLT, Int.reduceToNat, Int.reduceLE, Int.reduceLT, Int.reduceEq, Int.reduceNe, Int.reduceBEq, Int.reduceBNe, Nat.reduceBEq, Nat.reduceBNe, ↓reduceIte, reduceCtorEq, ↓reduceDIte, W_draw]
        refine W_for (fun i s' => s'.t 0 = .str s ∧ s'.H = H ∧ s'.T = T ∧ ∃ k : Nat, s'.t 3 = .int .i64 (k : Nat) ∧ i + 1 ≤ k ∧ k ≤ s.length + 1 ∧ (k ≤ s.length → qL (s.drop k) k = qL (s.drop 1) 1) ∧ (s.length < k → qL (s.drop 1) 1 = k + 1)) (s.length + 1) ⟨0, rfl, rfl, rfl, 1, rfl, by omega, by omega, fun _ => rfl, fun h => by omega⟩ (fun i s h => by obtain ⟨_, _, _, k, h⟩ := h; omega) ?_ (XL_mono _)
        rintro i ⟨t, B, T'⟩ ⟨r0, rfl, rfl, k, r3, h1, h2, h3, h4⟩
        simp only at r0 r3
        have wk : IntKind.i64.wrap (((k : Nat) : Int) + 1) = ((k + 1 : Nat) : Int) := wrap_su k (by omega)
        have wk2 : IntKind.i64.wrap (((k + 1 : Nat) : Int) + 1) = ((k + 1 + 1 : Nat) : Int) := wrap_su (k + 1) (by omega)
        have fin : qL (s.drop 1) 1 = k + 1 → (decide ((s.length : Int) < ((k + 1 : Nat) : Int)) = true ∧ (if decide (s.length < qL (s.drop 1) 1) then 0 else qL (s.drop 1) 1) = 0) ∨ (decide ((s.length : Int) < ((k + 1 : Nat) : Int)) = false ∧ (if decide (s.length < qL (s.drop 1) 1) then 0 else qL (s.drop 1) 1) = k + 1) := fun e => by
          rw [e]
          by_cases hh : s.length < k + 1
          · exact .inl ⟨by simp only [decide_eq_true_eq]; omega, by rw [if_pos (by simpa using hh)]⟩
          · exact .inr ⟨by simp only [decide_eq_false_iff_not]; omega, by rw [if_neg (by simpa using hh)]⟩
        by_cases hlt : k < s.length
        · have d1 : decide (((k : Nat) : Int) < s.length) = true := by simp only [decide_eq_true_eq]; omega
          have ex : s[k]? = some s[k] := by simp [hlt]
          obtain ⟨b, hb⟩ : ∃ b, s[k] = b := ⟨_, rfl⟩
          rw [hb] at ex
          have ix := fun q => ixs_at ex q
          have h3 := h3 (by omega)
          rw [drop_at ex, qL_cons] at h3
          have e1 : ((b.toNat : Int) != 34) = (b != 34) := by simp only [bne]; rw [show ((b.toNat : Int) == 34) = (b == 34) from u8_eq b 34 (by decide)]
          have e2 : ((b.toNat : Int) == 92) = (b == 92) := u8_eq b 92 (by decide)
          rcases tf (b == 34) with g4 | g4
          · rw [if_pos g4] at h3
            have g4' : (b != 34) = false := by simp [bne, g4]
            rcases fin h3.symm with ⟨f1, f2⟩ | ⟨f1, f2⟩
            · rw [f2]; simp (config := { contextual := true, maxSteps := 10000000 }) only [r0, r3, d1, ix, e1, g4', wk, f1, go_sem, Nat.reduceAdd, Nat.reduceSub, Nat.reduceMul, Nat.reduceEqDiff, Nat.reduceLeDiff, Nat.reduceLT, Int.reduceToNat, Int.reduceLE, Int.reduceLT, Int.reduceEq, Int.reduceNe, Int.reduceBEq, Int.reduceBNe, Nat.reduceBEq, Nat.reduceBNe, ↓reduceIte, reduceCtorEq, ↓reduceDIte, W_draw]
            · rw [f2]; simp (config := { contextual := true, maxSteps := 10000000 }) only [r0, r3, d1, ix, e1, g4', wk, f1, go_sem, Nat.reduceAdd, Nat.reduceSub, Nat.reduceMul, Nat.reduceEqDiff, Nat.reduceLeDiff, Nat.reduceLT, Int.reduceToNat, Int.reduceLE, Int.reduceLT, Int.reduceEq, Int.reduceNe, Int.reduceBEq, Int.reduceBNe, Nat.reduceBEq, Nat.reduceBNe, ↓reduceIte, reduceCtorEq, ↓reduceDIte, W_draw]
          rw [if_neg (by rw [g4]; decide)] at h3
          have g4' : (b != 34) = true := by simp [bne, g4]
          rcases tf (b == 92) with g5 | g5
          · rw [if_pos g5] at h3
            simp (config := { contextual := true, maxSteps := 10000000 }) only [r0, r3, d1, ix, e1, g4', e2, g5, wk, wk2, go_sem, Nat.reduceAdd, Nat.reduceSub, Nat.reduceMul, Nat.reduceEqDiff, Nat.reduceLeDiff, Nat.reduceLT, Int.reduceToNat, Int.reduceLE, Int.reduceLT, Int.reduceEq, Int.reduceNe, Int.reduceBEq, Int.reduceBNe, Nat.reduceBEq, Nat.reduceBNe, ↓reduceIte, reduceCtorEq, ↓reduceDIte, W_draw]
            refine ⟨k + 1 + 1, rfl, by omega, by omega, fun hk => ?_, fun hk => ?_⟩
            · have ex2 : s[k + 1]? = some (s[k + 1]'(by omega)) := List.getElem?_eq_getElem (by omega)
              rw [drop_at ex2] at h3
              exact h3
            · rw [List.drop_eq_nil_of_le (by omega)] at h3
              rw [← h3]
          · rw [if_neg (by rw [g5]; decide)] at h3
            simp (config := { contextual := true, maxSteps := 10000000 }) only [r0, r3, d1, ix, e1, g4', e2, g5, wk, go_sem, Nat.reduceAdd, Nat.reduceSub, Nat.reduceMul, Nat.reduceEqDiff, Nat.reduceLeDiff, Nat.reduceLT, Int.reduceToNat, Int.reduceLE, Int.reduceLT, Int.reduceEq, Int.reduceNe, Int.reduceBEq, Int.reduceBNe, Nat.reduceBEq, Nat.reduceBNe, ↓reduceIte, reduceCtorEq, ↓reduceDIte, W_draw]
            exact ⟨k + 1, rfl, by omega, by omega, fun _ => h3, fun hk => by omega⟩
        · have d1 : decide (((k : Nat) : Int) < s.length) = false := by simp only [decide_eq_false_iff_not]; omega
          have hq : qL (s.drop 1) 1 = k + 1 := by
            by_cases hk : k ≤ s.length
            · rw [← h3 hk, List.drop_eq_nil_of_le (by omega), qL_nil]
            · exact h4 (by omega)
          rcases fin hq with ⟨f1, f2⟩ | ⟨f1, f2⟩
          · rw [f2]; simp (config := { contextual := true, maxSteps := 10000000 }) only [r0, r3, d1, wk, f1, go_sem, Nat.reduceAdd, Nat.reduceSub, Nat.reduceMul, Nat.reduceEqDiff, Nat.reduceLeDiff, Nat.reduceLT, Int.reduceToNat, Int.reduceLE, Int.reduceLT, Int.reduceEq, Int.reduceNe, Int.reduceBEq, Int.reduceBNe, Nat.reduceBEq, Nat.reduceBNe, ↓reduceIte, reduceCtorEq, ↓reduceDIte, W_draw]
          · rw [f2]; simp (config := { contextual := true, maxSteps := 10000000 }) only [r0, r3, d1, wk, f1, go_sem, Nat.reduceAdd, Nat.reduceSub, Nat.reduceMul, Nat.reduceEqDiff, Nat.reduceLeDiff, Nat.reduceLT, Int.reduceToNat, Int.reduceLE, Int.reduceLT, Int.reduceEq, Int.reduceNe, Int.reduceBEq, Int.reduceBNe, Nat.reduceBEq, Nat.reduceBNe, ↓reduceIte, reduceCtorEq, ↓reduceDIte, W_draw]
      rw [if_neg (by rw [g3]; decide)]
      by_cases hlt : 1 < s.length
      · have d1 : decide ((1 : Int) < s.length) = true := by simp only [decide_eq_true_eq]; omega
        have d1' : decide (1 < s.length) = true := by simpa using hlt
        have hs2 := hs2 (by omega)
        have d3 : decide ((s.length : Int) < 2) = false := by simp only [decide_eq_false_iff_not]; omega
        have d4 : decide ((s.length : Int) < 1) = false := by simp only [decide_eq_false_iff_not]; omega
        rw [d1']
        rcases tf (isSign (s.take 2)) with g4 | g4
        · rw [g4]; simp (config := { contextual := true, maxSteps := 10000000 }) only [c23, ix0, q1, q2, g1, gd.1, e64, gd.2, e34, g3, d1, hs2, qs, g4, d3, go_sem, Nat.reduceAdd, Nat.reduceSub, Nat.reduceMul, Nat.reduceEqDiff, Nat.reduceLeDiff, Nat.reduceLT, Int.reduceToNat, Int.reduceLE, Int.reduceLT, Int.reduceEq, Int.reduceNe, Int.reduceBEq, Int.reduceBNe, Nat.reduceBEq, Nat.reduceBNe, ↓reduceIte, reduceCtorEq, ↓reduceDIte, W_draw]
        · rw [g4]; simp (config := { contextual := true, maxSteps := 10000000 }) only [c23, ix0, q1, q2, g1, gd.1, e64, gd.2, e34, g3, d1, hs2, qs, g4, d4, go_sem, Nat.reduceAdd, Nat.reduceSub, Nat.reduceMul, Nat.reduceEqDiff, Nat.reduceLeDiff, Nat.reduceLT, Int.reduceToNat, Int.reduceLE, Int.reduceLT, Int.reduceEq, Int.reduceNe, Int.reduceBEq, Int.reduceBNe, Nat.reduceBEq, Nat.reduceBNe, ↓reduceIte, reduceCtorEq, ↓reduceDIte, W_draw]
      · have d1 : decide ((1 : Int) < s.length) = false := by simp only [decide_eq_false_iff_not]; omega
        have d1' : decide (1 < s.length) = false := by simpa using hlt
        have d4 : decide ((s.length : Int) < 1) = false := by simp only [decide_eq_false_iff_not]; omega
        rw [d1']
        simp (config := { contextual := true, maxSteps := 10000000 }) only [c23, ix0, q1, q2, g1, gd.1, e64, gd.2, e34, g3, d1, d4, go_sem, Nat.reduceAdd, Nat.reduceSub, Nat.reduceMul, Nat.reduceEqDiff, Nat.reduceLeDiff, Nat.reduceLT, Int.reduceToNat, Int.reduceLE, Int.reduceLT, Int.reduceEq, Int.reduceNe, Int.reduceBEq, Int.reduceBNe, Nat.reduceBEq, Nat.reduceBNe, ↓reduceIte, reduceCtorEq, ↓reduceDIte, W_draw]
    · cases h
  · cases h
end GP
