import Derived.Test.YtnipbngimicldaaDoorGpdD
import Derived.Test.YtnipbngimicldaaDoorGpdF
import Derived.Test.YtnipbngimicldaaDoorGpYh
set_option linter.unusedSimpArgs false
/- LexMany: many numbers of one digit. -/
namespace GP
open Go Go.Proofs
set_option maxRecDepth 100000

def sevens : Nat → List UInt8
  | 0 => []
  | k + 1 => 55 :: 32 :: sevens k
theorem sevens_len : ∀ k, (sevens k).length = 2 * k
  | 0 => rfl
  | k + 1 => by simp [sevens, sevens_len k]; omega
theorem sevens_add : ∀ i j, sevens (i + j) = sevens i ++ sevens j
  | 0, j => by simp [sevens]
  | i + 1, j => by
    have : i + 1 + j = (i + j) + 1 := by omega
    rw [this]; simp [sevens, sevens_add i j]
theorem sevens_drop {k j : Nat} (h : j ≤ k) : (sevens k).drop (2 * j) = sevens (k - j) := by
  have e := sevens_add j (k - j)
  rw [show j + (k - j) = k by omega] at e
  rw [e, List.drop_left' (sevens_len j)]
theorem form7 : formI 2 [] 7 = true := by decide
theorem lex_sevens (k : Nat) : ∀ (f j : Nat) (out : List D), j ≤ k → 2 * k < 2 * j + f → out.length = j → (∀ i, i < j → out[i]? = some (mkT 2 [] 7)) → j ≤ 600 →
    lexF f (sevens k) (2 * j) out = if k ≤ 600 then (List.replicate k (mkT 2 [] 7), 0, 0) else ([], 1200, 13)
  | 0, j, out, h, hf, _, _, _ => by omega
  | f + 1, j, out, h, hf, ho, hx, h6 => by
    rw [lexF_succ, sevens_len]
    rcases Nat.lt_or_ge j k with hlt | hge
    · have hd := sevens_drop h
      obtain ⟨m, hm⟩ : ∃ m, k - j = m + 1 := ⟨k - j - 1, by omega⟩
      rw [hm] at hd
      have hrest : okRest (32 :: sevens m) := .inr ⟨32, _, rfl, .inl rfl⟩
      obtain ⟨h1, c, r2, h2, h3, h4, h5⟩ := tok_show form7 (by decide) hrest
      have e7 : showP 2 [] 7 = [55] := by kernel_rfl
      rw [e7] at h1
      have ht : tokP (sevens k) (2 * j) = (mkT 2 [] 7, 1) := by
        rw [tokP_Q (by rw [sevens_len]; omega), hd]
        exact h1
      rw [if_neg (by simp only [decide_eq_true_eq]; omega), ht]
      simp only
      rw [if_neg (by decide)]
      rcases Nat.lt_or_ge j 600 with h7 | h7
      · rw [if_neg (by simp only [beq_iff_eq]; omega)]
        have hb : betw (sevens k) (2 * j + 1) = 2 * (j + 1) := by
          unfold betw
          rw [← List.drop_drop, hd]
          have : gapL false (List.drop 1 (sevens (m + 1))) = 1 := by
            show gapL false (32 :: sevens m) = 1
            cases m with
            | zero => decide
            | succ m => simp [gapL, sevens]
          rw [this]; omega
        rw [hb]
        refine lex_sevens k f (j + 1) _ (by omega) (by omega) (by simp [ho]) (fun i hi => ?_) (by omega)
        rcases Nat.lt_or_ge i j with h8 | h8
        · rw [List.getElem?_append_left (by omega)]; exact hx i h8
        · have : i = out.length := by omega
          subst this
          rw [List.getElem?_append_right (Nat.le_refl _)]; simp
      · have : j = 600 := by omega
        subst this
        rw [if_pos (by simp [ho]), if_neg (by omega)]
    · have : j = k := by omega
      subst this
      rw [if_pos (by simp), if_pos h6]
      have : out = List.replicate j (mkT 2 [] 7) := by
        apply List.ext_getElem?
        intro i
        rcases Nat.lt_or_ge i j with h8 | h8
        · rw [hx i h8, List.getElem?_replicate]; simp [h8]
        · rw [List.getElem?_eq_none (by omega), List.getElem?_eq_none (by simp; omega)]
      rw [this]
theorem lexP_sevens (k : Nat) (hk : k < 700) : lexP (sevens k) = if k ≤ 600 then (List.replicate k (mkT 2 [] 7), 0, 0) else ([], 1200, 13) := by
  unfold lexP
  rw [if_neg (by simp only [decide_eq_true_eq, sevens_len]; omega)]
  have hb : betw (sevens k) 0 = 2 * 0 := by
    unfold betw
    cases k with
    | zero => decide
    | succ k => simp [sevens, gapL]
  rw [hb]
  exact lex_sevens k _ 0 [] (by omega) (by rw [sevens_len]; omega) rfl (fun i hi => by omega) (by omega)
theorem sevens_snoc (i : Nat) : sevens (i + 1) = sevens i ++ [55, 32] := sevens_add i 1

/-! ### LexMany -/
theorem chunk1 : ∀ (n : Nat) (cs : List D), n ≤ cs.length → chunk false 1 n cs = cs.take n
  | 0, _, _ => by simp [chunk]
  | n + 1, [], h => by simp at h
  | n + 1, c :: cs, h => by
    simp only [chunk, List.headD_cons, List.drop_succ_cons, List.drop_zero, List.take_succ_cons, Bool.false_eq_true, if_false]
    rw [chunk1 n cs (by simpa using h)]
def rowS (k i : Nat) : List D := byteD (sevens i) ++ List.replicate (2 * k - 2 * i) (.int .u8 0)
theorem rowS_len {k i : Nat} (h : i ≤ k) : (rowS k i).length = 2 * k := by
  simp [rowS, byteD, sevens_len]; omega
theorem rowS_step {k i : Nat} (h : i < k) : (rowS k i).take (2 * i) ++ [.int .u8 55, .int .u8 32] ++ (rowS k i).drop (2 * i + 2) = rowS k (i + 1) := by
  have hl : (byteD (sevens i)).length = 2 * i := by simp [byteD, sevens_len]
  unfold rowS
  rw [List.take_left' hl, ← List.drop_drop, List.drop_left' hl, sevens_snoc]
  have : 2 * k - 2 * i = 2 + (2 * k - 2 * (i + 1)) := by omega
  rw [this, List.drop_replicate]
  simp [byteD]
theorem b2m_sevens {k : Nat} (hk : k < 700) {H : Hp} {o cap : Nat} (h : H[o]? = some (.row (rowS k k))) : b2mD H (.ms false 1 o 0 (2 * k) cap) = some (.str (sevens k)) := by
  have e : chunk false 1 (2 * k) ((rowS k k).drop 0) = byteD (sevens k) := by
    rw [List.drop_zero, chunk1 _ _ (by rw [rowS_len (Nat.le_refl _)]; omega)]
    unfold rowS
    rw [List.take_left' (by simp [byteD, sevens_len])]
  simp only [b2mD, h]
  rw [if_pos ⟨trivial, by rw [rowS_len (Nat.le_refl _)]; omega, by rw [e]; exact byteD_isByte _, by omega⟩, e, byteD_un]
theorem wrap_lt (k : Nat) (h : k < 2 ^ 62) : IntKind.i64.wrap (k : Int) = k := by simp [IntKind.wrap, IntKind.bits, IntKind.signed]; omega
theorem flat_one (n : Nat) (d : D) : (List.replicate n [d]).flatten = List.replicate n d := by
  induction n with
  | zero => rfl
  | succ n ih => simp [List.replicate_succ, ih]
theorem mkm_row {K : D → S → Prop} {s : S} {k : Nat} (hk : k < 700) (h : K (.ms false 1 s.H.length 0 0 (2 * k)) ⟨s.t, s.H ++ [.row (rowS k 0)], s.T⟩) :
    mkmK false 1 1 [.int .u8 0] K s (.int .i64 0) (.int .i64 ((2 * k : Nat) : Int)) := by
  simp only [mkmK]
  refine ⟨by omega, by omega, by omega, by omega, rfl, ?_⟩
  have e : ((2 * k : Nat) : Int).toNat = 2 * k := by omega
  rw [e, flat_one]
  simpa [rowS, sevens, byteD] using h
theorem app_row {K : D → S → Prop} {t : Nat → D} {B : Hp} {T : Tk} {o i k : Nat} (hi : i < k) (ho : B[o]? = some (.row (rowS k i))) {x : D} (hx : appSrcM B false 1 x = some [.int .u8 55, .int .u8 32])
    (h : K (.ms false 1 o 0 (2 * (i + 1)) (2 * k)) ⟨t, B.set o (.row (rowS k (i + 1))), T⟩) : appmK false 1 1 K ⟨t, B, T⟩ (.ms false 1 o 0 (2 * i) (2 * k)) (appSrcM B false 1 x) := by
  rw [hx]
  simp only [appmK, ho]
  refine ⟨by decide, trivial, ?_⟩
  rw [if_pos (by simp; omega)]
  refine ⟨by rw [rowS_len (by omega)]; omega, ?_⟩
  have e : flatD [D.int .u8 55, .int .u8 32] = [.int .u8 55, .int .u8 32] := rfl
  have e2 := rowS_step hi
  simp only [List.length_cons, List.length_nil, Nat.zero_add, Nat.mul_one, e, Nat.add_zero, Nat.reduceAdd] at *
  rw [e2]
  exact h
set_option maxHeartbeats 8000000 in
theorem main4 (n : Int) (h0 : 0 ≤ n) (h1 : n < 65536) (H : Hp) (T : Tk) : W (Snd Tryd.prog) c4 (endQ [.inl 2] (fun r _ _ => r = .bool true)) ⟨argT [.int .u16 n], H, T⟩ := by
  refine W_mono (X := XL [(8, φtrueD), (12, φlex)]) (Ok.X (.cons ok8 (.cons ok12 .nil))) (fun _ _ h => h) ?_
  have p3 : φtrueD [] = some (.bool true) := rfl
  obtain ⟨k, hk, e1⟩ : ∃ k : Nat, k < 700 ∧ n.tmod 700 = (k : Int) := ⟨(n.tmod 700).toNat, by
    have := Int.tmod_lt_of_pos n (show (0 : Int) < 700 by decide)
    omega, by
    have := Int.tmod_nonneg 700 h0
    omega⟩
  have e2 : IntKind.i64.wrap ((k : Nat) : Int) = (k : Nat) := wrap_lt k (by omega)
  have e3 : IntKind.i64.wrap (2 * ((k : Nat) : Int)) = ((2 * k : Nat) : Int) := by
    rw [show (2 : Int) * (k : Int) = ((2 * k : Nat) : Int) by omega]
    exact wrap_lt (2 * k) (by omega)
  simp (config := { contextual := true, maxSteps := 10000000 }) only [c4, p3, e1, e2, e3, go_sem, Nat.reduceAdd, Nat.reduceSub, Nat.reduceMul, Nat.reduceEqDiff, Nat.reduceLeDiff, Nat.reduceLT, Int.reduceToNat, Int.reduceLE, Int.reduceLT, Int.reduceEq, Int.reduceNe, Int.reduceBEq, Int.reduceBNe, Nat.reduceBEq, Nat.reduceBNe, ↓reduceIte, reduceCtorEq, ↓reduceDIte, W_draw]
  refine mkm_row hk ?_
  simp (config := { contextual := true, maxSteps := 10000000 }) only [go_sem, Nat.reduceAdd, Nat.reduceSub, Nat.reduceMul, Nat.reduceEqDiff, Nat.reduceLeDiff, Nat.reduceLT, Int.reduceToNat, Int.reduceLE, Int.reduceLT, Int.reduceEq, Int.reduceNe, Int.reduceBEq, Int.reduceBNe, Nat.reduceBEq, Nat.reduceBNe, ↓reduceIte, reduceCtorEq, ↓reduceDIte, W_draw]
  refine W_for (fun i s' => s'.t 3 = .int .i64 (k : Nat) ∧ s'.t 5 = .int .i64 (i : Nat) ∧ s'.t 4 = .ms false 1 H.length 0 (2 * i) (2 * k) ∧ i ≤ k ∧ s'.H[H.length]? = some (.row (rowS k i)) ∧ s'.T = T) k ⟨0, rfl, rfl, rfl, by omega, by simp, rfl⟩ (fun i s h => h.2.2.2.1) ?_ (XL_mono _)
  rintro i ⟨t, B, T'⟩ ⟨r3, r5, r4, hi, hB, rfl⟩
  simp only at r3 r5 r4 hB
  by_cases hlt : i < k
  · have d1 : decide (((i : Nat) : Int) < (k : Nat)) = true := by simp only [decide_eq_true_eq]; omega
    have wS : IntKind.i64.wrap ((i : Int) + 1) = ((i + 1 : Nat) : Int) := by
      have := wrap_lt (i + 1) (by omega)
      rw [← this]; congr 1
    have hlB : H.length < B.length := by
      rcases Nat.lt_or_ge H.length B.length with h | h
      · exact h
      · rw [List.getElem?_eq_none h] at hB; cases hB
    simp (config := { contextual := true, maxSteps := 10000000 }) only [r3, r4, r5, d1, go_sem, Nat.reduceAdd, Nat.reduceSub, Nat.reduceMul, Nat.reduceEqDiff, Nat.reduceLeDiff, Nat.reduceLT, Int.reduceToNat, Int.reduceLE, Int.reduceLT, Int.reduceEq, Int.reduceNe, Int.reduceBEq, Int.reduceBNe, Nat.reduceBEq, Nat.reduceBNe, ↓reduceIte, reduceCtorEq, ↓reduceDIte, W_draw]
    refine app_row hlt (by rw [List.getElem?_append_left hlB]; exact hB) (by simp [appSrcM, flatD, D.cells, chunk1]) ?_
    simp (config := { contextual := true, maxSteps := 10000000 }) only [wS, r3, r5, go_sem, Nat.reduceAdd, Nat.reduceSub, Nat.reduceMul, Nat.reduceEqDiff, Nat.reduceLeDiff, Nat.reduceLT, Int.reduceToNat, Int.reduceLE, Int.reduceLT, Int.reduceEq, Int.reduceNe, Int.reduceBEq, Int.reduceBNe, Nat.reduceBEq, Nat.reduceBNe, ↓reduceIte, reduceCtorEq, ↓reduceDIte, W_draw]
    refine ⟨by omega, ?_⟩
    rw [List.getElem?_set_self (by simp; omega)]
  · have e : i = k := by omega
    subst e
    have d1 : decide (((i : Nat) : Int) < (i : Nat)) = false := by simp only [decide_eq_false_iff_not]; omega
    have pb := b2m_sevens (cap := 2 * i) hk hB
    have pl : φlex [.str (sevens i)] = some (tupL (lexP (sevens i))) := by simp only [φlex]; rw [if_pos (by rw [sevens_len]; omega)]
    rw [lexP_sevens i hk] at pl
    by_cases h6 : i ≤ 600
    · rw [if_pos h6] at pl
      have d2 : decide (((i : Nat) : Int) ≤ 600) = true := by simp only [decide_eq_true_eq]; omega
      simp (config := { contextual := true, maxSteps := 10000000 }) only [r3, r4, r5, d1, pb, pl, d2, tupL, go_sem, Nat.reduceAdd, Nat.reduceSub, Nat.reduceMul, Nat.reduceEqDiff, Nat.reduceLeDiff, Nat.reduceLT, Int.reduceToNat, Int.reduceLE, Int.reduceLT, Int.reduceEq, Int.reduceNe, Int.reduceBEq, Int.reduceBNe, Nat.reduceBEq, Nat.reduceBNe, ↓reduceIte, reduceCtorEq, ↓reduceDIte, W_draw]
      simp
    · rw [if_neg h6] at pl
      have d2 : decide (((i : Nat) : Int) ≤ 600) = false := by simp only [decide_eq_false_iff_not]; omega
      simp (config := { contextual := true, maxSteps := 10000000 }) only [r3, r4, r5, d1, pb, pl, d2, tupL, go_sem, Nat.reduceAdd, Nat.reduceSub, Nat.reduceMul, Nat.reduceEqDiff, Nat.reduceLeDiff, Nat.reduceLT, Int.reduceToNat, Int.reduceLE, Int.reduceLT, Int.reduceEq, Int.reduceNe, Int.reduceBEq, Int.reduceBNe, Nat.reduceBEq, Nat.reduceBNe, ↓reduceIte, reduceCtorEq, ↓reduceDIte, W_draw]
end GP
