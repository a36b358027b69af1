import Derived.Test.YtnipbngimicldaaDoorGpdN
set_option linter.unusedSimpArgs false
/- Tokens of a text. -/
namespace GP
open Go Go.Proofs
set_option maxRecDepth 100000

def mkT (k : Int) (s : List UInt8) (n : Int) : D := .agg [.int .i64 k, .str s, .int .i64 n]
theorem numP_le {l : List UInt8} {a : Nat} {m : Int} (h : a ≤ l.length) : a + (numP l a m).2 ≤ l.length := by
  have := runN_le pDigit l a h
  unfold numP; split
  · simpa using h
  · exact this
theorem txtL_le : ∀ (n : Nat) (l out : List UInt8) (k : Nat), l.length ≤ n → (txtL l out k).2 ≤ k + l.length
  | _, [], out, k, _ => by rw [txtL_nil]; simp
  | 0, _ :: _, _, _, h => by simp at h
  | n + 1, c :: r, out, k, h => by
    rw [txtL_cons]
    split
    · simp
    split
    · cases r with
      | nil => simp
      | cons d r =>
        simp only
        split
        · simp
        split
        · simp
        · have := txtL_le n r (out ++ [d]) (k + 2) (by simp at h ⊢; omega)
          simp only [List.length_cons] at this ⊢; omega
    split
    · simp
    split
    · simp
    · have := txtL_le n r (out ++ [c]) (k + 1) (by simp at h; omega)
      simp only [List.length_cons] at this ⊢; omega
theorem txtP_le {l : List UInt8} {a : Nat} (h : a < l.length) : a + (txtP l a).2 ≤ l.length := by
  have := txtL_le _ (l.drop (a + 1)) [] 1 (Nat.le_refl _)
  unfold txtP; simp only [List.length_drop] at this; omega
def tokS (l : List UInt8) (a : Nat) : D × Nat := match signsB.find? (hasP (l.drop a)) with
  | some x => (mkT 5 x 0, x.length)
  | none => (mkT 0 [] 0, 0)
/-- The token that begins at a place with a byte, and how many bytes it has. -/
def tokC (c : UInt8) (l : List UInt8) (a : Nat) : D × Nat :=
  if decide ((97 : Int) ≤ c.toNat) && decide ((c.toNat : Int) ≤ 122) then (if decide ((64 : Int) < (runN pWord l a : Nat)) then (mkT 0 [] 0, 0) else (mkT 1 (subList l a (a + runN pWord l a)) 0, runN pWord l a))
  else if pDigit c.toNat then (mkT 2 [] (numP l a 9223372036854775807).1, (numP l a 9223372036854775807).2)
  else if c == 64 then (if ((numP l (a + 1) 1099511627776).2 : Int) == 0 then (mkT 0 [] 0, 0) else (mkT 4 [] (numP l (a + 1) 1099511627776).1, (numP l (a + 1) 1099511627776).2 + 1))
  else if c == 34 then (mkT 3 (txtP l a).1 0, (txtP l a).2)
  else tokS l a
def tokP (l : List UInt8) (a : Nat) : D × Nat := match l[a]? with
  | some c => tokC c l a
  | none => (mkT 0 [] 0, 0)
def isTok (d : D) : Prop := ∃ k s n, d = mkT k s n
theorem tokC_T (c : UInt8) (l : List UInt8) (a : Nat) : isTok (tokC c l a).1 := by
  unfold tokC tokS
  repeat' split
  all_goals exact ⟨_, _, _, rfl⟩
def tupT (p : D × Nat) : D := .tup [p.1, .int .i64 (p.2 : Nat)]
theorem tupT_cl {p : D × Nat} (h : isTok p.1) : (tupT p).cl 0 0 = true := by
  obtain ⟨k, s, n, e⟩ := h
  simp [tupT, e, mkT, D.cl, D.clL]
theorem hasP_len {l p : List UInt8} (h : hasP l p = true) : p.length ≤ l.length := by
  unfold hasP at h
  have h : l.take p.length = p := by simpa using h
  have := congrArg List.length h
  simp at this; omega
theorem tokC_le {c : UInt8} {l : List UInt8} {a : Nat} (h : a < l.length) : a + (tokC c l a).2 ≤ l.length := by
  have h1 := runN_le pWord l a (by omega)
  have h2 := numP_le (l := l) (a := a) (m := 9223372036854775807) (by omega)
  have h3 := numP_le (l := l) (a := a + 1) (m := 1099511627776) (by omega)
  have h4 := txtP_le h
  unfold tokC
  split
  · split
    · simp; omega
    · exact h1
  split
  · exact h2
  split
  · split
    · simp; omega
    · simp only; omega
  split
  · exact h4
  · unfold tokS
    split
    · rename_i x hx
      have := hasP_len (List.find?_some hx)
      simp only [List.length_drop] at this ⊢; omega
    · simp; omega
theorem tokP_at {l : List UInt8} {a : Nat} (h : a < l.length) : tokP l a = tokC l[a] l a := by
  unfold tokP; rw [List.getElem?_eq_getElem h]
def φtok : List D → Option D
  | [.str l, .int .i64 a] => if 0 ≤ a ∧ a < l.length ∧ l.length ≤ 2 ^ 60 then some (tupT (tokP l a.toNat)) else none
  | _ => none
theorem sgn_get {j : Nat} (h : j < 18) : ∃ x, (signsB.map D.str)[j]? = some (.str x) ∧ signsB[j]? = some x := by
  have hl : j < signsB.length := h
  exact ⟨signsB[j], by simp [hl], by simp [hl]⟩
theorem find_nx {α : Type} {p : α → Bool} {xs : List α} {i : Nat} {x : α} (hx : xs[i]? = some x) (h : (xs.take i).find? p = none) (hp : p x = false) : (xs.take (i + 1)).find? p = none := by
  rw [List.take_add_one, hx]; simp [h, hp]
theorem find_yes {α : Type} {p : α → Bool} {xs : List α} {i : Nat} {x : α} (hx : xs[i]? = some x) (h : (xs.take i).find? p = none) (hp : p x = true) : xs.find? p = some x := by
  have hi : i < xs.length := by
    rcases Nat.lt_or_ge i xs.length with h' | h'
    · exact h'
    · rw [List.getElem?_eq_none h'] at hx; cases hx
  have e : xs = xs.take i ++ x :: xs.drop (i + 1) := by
    have : x = xs[i] := by simpa [hi] using hx.symm
    subst this
    simp
  rw [e, List.find?_append, h]
  simp [hp]
set_option maxHeartbeats 8000000 in
theorem ok22 : OkAt Tryd.prog 22 φtok := by
  refine ok_of (l := [(25, φrun), (28, φb pDigit), (40, φnum), (41, φtext), (31, φsigns), (42, φpre)]) (.cons ok25 (.cons ok28 (.cons ok40 (.cons ok41 (.cons ok31 (.cons ok42 .nil)))))) fn22 fun args r h => ?_
  unfold φtok at h
  split at h
  · rename_i l a
    split at h
    · rename_i hc
      obtain ⟨ha0, ha, hl⟩ := hc
      injection h with h; subst h
      obtain ⟨a, rfl⟩ : ∃ k : Nat, a = (k : Int) := ⟨a.toNat, by omega⟩
      have ha : a < l.length := by omega
      rw [show ((a : Int)).toNat = a from by omega, tokP_at ha]
      refine ⟨by simp, tupT_cl (tokC_T _ _ _), fun H T => ?_⟩
      have ex : l[a]? = some l[a] := by simp [ha]
      obtain ⟨c, hb⟩ : ∃ b, l[a] = b := ⟨_, rfl⟩
      rw [hb] at ex ⊢
      have ix := fun q => ixs_at ex q
      have pr : φrun [.str l, .int .i64 (a : Int), .fn 39 [] []] = some (.int .i64 (runN pWord l a : Nat)) := by
        simp only [φrun]; rw [show sorts 39 = some pWord from rfl]; simp only; rw [if_pos ⟨by omega, by omega, by omega⟩]; simp
      have hle := runN_le pWord l a (by omega)
      have e1 : ((c.toNat : Int) == 64) = (c == 64) := u8_eq c 64 (by decide)
      have e2 : ((c.toNat : Int) == 34) = (c == 34) := u8_eq c 34 (by decide)
      unfold tokC
      have lets : ∀ {X : D × Nat}, True := trivial
      rcases tf (decide ((97 : Int) ≤ c.toNat) && decide ((c.toNat : Int) ≤ 122)) with g | g
      · rw [if_pos g]
        simp only [Bool.and_eq_true] at g
        obtain ⟨g1, g2⟩ := g
        obtain ⟨n, hn⟩ : ∃ n, runN pWord l a = n := ⟨_, rfl⟩
        rw [hn] at pr hle ⊢
        rcases tf (decide ((64 : Int) < (n : Nat))) with g3 | g3
        · rw [if_pos g3]
          simp (config := { contextual := true, maxSteps := 10000000 }) only [c22, ix, g1, g2, pr, g3, tupT, mkT, go_sem, Nat.reduceAdd, Nat.reduceSub, Nat.reduceMul, Nat.reduceEqDiff, Nat.reduceLeDiff, Nat.reduceLT, Int.reduceToNat, Int.reduceLE, Int.reduceLT, Int.reduceEq, Int.reduceNe, Int.reduceBEq, Int.reduceBNe, Nat.reduceBEq, Nat.reduceBNe, ↓reduceIte, reduceCtorEq, ↓reduceDIte, W_draw]
        · rw [if_neg (by rw [g3]; decide)]
          have wS : IntKind.i64.wrap ((a : Int) + (n : Int)) = ((a + n : Nat) : Int) := by rw [wrap_in (by omega) (by omega)]; omega
          have hs : sub (some (a : Int)) (some ((a + n : Nat) : Int)) (.str l) = some (.str (subList l a (a + n))) := by
            rw [sub_s, if_pos ⟨by omega, by omega, by omega⟩, show (((a + n : Nat) : Int)).toNat = a + n from by omega, show ((a : Int)).toNat = a from by omega]
          simp (config := { contextual := true, maxSteps := 10000000 }) only [c22, ix, g1, g2, pr, g3, wS, hs, tupT, mkT, go_sem, Nat.reduceAdd, Nat.reduceSub, Nat.reduceMul, Nat.reduceEqDiff, Nat.reduceLeDiff, Nat.reduceLT, Int.reduceToNat, Int.reduceLE, Int.reduceLT, Int.reduceEq, Int.reduceNe, Int.reduceBEq, Int.reduceBNe, Nat.reduceBEq, Nat.reduceBNe, ↓reduceIte, reduceCtorEq, ↓reduceDIte, W_draw]
      rw [if_neg (by rw [g]; decide)]
      have pd : φb pDigit [.int .u8 (c.toNat : Int)] = some (.bool (pDigit c.toNat)) := rfl
      have G : (decide ((97 : Int) ≤ c.toNat) = true ∧ decide ((c.toNat : Int) ≤ 122) = false) ∨ decide ((97 : Int) ≤ c.toNat) = false := by
        rcases tf (decide ((97 : Int) ≤ c.toNat)) with h | h
        · rw [h] at g; exact .inl ⟨h, by simpa using g⟩
        · exact .inr h
      rcases tf (pDigit (c.toNat : Int)) with g3 | g3
      · rw [if_pos g3]
        have pn : φnum [.str l, .int .i64 (a : Int), .int .i64 9223372036854775807] = some (tupN (numP l a 9223372036854775807)) := by
          simp only [φnum]; rw [if_pos ⟨by omega, by omega, by omega, by decide⟩]; simp
        obtain ⟨⟨v, n⟩, hn⟩ : ∃ z, numP l a 9223372036854775807 = z := ⟨_, rfl⟩
        simp only [hn, tupN] at pn ⊢
        rcases G with ⟨g1, g2⟩ | g1
        · simp (config := { contextual := true, maxSteps := 10000000 }) only [c22, ix, g1, g2, pd, g3, pn, tupT, mkT, go_sem, Nat.reduceAdd, Nat.reduceSub, Nat.reduceMul, Nat.reduceEqDiff, Nat.reduceLeDiff, Nat.reduceLT, Int.reduceToNat, Int.reduceLE, Int.reduceLT, Int.reduceEq, Int.reduceNe, Int.reduceBEq, Int.reduceBNe, Nat.reduceBEq, Nat.reduceBNe, ↓reduceIte, reduceCtorEq, ↓reduceDIte, W_draw]
        · simp (config := { contextual := true, maxSteps := 10000000 }) only [c22, ix, g1, pd, g3, pn, tupT, mkT, go_sem, Nat.reduceAdd, Nat.reduceSub, Nat.reduceMul, Nat.reduceEqDiff, Nat.reduceLeDiff, Nat.reduceLT, Int.reduceToNat, Int.reduceLE, Int.reduceLT, Int.reduceEq, Int.reduceNe, Int.reduceBEq, Int.reduceBNe, Nat.reduceBEq, Nat.reduceBNe, ↓reduceIte, reduceCtorEq, ↓reduceDIte, W_draw]
      rw [if_neg (by rw [g3]; decide)]
      rcases tf (c == 64) with g4 | g4
      · rw [if_pos g4]
        have pn : φnum [.str l, .int .i64 ((a + 1 : Nat) : Int), .int .i64 1099511627776] = some (tupN (numP l (a + 1) 1099511627776)) := by
          simp only [φnum]; rw [if_pos ⟨by omega, by omega, by omega, by decide⟩, show (((a + 1 : Nat) : Int)).toNat = a + 1 from by omega]
        have nle := numP_le (l := l) (a := a + 1) (m := 1099511627776) (by omega)
        have wa := wrap_su a (by omega)
        obtain ⟨⟨v, n⟩, hn⟩ : ∃ z, numP l (a + 1) 1099511627776 = z := ⟨_, rfl⟩
        simp only [hn, tupN] at pn nle ⊢
        have wn := wrap_su n (by omega)
        rcases tf ((n : Int) == 0) with g5 | g5
        · rw [if_pos g5]
          rcases G with ⟨g1, g2⟩ | g1
          · simp (config := { contextual := true, maxSteps := 10000000 }) only [c22, ix, g1, g2, pd, g3, e1, g4, wa, pn, g5, tupT, mkT, go_sem, Nat.reduceAdd, Nat.reduceSub, Nat.reduceMul, Nat.reduceEqDiff, Nat.reduceLeDiff, Nat.reduceLT, Int.reduceToNat, Int.reduceLE, Int.reduceLT, Int.reduceEq, Int.reduceNe, Int.reduceBEq, Int.reduceBNe, Nat.reduceBEq, Nat.reduceBNe, ↓reduceIte, reduceCtorEq, ↓reduceDIte, W_draw]
          · simp (config := { contextual := true, maxSteps := 10000000 }) only [c22, ix, g1, pd, g3, e1, g4, wa, pn, g5, tupT, mkT, go_sem, Nat.reduceAdd, Nat.reduceSub, Nat.reduceMul, Nat.reduceEqDiff, Nat.reduceLeDiff, Nat.reduceLT, Int.reduceToNat, Int.reduceLE, Int.reduceLT, Int.reduceEq, Int.reduceNe, Int.reduceBEq, Int.reduceBNe, Nat.reduceBEq, Nat.reduceBNe, ↓reduceIte, reduceCtorEq, ↓reduceDIte, W_draw]
        · rw [if_neg (by rw [g5]; decide)]
          rcases G with ⟨g1, g2⟩ | g1
          · simp (config := { contextual := true, maxSteps := 10000000 }) only [c22, ix, g1, g2, pd, g3, e1, g4, wa, pn, g5, wn, tupT, mkT, go_sem, Nat.reduceAdd, Nat.reduceSub, Nat.reduceMul, Nat.reduceEqDiff, Nat.reduceLeDiff, Nat.reduceLT, Int.reduceToNat, Int.reduceLE, Int.reduceLT, Int.reduceEq, Int.reduceNe, Int.reduceBEq, Int.reduceBNe, Nat.reduceBEq, Nat.reduceBNe, ↓reduceIte, reduceCtorEq, ↓reduceDIte, W_draw]
          · simp (config := { contextual := true, maxSteps := 10000000 }) only [c22, ix, g1, pd, g3, e1, g4, wa, pn, g5, wn, tupT, mkT, go_sem, Nat.reduceAdd, Nat.reduceSub, Nat.reduceMul, Nat.reduceEqDiff, Nat.reduceLeDiff, Nat.reduceLT, Int.reduceToNat, Int.reduceLE, Int.reduceLT, Int.reduceEq, Int.reduceNe, Int.reduceBEq, Int.reduceBNe, Nat.reduceBEq, Nat.reduceBNe, ↓reduceIte, reduceCtorEq, ↓reduceDIte, W_draw]
      rw [if_neg (by rw [g4]; decide)]
      rcases tf (c == 34) with g5 | g5
      · rw [if_pos g5]
        have pt : φtext [.str l, .int .i64 (a : Int)] = some (tupS (txtP l a)) := by
          simp only [φtext]; rw [if_pos ⟨by omega, by omega, by omega⟩]; simp
        obtain ⟨⟨v, n⟩, hn⟩ : ∃ z, txtP l a = z := ⟨_, rfl⟩
        simp only [hn, tupS] at pt ⊢
        rcases G with ⟨g1, g2⟩ | g1
        · simp (config := { contextual := true, maxSteps := 10000000 }) only [c22, ix, g1, g2, pd, g3, e1, g4, e2, g5, pt, tupT, mkT, go_sem, Nat.reduceAdd, Nat.reduceSub, Nat.reduceMul, Nat.reduceEqDiff, Nat.reduceLeDiff, Nat.reduceLT, Int.reduceToNat, Int.reduceLE, Int.reduceLT, Int.reduceEq, Int.reduceNe, Int.reduceBEq, Int.reduceBNe, Nat.reduceBEq, Nat.reduceBNe, ↓reduceIte, reduceCtorEq, ↓reduceDIte, W_draw]
        · simp (config := { contextual := true, maxSteps := 10000000 }) only [c22, ix, g1, pd, g3, e1, g4, e2, g5, pt, tupT, mkT, go_sem, Nat.reduceAdd, Nat.reduceSub, Nat.reduceMul, Nat.reduceEqDiff, Nat.reduceLeDiff, Nat.reduceLT, Int.reduceToNat, Int.reduceLE, Int.reduceLT, Int.reduceEq, Int.reduceNe, Int.reduceBEq, Int.reduceBNe, Nat.reduceBEq, Nat.reduceBNe, ↓reduceIte, reduceCtorEq, ↓reduceDIte, W_draw]
      rw [if_neg (by rw [g5]; decide)]
      have ps : φsigns [] = some (.sl none (signsB.map .str)) := rfl
      have eS : D.eraseL (signsB.map D.str) = signsB.map D.str := rfl
      have lS : (signsB.map D.str).length = 18 := rfl
      have hs : sub (some (a : Int)) (some (l.length : Int)) (.str l) = some (.str (l.drop a)) := by
        rw [sub_s, if_pos ⟨by omega, by omega, by omega⟩]; simp [subList]
      have G' : W (XL [(25, φrun), (28, φb pDigit), (40, φnum), (41, φtext), (31, φsigns), (42, φpre)]) c22 (endQ [.inr (4, true, 3), .inl 5] (Leaves (tupT (tokS l a)) H T)) ⟨argT [.str l, .int .i64 (a : Int)], H, T⟩ := by
        obtain ⟨SB, hSB⟩ : ∃ z, signsB.map D.str = z := ⟨_, rfl⟩
        rw [hSB] at ps eS lS
        rcases G with ⟨g1, g2⟩ | g1
        · simp (config := { contextual := true, maxSteps := 10000000 }) only [c22, ix, g1, g2, pd, g3, e1, g4, e2, g5, ps, eS, lS, go_sem, Nat.reduceAdd, Nat.reduceSub, Nat.reduceMul, Nat.reduceEqDiff, Nat.reduceLeDiff, Nat.reduceLT, Int.reduceToNat, Int.reduceLE, Int.reduceLT, Int.reduceEq, Int.reduceNe, Int.reduceBEq, Int.reduceBNe, Nat.reduceBEq, Nat.reduceBNe, ↓reduceIte, reduceCtorEq, ↓reduceDIte, W_draw]
          refine W_for (fun j s' => s'.t 0 = .str l ∧ s'.t 1 = .int .i64 a ∧ s'.t 4 = .ptr H.length 0 ∧ s'.t 81 = .sl none SB ∧ s'.t 82 = .int .i64 18 ∧ s'.t 83 = .int .i64 (j : Nat) ∧ s'.H = H ++ [.row [.int .i64 0, .str [], .int .i64 0]] ∧ s'.T = T ∧ j ≤ 18 ∧ (signsB.take j).find? (hasP (l.drop a)) = none) 18 ⟨0, by simp [upd, argT]⟩ (fun i s h => h.2.2.2.2.2.2.2.2.1) ?_ (XL_mono _)
          rintro j ⟨t, B, T'⟩ ⟨r0, r1, r4, r81, r82, r83, rfl, rfl, hj, hc⟩
          simp only at r0 r1 r4 r81 r82 r83
          by_cases hlt : j < 18
          · have d1 : decide (((j : Nat) : Int) < 18) = true := by simp only [decide_eq_true_eq]; omega
            obtain ⟨x, f1, f2⟩ := sgn_get hlt
            rw [hSB] at f1
            have pp : φpre [.str (l.drop a), .str x] = some (.bool (hasP (l.drop a) x)) := rfl
            have nx := fun hp => find_nx (p := hasP (l.drop a)) f2 hc hp
            have at' := fun hp => find_yes (p := hasP (l.drop a)) f2 hc hp
            rcases tf (hasP (l.drop a) x) with q | q
            · have hT : tokS l a = (mkT 5 x 0, x.length) := by unfold tokS; rw [at' q]
              rw [hT]
              simp (config := { contextual := true, maxSteps := 10000000 }) only [r0, r1, r4, r81, r82, r83, d1, f1, hs, pp, q, tupT, mkT, go_sem, Nat.reduceAdd, Nat.reduceSub, Nat.reduceMul, Nat.reduceEqDiff, Nat.reduceLeDiff, Nat.reduceLT, Int.reduceToNat, Int.reduceLE, Int.reduceLT, Int.reduceEq, Int.reduceNe, Int.reduceBEq, Int.reduceBNe, Nat.reduceBEq, Nat.reduceBNe, ↓reduceIte, reduceCtorEq, ↓reduceDIte, W_draw]
            · have nx := nx q
              simp (config := { contextual := true, maxSteps := 10000000 }) only [r0, r1, r4, r81, r82, r83, d1, f1, hs, pp, q, wrap_su j (by omega), go_sem, Nat.reduceAdd, Nat.reduceSub, Nat.reduceMul, Nat.reduceEqDiff, Nat.reduceLeDiff, Nat.reduceLT, Int.reduceToNat, Int.reduceLE, Int.reduceLT, Int.reduceEq, Int.reduceNe, Int.reduceBEq, Int.reduceBNe, Nat.reduceBEq, Nat.reduceBNe, ↓reduceIte, reduceCtorEq, ↓reduceDIte, W_draw]
              exact ⟨by omega, nx⟩
          · have d1 : decide (((j : Nat) : Int) < 18) = false := by simp only [decide_eq_false_iff_not]; omega
            have hT : tokS l a = (mkT 0 [] 0, 0) := by
              have : j = signsB.length := by show j = 18; omega
              subst this; rw [List.take_length] at hc
              unfold tokS; rw [hc]
            rw [hT]
            simp (config := { contextual := true, maxSteps := 10000000 }) only [r0, r1, r4, r81, r82, r83, d1, tupT, mkT, go_sem, Nat.reduceAdd, Nat.reduceSub, Nat.reduceMul, Nat.reduceEqDiff, Nat.reduceLeDiff, Nat.reduceLT, Int.reduceToNat, Int.reduceLE, Int.reduceLT, Int.reduceEq, Int.reduceNe, Int.reduceBEq, Int.reduceBNe, Nat.reduceBEq, Nat.reduceBNe, ↓reduceIte, reduceCtorEq, ↓reduceDIte, W_draw]
        · simp (config := { contextual := true, maxSteps := 10000000 }) only [c22, ix, g1, pd, g3, e1, g4, e2, g5, ps, eS, lS, go_sem, Nat.reduceAdd, Nat.reduceSub, Nat.reduceMul, Nat.reduceEqDiff, Nat.reduceLeDiff, Nat.reduceLT, Int.reduceToNat, Int.reduceLE, Int.reduceLT, Int.reduceEq, Int.reduceNe, Int.reduceBEq, Int.reduceBNe, Nat.reduceBEq, Nat.reduceBNe, ↓reduceIte, reduceCtorEq, ↓reduceDIte, W_draw]
          refine W_for (fun j s' => s'.t 0 = .str l ∧ s'.t 1 = .int .i64 a ∧ s'.t 4 = .ptr H.length 0 ∧ s'.t 81 = .sl none SB ∧ s'.t 82 = .int .i64 18 ∧ s'.t 83 = .int .i64 (j : Nat) ∧ s'.H = H ++ [.row [.int .i64 0, .str [], .int .i64 0]] ∧ s'.T = T ∧ j ≤ 18 ∧ (signsB.take j).find? (hasP (l.drop a)) = none) 18 ⟨0, by simp [upd, argT]⟩ (fun i s h => h.2.2.2.2.2.2.2.2.1) ?_ (XL_mono _)
          rintro j ⟨t, B, T'⟩ ⟨r0, r1, r4, r81, r82, r83, rfl, rfl, hj, hc⟩
          simp only at r0 r1 r4 r81 r82 r83
          by_cases hlt : j < 18
          · have d1 : decide (((j : Nat) : Int) < 18) = true := by simp only [decide_eq_true_eq]; omega
            obtain ⟨x, f1, f2⟩ := sgn_get hlt
            rw [hSB] at f1
            have pp : φpre [.str (l.drop a), .str x] = some (.bool (hasP (l.drop a) x)) := rfl
            have nx := fun hp => find_nx (p := hasP (l.drop a)) f2 hc hp
            have at' := fun hp => find_yes (p := hasP (l.drop a)) f2 hc hp
            rcases tf (hasP (l.drop a) x) with q | q
            · have hT : tokS l a = (mkT 5 x 0, x.length) := by unfold tokS; rw [at' q]
              rw [hT]
              simp (config := { contextual := true, maxSteps := 10000000 }) only [r0, r1, r4, r81, r82, r83, d1, f1, hs, pp, q, tupT, mkT, go_sem, Nat.reduceAdd, Nat.reduceSub, Nat.reduceMul, Nat.reduceEqDiff, Nat.reduceLeDiff, Nat.reduceLT, Int.reduceToNat, Int.reduceLE, Int.reduceLT, Int.reduceEq, Int.reduceNe, Int.reduceBEq, Int.reduceBNe, Nat.reduceBEq, Nat.reduceBNe, ↓reduceIte, reduceCtorEq, ↓reduceDIte, W_draw]
            · have nx := nx q
              simp (config := { contextual := true, maxSteps := 10000000 }) only [r0, r1, r4, r81, r82, r83, d1, f1, hs, pp, q, wrap_su j (by omega), go_sem, Nat.reduceAdd, Nat.reduceSub, Nat.reduceMul, Nat.reduceEqDiff, Nat.reduceLeDiff, Nat.reduceLT, Int.reduceToNat, Int.reduceLE, Int.reduceLT, Int.reduceEq, Int.reduceNe, Int.reduceBEq, Int.reduceBNe, Nat.reduceBEq, Nat.reduceBNe, ↓reduceIte, reduceCtorEq, ↓reduceDIte, W_draw]
              exact ⟨by omega, nx⟩
          · have d1 : decide (((j : Nat) : Int) < 18) = false := by simp only [decide_eq_false_iff_not]; omega
            have hT : tokS l a = (mkT 0 [] 0, 0) := by
              have : j = signsB.length := by show j = 18; omega
              subst this; rw [List.take_length] at hc
              unfold tokS; rw [hc]
            rw [hT]
            simp (config := { contextual := true, maxSteps := 10000000 }) only [r0, r1, r4, r81, r82, r83, d1, tupT, mkT, go_sem, Nat.reduceAdd, Nat.reduceSub, Nat.reduceMul, Nat.reduceEqDiff, Nat.reduceLeDiff, Nat.reduceLT, Int.reduceToNat, Int.reduceLE, Int.reduceLT, Int.reduceEq, Int.reduceNe, Int.reduceBEq, Int.reduceBNe, Nat.reduceBEq, Nat.reduceBNe, ↓reduceIte, reduceCtorEq, ↓reduceDIte, W_draw]
      exact G'
    · cases h
  · cases h
end GP
