import Derived.Test.YtnipbngimicldaaDoorGpdV
import Derived.Test.YtnipbngimicldaaDoorGpYs
set_option linter.unusedSimpArgs false
/- Formed tokens; tokens held against one another. -/
namespace GP
open Go Go.Proofs
set_option maxRecDepth 100000

def formI (k : Int) (s : List UInt8) (n : Int) : Bool :=
  if k == 1 then wordB s && (n == 0) else
  if k == 2 then (s == []) && decide (0 ≤ n) else
  if k == 3 then s.all (fun b => pText b.toNat) && decide ((s.length : Int) ≤ 64) && (n == 0) else
  if k == 4 then (s == []) && decide (0 ≤ n) && decide (n ≤ 1099511627776) else
  if k == 5 then isSign s && (n == 0) else false
def φform : List D → Option D
  | [.agg [.int .i64 k, .str s, .int .i64 n]] => if s.length ≤ 2 ^ 60 then some (.bool (formI k s n)) else none
  | _ => none
theorem run_len (p : Int → Bool) : ∀ (s : List UInt8), (((runN p s 0 : Nat) : Int) == (s.length : Int)) = s.all (fun b => p b.toNat)
  | [] => rfl
  | c :: r => by
    have ih := run_len p r
    unfold runN at ih ⊢
    simp only [List.drop_zero] at ih ⊢
    rcases tf (p (c.toNat : Int)) with g | g
    · rw [runL_cons c r g, List.all_cons, g, Bool.true_and, ← ih]
      rw [Bool.eq_iff_iff, beq_iff_eq, beq_iff_eq]
      simp only [List.length_cons]; omega
    · have : runL p (c :: r) = 0 := by unfold runL; simp [g]
      rw [this, List.all_cons, g, Bool.false_and, beq_eq_false_iff_ne]
      simp only [List.length_cons]; omega
theorem ok45 : OkAt Tryd.prog 45 φidxS := okIdxS fn45
theorem ok30 : OkAt Tryd.prog 30 φcontS := okContS fn30 ok45
theorem cont_sign (s : List UInt8) : φcontS [.sl none (signsB.map .str), .str s] = some (.bool (isSign s)) := by
  have hL : isLs isTx (.sl none (signsB.map D.str)) := ⟨false, signsB.map D.str, rfl, by decide, fun x hx => by
    obtain ⟨y, hy, rfl⟩ := List.mem_map.1 hx
    have key : ∀ y ∈ signsB, y.length ≤ 2 ^ 47 := by decide
    exact ⟨y, rfl, key y hy⟩⟩
  simp only [φcontS]
  rw [if_pos hL]
  congr 2
  have e : elems (D.sl none (signsB.map D.str)) = signsB.map D.str := rfl
  rw [e, List.any_map, isSign_12, signsB_12, List.any_append, Bool.or_comm, List.contains_eq_any_beq, List.contains_eq_any_beq]
  rfl
set_option maxHeartbeats 16000000 in
theorem ok15 : OkAt Tryd.prog 15 φform := by
  refine ok_of (l := [(25, φrun), (31, φsigns), (30, φcontS)]) (.cons ok25 (.cons ok31 (.cons ok30 .nil))) fn15 fun args r h => ?_
  unfold φform at h
  split at h
  · rename_i k s n
    split at h
    · rename_i hl
      injection h with h; subst h
      refine ⟨by simp, by simp [D.cl], fun H T => ?_⟩
      have p1 : φrun [.str s, .int .i64 0, .fn 26 [] []] = some (.int .i64 (runN pWord s 0 : Nat)) := by
        simp only [φrun]; rw [show sorts 26 = some pWord from rfl]; simp only; rw [if_pos ⟨by omega, by omega, by omega⟩]; rfl
      have p2 : φrun [.str s, .int .i64 0, .fn 29 [] []] = some (.int .i64 (runN pText s 0 : Nat)) := by
        simp only [φrun]; rw [show sorts 29 = some pText from rfl]; simp only; rw [if_pos ⟨by omega, by omega, by omega⟩]; rfl
      have r1 := run_len pWord s
      have r2 := run_len pText s
      have p3 : φsigns [] = some (.sl none (signsB.map .str)) := rfl
      have p4 := cont_sign s
      have eS : D.eraseL (signsB.map D.str) = signsB.map D.str := rfl
      obtain ⟨SB, hSB⟩ : ∃ z, signsB.map D.str = z := ⟨_, rfl⟩
      rw [hSB] at p3 p4 eS
      unfold formI
      rcases tf (k == 1) with k1 | k1
      · rw [if_pos k1]
        rcases tf (n == 0) with n0 | n0
        · rw [n0, Bool.and_true]
          cases s with
          | nil =>
            have d1 : decide ((1 : Int) ≤ (([] : List UInt8).length : Nat)) = false := rfl
            simp (config := { contextual := true, maxSteps := 10000000 }) only [c15, k1, n0, d1, wordB, go_sem, Nat.reduceAdd, Nat.reduceSub, Nat.reduceMul, Nat.reduceEqDiff, Nat.reduceLeDiff, Nat.reduceLT, Int.reduceToNat, Int.reduceLE, Int.reduceLT, Int.reduceEq, Int.reduceNe, Int.reduceBEq, Int.reduceBNe, Nat.reduceBEq, Nat.reduceBNe, ↓reduceIte, reduceCtorEq, ↓reduceDIte, W_draw]
          | cons c r =>
            have d1 : decide ((1 : Int) ≤ ((c :: r).length : Nat)) = true := by simp; omega
            have ix : ∀ q, ixs (.str (c :: r)) (.int q 0) = some (.int .u8 c.toNat) := fun q => ixs_at (i := 0) rfl q
            have hwc := wordB_cons c r
            have hal : pLet (c.toNat : Int) = true → (pLet (c.toNat : Int) && r.all (fun b => pWord b.toNat)) = (c :: r).all (fun b => pWord b.toNat) := fun gl => by
              rw [List.all_cons, pWord_let (c.toNat : Int), gl]; simp
            obtain ⟨S, hS⟩ : ∃ S, c :: r = S := ⟨_, rfl⟩
            rw [hS] at p1 p2 p4 r1 r2 d1 ix hwc hal hl ⊢
            rcases tf (decide ((S.length : Int) ≤ 64)) with d2 | d2
            · rcases tf (decide ((97 : Int) ≤ c.toNat)) with d3 | d3
              · rcases tf (decide ((c.toNat : Int) ≤ 122)) with d4 | d4
                · have gl : pLet (c.toNat : Int) = true := by unfold pLet; rw [d3, d4]; rfl
                  have hw : wordB S = S.all (fun b => pWord b.toNat) := by
                    rw [hwc, hal gl, d2, Bool.and_true]
                  rw [hw]
                  simp (config := { contextual := true, maxSteps := 10000000 }) only [c15, k1, n0, d1, d2, ix, d3, d4, p1, r1, go_sem, Nat.reduceAdd, Nat.reduceSub, Nat.reduceMul, Nat.reduceEqDiff, Nat.reduceLeDiff, Nat.reduceLT, Int.reduceToNat, Int.reduceLE, Int.reduceLT, Int.reduceEq, Int.reduceNe, Int.reduceBEq, Int.reduceBNe, Nat.reduceBEq, Nat.reduceBNe, ↓reduceIte, reduceCtorEq, ↓reduceDIte, W_draw]
                · have hw : wordB S = false := by rw [hwc]; unfold pLet; rw [d3, d4]; rfl
                  rw [hw]
                  simp (config := { contextual := true, maxSteps := 10000000 }) only [c15, k1, n0, d1, d2, ix, d3, d4, go_sem, Nat.reduceAdd, Nat.reduceSub, Nat.reduceMul, Nat.reduceEqDiff, Nat.reduceLeDiff, Nat.reduceLT, Int.reduceToNat, Int.reduceLE, Int.reduceLT, Int.reduceEq, Int.reduceNe, Int.reduceBEq, Int.reduceBNe, Nat.reduceBEq, Nat.reduceBNe, ↓reduceIte, reduceCtorEq, ↓reduceDIte, W_draw]
              · have hw : wordB S = false := by rw [hwc]; unfold pLet; rw [d3]; rfl
                rw [hw]
                simp (config := { contextual := true, maxSteps := 10000000 }) only [c15, k1, n0, d1, d2, ix, d3, go_sem, Nat.reduceAdd, Nat.reduceSub, Nat.reduceMul, Nat.reduceEqDiff, Nat.reduceLeDiff, Nat.reduceLT, Int.reduceToNat, Int.reduceLE, Int.reduceLT, Int.reduceEq, Int.reduceNe, Int.reduceBEq, Int.reduceBNe, Nat.reduceBEq, Nat.reduceBNe, ↓reduceIte, reduceCtorEq, ↓reduceDIte, W_draw]
            · have hw : wordB S = false := by rw [hwc, d2, Bool.and_false]
              rw [hw]
              simp (config := { contextual := true, maxSteps := 10000000 }) only [c15, k1, n0, d1, d2, go_sem, Nat.reduceAdd, Nat.reduceSub, Nat.reduceMul, Nat.reduceEqDiff, Nat.reduceLeDiff, Nat.reduceLT, Int.reduceToNat, Int.reduceLE, Int.reduceLT, Int.reduceEq, Int.reduceNe, Int.reduceBEq, Int.reduceBNe, Nat.reduceBEq, Nat.reduceBNe, ↓reduceIte, reduceCtorEq, ↓reduceDIte, W_draw]
        · rw [n0, Bool.and_false]
          simp (config := { contextual := true, maxSteps := 10000000 }) only [c15, k1, n0, go_sem, Nat.reduceAdd, Nat.reduceSub, Nat.reduceMul, Nat.reduceEqDiff, Nat.reduceLeDiff, Nat.reduceLT, Int.reduceToNat, Int.reduceLE, Int.reduceLT, Int.reduceEq, Int.reduceNe, Int.reduceBEq, Int.reduceBNe, Nat.reduceBEq, Nat.reduceBNe, ↓reduceIte, reduceCtorEq, ↓reduceDIte, W_draw]
      rw [if_neg (by rw [k1]; decide)]
      rcases tf (k == 2) with k2 | k2
      · rw [if_pos k2]
        rcases tf (s == []) with s0 | s0 <;> rw [s0] <;> simp (config := { contextual := true, maxSteps := 10000000 }) only [c15, k1, k2, s0, go_sem, Nat.reduceAdd, Nat.reduceSub, Nat.reduceMul, Nat.reduceEqDiff, Nat.reduceLeDiff, Nat.reduceLT, Int.reduceToNat, Int.reduceLE, Int.reduceLT, Int.reduceEq, Int.reduceNe, Int.reduceBEq, Int.reduceBNe, Nat.reduceBEq, Nat.reduceBNe, ↓reduceIte, reduceCtorEq, ↓reduceDIte, W_draw]
      rw [if_neg (by rw [k2]; decide)]
      rcases tf (k == 3) with k3 | k3
      · rw [if_pos k3]
        have k4 : (k == 4) = false := by
          have : k = 3 := by simpa using k3
          subst this; rfl
        rcases tf (n == 0) with n0 | n0
        · rw [n0, Bool.and_true]
          rcases tf (decide ((s.length : Int) ≤ 64)) with d2 | d2
          · rw [d2, Bool.and_true]
            simp (config := { contextual := true, maxSteps := 10000000 }) only [c15, k1, k2, k3, k4, n0, d2, p2, r2, go_sem, Nat.reduceAdd, Nat.reduceSub, Nat.reduceMul, Nat.reduceEqDiff, Nat.reduceLeDiff, Nat.reduceLT, Int.reduceToNat, Int.reduceLE, Int.reduceLT, Int.reduceEq, Int.reduceNe, Int.reduceBEq, Int.reduceBNe, Nat.reduceBEq, Nat.reduceBNe, ↓reduceIte, reduceCtorEq, ↓reduceDIte, W_draw]
          · rw [d2, Bool.and_false]
            simp (config := { contextual := true, maxSteps := 10000000 }) only [c15, k1, k2, k3, k4, n0, d2, go_sem, Nat.reduceAdd, Nat.reduceSub, Nat.reduceMul, Nat.reduceEqDiff, Nat.reduceLeDiff, Nat.reduceLT, Int.reduceToNat, Int.reduceLE, Int.reduceLT, Int.reduceEq, Int.reduceNe, Int.reduceBEq, Int.reduceBNe, Nat.reduceBEq, Nat.reduceBNe, ↓reduceIte, reduceCtorEq, ↓reduceDIte, W_draw]
        · rw [n0, Bool.and_false]
          simp (config := { contextual := true, maxSteps := 10000000 }) only [c15, k1, k2, k3, k4, n0, go_sem, Nat.reduceAdd, Nat.reduceSub, Nat.reduceMul, Nat.reduceEqDiff, Nat.reduceLeDiff, Nat.reduceLT, Int.reduceToNat, Int.reduceLE, Int.reduceLT, Int.reduceEq, Int.reduceNe, Int.reduceBEq, Int.reduceBNe, Nat.reduceBEq, Nat.reduceBNe, ↓reduceIte, reduceCtorEq, ↓reduceDIte, W_draw]
      rw [if_neg (by rw [k3]; decide)]
      rcases tf (k == 4) with k4 | k4
      · rw [if_pos k4]
        rcases tf (s == []) with s0 | s0
        · rcases tf (decide (0 ≤ n)) with n0 | n0 <;> rw [s0, n0] <;> simp (config := { contextual := true, maxSteps := 10000000 }) only [c15, k1, k2, k4, s0, n0, go_sem, Nat.reduceAdd, Nat.reduceSub, Nat.reduceMul, Nat.reduceEqDiff, Nat.reduceLeDiff, Nat.reduceLT, Int.reduceToNat, Int.reduceLE, Int.reduceLT, Int.reduceEq, Int.reduceNe, Int.reduceBEq, Int.reduceBNe, Nat.reduceBEq, Nat.reduceBNe, ↓reduceIte, reduceCtorEq, ↓reduceDIte, W_draw]
        · rw [s0]; simp (config := { contextual := true, maxSteps := 10000000 }) only [c15, k1, k2, k4, s0, go_sem, Nat.reduceAdd, Nat.reduceSub, Nat.reduceMul, Nat.reduceEqDiff, Nat.reduceLeDiff, Nat.reduceLT, Int.reduceToNat, Int.reduceLE, Int.reduceLT, Int.reduceEq, Int.reduceNe, Int.reduceBEq, Int.reduceBNe, Nat.reduceBEq, Nat.reduceBNe, ↓reduceIte, reduceCtorEq, ↓reduceDIte, W_draw]
      rw [if_neg (by rw [k4]; decide)]
      rcases tf (k == 5) with k5 | k5
      · rw [if_pos k5]
        rcases tf (n == 0) with n0 | n0
        · rw [n0, Bool.and_true]; simp (config := { contextual := true, maxSteps := 10000000 }) only [c15, k1, k2, k3, k4, k5, n0, p3, eS, p4, go_sem, Nat.reduceAdd, Nat.reduceSub, Nat.reduceMul, Nat.reduceEqDiff, Nat.reduceLeDiff, Nat.reduceLT, Int.reduceToNat, Int.reduceLE, Int.reduceLT, Int.reduceEq, Int.reduceNe, Int.reduceBEq, Int.reduceBNe, Nat.reduceBEq, Nat.reduceBNe, ↓reduceIte, reduceCtorEq, ↓reduceDIte, W_draw]
        · rw [n0, Bool.and_false]; simp (config := { contextual := true, maxSteps := 10000000 }) only [c15, k1, k2, k3, k4, k5, n0, go_sem, Nat.reduceAdd, Nat.reduceSub, Nat.reduceMul, Nat.reduceEqDiff, Nat.reduceLeDiff, Nat.reduceLT, Int.reduceToNat, Int.reduceLE, Int.reduceLT, Int.reduceEq, Int.reduceNe, Int.reduceBEq, Int.reduceBNe, Nat.reduceBEq, Nat.reduceBNe, ↓reduceIte, reduceCtorEq, ↓reduceDIte, W_draw]
      · rw [if_neg (by rw [k5]; decide)]
        simp (config := { contextual := true, maxSteps := 10000000 }) only [c15, k1, k2, k3, k4, k5, go_sem, Nat.reduceAdd, Nat.reduceSub, Nat.reduceMul, Nat.reduceEqDiff, Nat.reduceLeDiff, Nat.reduceLT, Int.reduceToNat, Int.reduceLE, Int.reduceLT, Int.reduceEq, Int.reduceNe, Int.reduceBEq, Int.reduceBNe, Nat.reduceBEq, Nat.reduceBNe, ↓reduceIte, reduceCtorEq, ↓reduceDIte, W_draw]
    · cases h
  · cases h
theorem all_no' {α : Type} {p : α → Bool} {l : List α} {j : Nat} {x : α} (hx : l[j]? = some x) (hp : p x = false) : l.all p = false :=
  List.all_eq_false.2 ⟨x, List.mem_of_getElem? hx, by simp [hp]⟩
theorem all_nx' {α : Type} {p : α → Bool} {l : List α} {j : Nat} {x : α} (hx : l[j]? = some x) (h : (l.take j).all p = true) (hp : p x = true) : (l.take (j + 1)).all p = true := by
  rw [List.take_add_one, hx]; simp [h, hp]
set_option maxHeartbeats 16000000 in
theorem ok10 : OkAt Tryd.prog 10 φform := by
  refine ok_of (l := [(18, φword), (19, φsign)]) (.cons ok18 (.cons ok19 .nil)) fn10 fun args r h => ?_
  unfold φform at h
  split at h
  · rename_i k s n
    split at h
    · rename_i hl
      injection h with h; subst h
      refine ⟨by simp, by simp [D.cl], fun H T => ?_⟩
      have p1 : φword [.str s] = some (.bool (wordB s)) := by simp only [φword]; rw [if_pos hl]
      have p2 : φsign [.str s] = some (.bool (isSign s)) := rfl
      unfold formI
      rcases tf (k == 1) with k1 | k1
      · rw [if_pos k1]
        rcases tf (wordB s) with w | w <;> rw [w] <;> rw [w] at p1 <;> simp (config := { contextual := true, maxSteps := 10000000 }) only [c10, k1, p1, go_sem, Nat.reduceAdd, Nat.reduceSub, Nat.reduceMul, Nat.reduceEqDiff, Nat.reduceLeDiff, Nat.reduceLT, Int.reduceToNat, Int.reduceLE, Int.reduceLT, Int.reduceEq, Int.reduceNe, Int.reduceBEq, Int.reduceBNe, Nat.reduceBEq, Nat.reduceBNe, ↓reduceIte, reduceCtorEq, ↓reduceDIte, W_draw]
      rw [if_neg (by rw [k1]; decide)]
      rcases tf (k == 2) with k2 | k2
      · rw [if_pos k2]
        rcases tf (s == []) with s0 | s0 <;> rw [s0] <;> simp (config := { contextual := true, maxSteps := 10000000 }) only [c10, k1, k2, s0, go_sem, Nat.reduceAdd, Nat.reduceSub, Nat.reduceMul, Nat.reduceEqDiff, Nat.reduceLeDiff, Nat.reduceLT, Int.reduceToNat, Int.reduceLE, Int.reduceLT, Int.reduceEq, Int.reduceNe, Int.reduceBEq, Int.reduceBNe, Nat.reduceBEq, Nat.reduceBNe, ↓reduceIte, reduceCtorEq, ↓reduceDIte, W_draw]
      rw [if_neg (by rw [k2]; decide)]
      rcases tf (k == 3) with k3 | k3
      · rw [if_pos k3]
        simp (config := { contextual := true, maxSteps := 10000000 }) only [c10, k1, k2, k3, go_sem, Nat.reduceAdd, Nat.reduceSub, Nat.reduceMul, Nat.reduceEqDiff, Nat.reduceLeDiff, Nat.reduceLT, Int.reduceToNat, Int.reduceLE, Int.reduceLT, Int.reduceEq, Int.reduceNe, Int.reduceBEq, Int.reduceBNe, Nat.reduceBEq, Nat.reduceBNe, ↓reduceIte, reduceCtorEq, ↓reduceDIte, W_draw]
        refine W_for (fun i s' => s'.t 1 = .ptr H.length 0 ∧ s'.t 3 = .int .i64 (i : Nat) ∧ s'.H = H ++ [.row [.int .i64 k, .str s, .int .i64 n]] ∧ s'.T = T ∧ i ≤ s.length ∧ (s.take i).all (fun b => pText b.toNat) = true) s.length ⟨0, by simp [upd, argT]⟩ (fun i s h => h.2.2.2.2.1) ?_ (XL_mono _)
        rintro i ⟨t, B, T'⟩ ⟨r1, r3, rfl, rfl, hi, hc⟩
        simp only at r1 r3
        by_cases hlt : i < s.length
        · have d1 : decide (((i : Nat) : Int) < s.length) = true := by simp only [decide_eq_true_eq]; omega
          have ex : s[i]? = some s[i] := by simp [hlt]
          obtain ⟨b, hb⟩ : ∃ b, s[i] = b := ⟨_, rfl⟩
          rw [hb] at ex
          have ix := fun q => ixs_at ex q
          have no := fun hp => all_no' (p := fun b : UInt8 => pText b.toNat) ex hp
          have nx := fun hp => all_nx' (p := fun b : UInt8 => pText b.toNat) ex hc hp
          have pT : pText (b.toNat : Int) = (decide ((32 : Int) ≤ b.toNat) && decide ((b.toNat : Int) ≤ 126)) := rfl
          by_cases q1 : (b.toNat : Int) < 32
          · have g3 : decide ((b.toNat : Int) < 32) = true := by simpa using q1
            have no := no (by rw [pT]; simp only [Bool.and_eq_false_iff, decide_eq_false_iff_not]; omega)
            rw [no]
            simp (config := { contextual := true, maxSteps := 10000000 }) only [r1, r3, d1, ix, g3, go_sem, Nat.reduceAdd, Nat.reduceSub, Nat.reduceMul, Nat.reduceEqDiff, Nat.reduceLeDiff, Nat.reduceLT, Int.reduceToNat, Int.reduceLE, Int.reduceLT, Int.reduceEq, Int.reduceNe, Int.reduceBEq, Int.reduceBNe, Nat.reduceBEq, Nat.reduceBNe, ↓reduceIte, reduceCtorEq, ↓reduceDIte, W_draw]
          have g3 : decide ((b.toNat : Int) < 32) = false := by simpa using q1
          by_cases q2 : (126 : Int) < b.toNat
          · have g5 : decide ((126 : Int) < b.toNat) = true := by simpa using q2
            have no := no (by rw [pT]; simp only [Bool.and_eq_false_iff, decide_eq_false_iff_not]; omega)
            rw [no]
            simp (config := { contextual := true, maxSteps := 10000000 }) only [r1, r3, d1, ix, g3, g5, go_sem, Nat.reduceAdd, Nat.reduceSub, Nat.reduceMul, Nat.reduceEqDiff, Nat.reduceLeDiff, Nat.reduceLT, Int.reduceToNat, Int.reduceLE, Int.reduceLT, Int.reduceEq, Int.reduceNe, Int.reduceBEq, Int.reduceBNe, Nat.reduceBEq, Nat.reduceBNe, ↓reduceIte, reduceCtorEq, ↓reduceDIte, W_draw]
          have g5 : decide ((126 : Int) < b.toNat) = false := by simpa using q2
          have nx := nx (by rw [pT]; simp only [Bool.and_eq_true, decide_eq_true_eq]; omega)
          simp (config := { contextual := true, maxSteps := 10000000 }) only [r1, r3, d1, ix, g3, g5, wrap_su i (by omega), go_sem, Nat.reduceAdd, Nat.reduceSub, Nat.reduceMul, Nat.reduceEqDiff, Nat.reduceLeDiff, Nat.reduceLT, Int.reduceToNat, Int.reduceLE, Int.reduceLT, Int.reduceEq, Int.reduceNe, Int.reduceBEq, Int.reduceBNe, Nat.reduceBEq, Nat.reduceBNe, ↓reduceIte, reduceCtorEq, ↓reduceDIte, W_draw]
          exact ⟨by omega, nx⟩
        · have d1 : decide (((i : Nat) : Int) < s.length) = false := by simp only [decide_eq_false_iff_not]; omega
          have ei : i = s.length := by omega
          rw [ei, List.take_length] at hc
          rw [hc, Bool.true_and]
          rcases tf (decide ((s.length : Int) ≤ 64)) with d2 | d2 <;> rw [d2] <;> simp (config := { contextual := true, maxSteps := 10000000 }) only [r1, r3, d1, d2, go_sem, Nat.reduceAdd, Nat.reduceSub, Nat.reduceMul, Nat.reduceEqDiff, Nat.reduceLeDiff, Nat.reduceLT, Int.reduceToNat, Int.reduceLE, Int.reduceLT, Int.reduceEq, Int.reduceNe, Int.reduceBEq, Int.reduceBNe, Nat.reduceBEq, Nat.reduceBNe, ↓reduceIte, reduceCtorEq, ↓reduceDIte, W_draw]
      rw [if_neg (by rw [k3]; decide)]
      rcases tf (k == 4) with k4 | k4
      · rw [if_pos k4]
        rcases tf (s == []) with s0 | s0
        · rcases tf (decide (0 ≤ n)) with n0 | n0 <;> rw [s0, n0] <;> simp (config := { contextual := true, maxSteps := 10000000 }) only [c10, k1, k2, k3, k4, s0, n0, go_sem, Nat.reduceAdd, Nat.reduceSub, Nat.reduceMul, Nat.reduceEqDiff, Nat.reduceLeDiff, Nat.reduceLT, Int.reduceToNat, Int.reduceLE, Int.reduceLT, Int.reduceEq, Int.reduceNe, Int.reduceBEq, Int.reduceBNe, Nat.reduceBEq, Nat.reduceBNe, ↓reduceIte, reduceCtorEq, ↓reduceDIte, W_draw]
        · rw [s0]; simp (config := { contextual := true, maxSteps := 10000000 }) only [c10, k1, k2, k3, k4, s0, go_sem, Nat.reduceAdd, Nat.reduceSub, Nat.reduceMul, Nat.reduceEqDiff, Nat.reduceLeDiff, Nat.reduceLT, Int.reduceToNat, Int.reduceLE, Int.reduceLT, Int.reduceEq, Int.reduceNe, Int.reduceBEq, Int.reduceBNe, Nat.reduceBEq, Nat.reduceBNe, ↓reduceIte, reduceCtorEq, ↓reduceDIte, W_draw]
      rw [if_neg (by rw [k4]; decide)]
      rcases tf (k == 5) with k5 | k5
      · rw [if_pos k5]
        rcases tf (isSign s) with w | w <;> rw [w] <;> rw [w] at p2 <;> simp (config := { contextual := true, maxSteps := 10000000 }) only [c10, k1, k2, k3, k4, k5, p2, go_sem, Nat.reduceAdd, Nat.reduceSub, Nat.reduceMul, Nat.reduceEqDiff, Nat.reduceLeDiff, Nat.reduceLT, Int.reduceToNat, Int.reduceLE, Int.reduceLT, Int.reduceEq, Int.reduceNe, Int.reduceBEq, Int.reduceBNe, Nat.reduceBEq, Nat.reduceBNe, ↓reduceIte, reduceCtorEq, ↓reduceDIte, W_draw]
      · rw [if_neg (by rw [k5]; decide)]
        simp (config := { contextual := true, maxSteps := 10000000 }) only [c10, k1, k2, k3, k4, k5, go_sem, Nat.reduceAdd, Nat.reduceSub, Nat.reduceMul, Nat.reduceEqDiff, Nat.reduceLeDiff, Nat.reduceLT, Int.reduceToNat, Int.reduceLE, Int.reduceLT, Int.reduceEq, Int.reduceNe, Int.reduceBEq, Int.reduceBNe, Nat.reduceBEq, Nat.reduceBNe, ↓reduceIte, reduceCtorEq, ↓reduceDIte, W_draw]
    · cases h
  · cases h

/-! ### Same tokens -/
def sameT (a b : List D) : Bool := (a.length == b.length) && (a.zip b).all (fun p => match p with
  | (.agg [.int _ k, .str s, .int _ n], .agg [.int _ k', .str s', .int _ n']) => (k == k') && (s == s') && (n == n')
  | _ => false)
def isTs (d : D) : Prop := isLs isTok d
open Classical in
noncomputable def φsame1 : List D → Option D
  | [a, b] => if isTs a ∧ a = b then some (.bool true) else none
  | _ => none
theorem eqa_refl (k : Int) (s : List UInt8) (n : Int) : eqCells [.int .i64 k, .str s, .int .i64 n] [.int .i64 k, .str s, .int .i64 n] = some true := by
  simp [eqCells, eqCell]
theorem isTs_erase {d : D} (h : isTs d) : d.erase = d := isLs_erase (fun _ => isTok_erase) h
set_option maxHeartbeats 4000000 in
theorem ok13 : OkAt Tryd.prog 13 φsame1 := by
  refine ok_of (l := []) .nil fn13 fun args r h => ?_
  unfold φsame1 at h
  split at h
  · rename_i a b
    split at h
    · rename_i hv
      obtain ⟨⟨n, xs, rfl, hl, hx⟩, rfl⟩ := hv
      injection h with h; subst h
      refine ⟨by simp, by simp [D.cl], fun H T => ?_⟩
      have en : ((xs.length : Int) != (xs.length : Int)) = false := by simp
      simp (config := { contextual := true, maxSteps := 10000000 }) only [c13, en, go_sem, Nat.reduceAdd, Nat.reduceSub, Nat.reduceMul, Nat.reduceEqDiff, Nat.reduceLeDiff, Nat.reduceLT, Int.reduceToNat, Int.reduceLE, Int.reduceLT, Int.reduceEq, Int.reduceNe, Int.reduceBEq, Int.reduceBNe, Nat.reduceBEq, Nat.reduceBNe, ↓reduceIte, reduceCtorEq, ↓reduceDIte, W_draw]
      refine W_for (fun i s' => s'.t 0 = sliceD n xs ∧ s'.t 1 = sliceD n xs ∧ s'.t 5 = .int .i64 (i : Nat) ∧ s'.H = H ∧ s'.T = T ∧ i ≤ xs.length) xs.length ⟨0, by simp [upd, argT]⟩ (fun i s h => h.2.2.2.2.2) ?_ (XL_mono _)
      rintro i ⟨t, B, T'⟩ ⟨r0, r1, r5, rfl, rfl, hi⟩
      simp only at r0 r1 r5
      by_cases hlt : i < xs.length
      · have d1 : decide (((i : Nat) : Int) < xs.length) = true := by simp only [decide_eq_true_eq]; omega
        have ex : xs[i]? = some xs[i] := by simp [hlt]
        obtain ⟨k, s, m, e⟩ := hx _ (List.getElem_mem hlt)
        rw [e] at ex
        simp only [mkT] at ex
        simp (config := { contextual := true, maxSteps := 10000000 }) only [r0, r1, r5, d1, ex, eqa_refl, wrap_su i (by omega), go_sem, Nat.reduceAdd, Nat.reduceSub, Nat.reduceMul, Nat.reduceEqDiff, Nat.reduceLeDiff, Nat.reduceLT, Int.reduceToNat, Int.reduceLE, Int.reduceLT, Int.reduceEq, Int.reduceNe, Int.reduceBEq, Int.reduceBNe, Nat.reduceBEq, Nat.reduceBNe, ↓reduceIte, reduceCtorEq, ↓reduceDIte, W_draw]
        omega
      · have d1 : decide (((i : Nat) : Int) < xs.length) = false := by simp only [decide_eq_false_iff_not]; omega
        simp (config := { contextual := true, maxSteps := 10000000 }) only [r0, r1, r5, d1, go_sem, Nat.reduceAdd, Nat.reduceSub, Nat.reduceMul, Nat.reduceEqDiff, Nat.reduceLeDiff, Nat.reduceLT, Int.reduceToNat, Int.reduceLE, Int.reduceLT, Int.reduceEq, Int.reduceNe, Int.reduceBEq, Int.reduceBNe, Nat.reduceBEq, Nat.reduceBNe, ↓reduceIte, reduceCtorEq, ↓reduceDIte, W_draw]
    · cases h
  · cases h

/-! ### Awake -/
def φtrueD : List D → Option D
  | [] => some (.bool true)
  | _ => none
theorem lex_awake : lexP [120, 32, 60, 61, 32, 64, 53] = ([mkT 1 [120] 0, mkT 5 [60, 61] 0, mkT 4 [] 5], 0, 0) := by kernel_rfl
theorem ok8 : OkAt Tryd.prog 8 φtrueD := by
  refine ok_of (l := [(12, φlex)]) (.cons ok12 .nil) fn8 fun args r h => ?_
  unfold φtrueD at h
  split at h
  · injection h with h; subst h
    refine ⟨by simp, by simp [D.cl], fun H T => ?_⟩
    have p : φlex [.str [120, 32, 60, 61, 32, 64, 53]] = some (.tup [.sl none [.agg [.int .i64 1, .str [120], .int .i64 0], .agg [.int .i64 5, .str [60, 61], .int .i64 0], .agg [.int .i64 4, .str [], .int .i64 5]], .int .i64 0, .int .i64 0]) := by
      simp only [φlex]; rw [if_pos (by decide), lex_awake]; rfl
    simp (config := { contextual := true, maxSteps := 10000000 }) only [c8, p, go_sem, Nat.reduceAdd, Nat.reduceSub, Nat.reduceMul, Nat.reduceEqDiff, Nat.reduceLeDiff, Nat.reduceLT, Int.reduceToNat, Int.reduceLE, Int.reduceLT, Int.reduceEq, Int.reduceNe, Int.reduceBEq, Int.reduceBNe, Nat.reduceBEq, Nat.reduceBNe, ↓reduceIte, reduceCtorEq, ↓reduceDIte, W_draw]
  · cases h
end GP
