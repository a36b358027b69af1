import Derived.Test.YtnipbngimicldaaDoorGpdT
import Derived.Test.YtnipbngimicldaaDoorGpdP
import Derived.Lib.ParseIntBCases
set_option linter.unusedSimpArgs false
/- Numbers; tokens. -/
namespace GP
open Go Go.Proofs
set_option maxRecDepth 100000

/-! ### Numbers -/
def isDig (b : UInt8) : Bool := pDigit (b.toNat : Int)
theorem isDig_iff {b : UInt8} : isDig b = true ↔ 48 ≤ b.toNat ∧ b.toNat ≤ 57 := by
  unfold isDig pDigit; simp only [Bool.and_eq_true, decide_eq_true_eq]; omega
def decA (acc : Nat) (l : List UInt8) : Nat := l.foldl (fun n b => n * 10 + (b.toNat - 48)) acc
def decV (l : List UInt8) : Nat := decA 0 l
theorem pow_step (n : Nat) : 10 ^ (n + 1) = 10 ^ n * 10 := Nat.pow_succ 10 n
theorem uint_digits : ∀ (l : List UInt8) (acc : Nat), (∀ b ∈ l, isDig b = true) → (acc + 1) * 10 ^ l.length ≤ 10 ^ 19 → Lib.parseUintM (2 ^ 64 - 1) acc l = .ok (decA acc l) ∧ decA acc l + 1 ≤ (acc + 1) * 10 ^ l.length
  | [], acc, _, _ => by simp [Lib.parseUintM, decA]
  | c :: r, acc, hd, hb => by
    have hc := isDig_iff.1 (hd c (by simp))
    simp only [List.length_cons, pow_step] at hb ⊢
    have hp : 1 ≤ 10 ^ r.length := Nat.one_le_pow _ _ (by decide)
    have h2 : (acc * 10 + (c.toNat - 48) + 1) * 10 ^ r.length ≤ (acc + 1) * (10 ^ r.length * 10) := by
      have : acc * 10 + (c.toNat - 48) + 1 ≤ (acc + 1) * 10 := by omega
      calc (acc * 10 + (c.toNat - 48) + 1) * 10 ^ r.length ≤ ((acc + 1) * 10) * 10 ^ r.length := Nat.mul_le_mul_right _ this
        _ = (acc + 1) * (10 ^ r.length * 10) := by rw [Nat.mul_assoc, Nat.mul_comm 10]
    have h1 : acc + 1 ≤ 10 ^ 18 := by
      have : (acc + 1) * 10 ≤ (acc + 1) * (10 ^ r.length * 10) := Nat.mul_le_mul_left _ (by omega)
      omega
    obtain ⟨i1, i2⟩ := uint_digits r (acc * 10 + (c.toNat - 48)) (fun b hb => hd b (by simp [hb])) (Nat.le_trans h2 hb)
    refine ⟨?_, Nat.le_trans i2 h2⟩
    simp only [Lib.parseUintM]
    rw [if_pos hc, if_neg (by omega), if_neg (by omega)]
    exact i1
theorem decV_lt {l : List UInt8} (hd : ∀ b ∈ l, isDig b = true) (h2 : l.length ≤ 19) : decV l < 10 ^ l.length := by
  have := (uint_digits l 0 hd (by simpa using Nat.pow_le_pow_right (by decide) h2)).2
  unfold decV; omega
theorem int_digits {l : List UInt8} (hd : ∀ b ∈ l, isDig b = true) (h1 : 1 ≤ l.length) (h2 : l.length ≤ 19) :
    Lib.parseIntB 64 l = (if decV l < 2 ^ 63 then .ok (decV l : Int) else .range) ∧ Lib.intSat 64 l = 2 ^ 63 - 1 := by
  cases l with
  | nil => simp at h1
  | cons c r =>
    have hc := isDig_iff.1 (hd c (by simp))
    have hu := (uint_digits (c :: r) 0 hd (by simpa using Nat.pow_le_pow_right (n := 10) (by decide) h2)).1
    refine ⟨?_, by rw [Lib.intSat_other 64 c r (by omega)]; decide⟩
    rw [Lib.parseIntB_plain 64 c r (by omega) (by omega)]
    unfold Lib.parseUintB
    rw [if_neg (by simp), hu]
    unfold decV
    by_cases h : decA 0 (c :: r) < 2 ^ 63
    · rw [if_pos h]; simp only [Lib.signlessC]; rw [if_neg (by simpa using h)]
    · rw [if_neg h]; simp only [Lib.signlessC]; rw [if_pos (by simp; omega)]
def pintD (l : List UInt8) : D := if decide (decV l < 2 ^ 63) then .tup [.int .i64 (decV l : Int), .nili] else .tup [.int .i64 9223372036854775807, .ifc 100 .top]
open Classical in
noncomputable def φpint : List D → Option D
  | [.str l, .int .i64 b, .int .i64 z] => if b = 10 ∧ z = 64 ∧ (∀ b ∈ l, isDig b = true) ∧ 1 ≤ l.length ∧ l.length ≤ 19 then some (pintD l) else none
  | _ => none
theorem reps3 {c : Cx} {l : List UInt8} {a b : Int} {vs : List Value} (h : Reps c [.str l, .int .i64 a, .int .i64 b] vs) : vs = [.string ⟨l.toArray⟩, .int .i64 a, .int .i64 b] := by
  match vs, h.len with
  | [x, y, z], _ =>
    have h1 := h.rep 0 (by simp) (by simp)
    have h2 := h.rep 1 (by simp) (by simp)
    have h3 := h.rep 2 (by simp) (by simp)
    simp only [List.getElem_cons_zero, List.getElem_cons_succ] at h1 h2 h3
    cases h1; cases h2; cases h3; rfl
theorem below_bytes (w : World) (t : TypeId) (s : ByteArray) : Below w.heap.size w (Lib.bytesWorld w t s) := Below.of_kit (Lib.bytesWorld_below w t s)
theorem ok50 : OkAt Tryd.prog 50 φpint := by
  refine ok_lib fun args r h c w vs hg hr => ?_
  unfold φpint at h
  split at h
  · rename_i l b z
    split at h
    · rename_i hv
      obtain ⟨rfl, rfl, hd, h1, h2⟩ := hv
      injection h with h; subst h
      have e := reps3 hr
      subst e
      obtain ⟨i1, i2⟩ := int_digits hd h1 h2
      have e50 : ∀ args w, (callFunc 50 args).run Tryd.prog w = .ok (.enter 50 args) w := enters_of Tryd.func50 (by kernel_rfl) rfl
      refine ⟨e50 _ _, ?_⟩
      have hsz : (⟨l.toArray⟩ : ByteArray).size = l.length := by simp [ByteArray.size]
      have hdl : (⟨l.toArray⟩ : ByteArray).data.toList = l := by simp
      by_cases hlt : decV l < 2 ^ 63
      · rw [if_pos hlt] at i1
        refine (Tryd.parse_ok ⟨l.toArray⟩ (by rw [hsz]; omega) (decV l) (by rw [hdl]; exact i1) w).mono ?_
        rintro e w' ⟨rfl, hw⟩
        refine ⟨_, rfl, ?_, ?_⟩
        · unfold pintD; rw [if_pos (by simpa using hlt)]
          refine Rep.tup [.int .i64 (decV l : Int), .nili] [.int .i64 (decV l : Int), .nilIface] rfl fun i h h' => ?_
          match i, h with
          | 0, _ => exact .int _ _
          | 1, _ => exact .nili
        · rcases hw with rfl | ⟨t, rfl⟩
          · exact Below.refl _ _
          · exact below_bytes w 5 t
      · rw [if_neg hlt] at i1
        obtain ⟨_, _, te, pe, hev⟩ := hg
        refine (Tryd.parse_range ⟨l.toArray⟩ (by rw [hsz]; omega) (by rw [hdl]; exact i1) (.iface te pe) w hev (.inr ⟨te, pe, rfl⟩)).mono ?_
        rintro e w' ⟨N, rfl, _, _, hb⟩
        refine ⟨_, rfl, ?_, Below.of_kit hb⟩
        unfold pintD; rw [if_neg (by simpa using hlt), hdl, i2]
        refine Rep.tup [.int .i64 9223372036854775807, .ifc 100 .top] [.int .i64 (2 ^ 63 - 1), .iface 100 (.pointer (some ⟨N, 0, none⟩))] rfl fun i h h' => ?_
        match i, h with
        | 0, _ => exact .int _ _
        | 1, _ => exact .ifc _ _ _ (.top _)
    · cases h
  · cases h

theorem eq1_ifc0 : eq1D .ifc .nili .nili = some true := rfl
theorem eq1_ifc1 (t : TypeId) (d : D) : eq1D .ifc (.ifc t d) .nili = some false := rfl
def badN (l : List UInt8) (a n : Nat) : Bool := decide (n < 1) || decide (19 < n) || (match l[a + n]? with | some b => pSmall b.toNat | none => false)
/-- A number that begins at a place, and how many bytes it has. -/
def numP (l : List UInt8) (a : Nat) (most : Int) : Int × Nat :=
  if badN l a (runN pDigit l a) || decide (most < (decV (subList l a (a + runN pDigit l a)) : Int)) then (0, 0) else ((decV (subList l a (a + runN pDigit l a)) : Int), runN pDigit l a)
def tupN (p : Int × Nat) : D := .tup [.int .i64 p.1, .int .i64 (p.2 : Nat)]
theorem tupN_cl (p : Int × Nat) : (tupN p).cl 0 0 = true := by simp [tupN, D.cl, D.clL]
def φnum : List D → Option D
  | [.str l, .int .i64 a, .int .i64 most] => if 0 ≤ a ∧ a ≤ l.length ∧ l.length ≤ 2 ^ 60 ∧ most < 2 ^ 63 then some (tupN (numP l a.toNat most)) else none
  | _ => none
theorem run_all {p : Int → Bool} : ∀ (l : List UInt8), ∀ b ∈ l.take (runL p l), p b.toNat = true
  | [], b, h => by simp at h
  | c :: r, b, h => by
    unfold runL at h
    simp only [List.takeWhile_cons] at h
    split at h
    · rename_i hc
      simp only [List.length_cons, List.take_succ_cons, List.mem_cons] at h
      rcases h with rfl | h
      · exact hc
      · exact run_all r b h
    · simp at h
theorem sub_drop (l : List UInt8) (a n : Nat) : subList l a (a + n) = (l.drop a).take n := by
  unfold subList; rw [List.drop_take]; congr 1; omega
theorem sub_digits (l : List UInt8) (a : Nat) : ∀ b ∈ subList l a (a + runN pDigit l a), isDig b = true := by
  rw [sub_drop]; exact run_all (p := pDigit) (l.drop a)
theorem sub_len {l : List UInt8} {a n : Nat} (h : a + n ≤ l.length) : (subList l a (a + n)).length = n := by
  rw [sub_drop]; simp; omega
set_option maxHeartbeats 4000000 in
theorem ok40 : OkAt Tryd.prog 40 φnum := by
  refine ok_of (l := [(25, φrun), (27, φb pSmall), (50, φpint)]) (.cons ok25 (.cons ok27 (.cons ok50 .nil))) fn40 fun args r h => ?_
  unfold φnum at h
  split at h
  · rename_i l a most
    split at h
    · rename_i hc
      obtain ⟨ha0, ha, hl, hm⟩ := hc
      injection h with h; subst h
      obtain ⟨a, rfl⟩ : ∃ k : Nat, a = (k : Int) := ⟨a.toNat, by omega⟩
      have ha : a ≤ l.length := by omega
      refine ⟨by simp, tupN_cl _, fun H T => ?_⟩
      rw [show ((a : Int)).toNat = a from by omega]
      have pr : φrun [.str l, .int .i64 (a : Int), .fn 28 [] []] = some (.int .i64 (runN pDigit l a : Nat)) := by
        simp only [φrun]; rw [show sorts 28 = some pDigit from rfl]; simp only; rw [if_pos ⟨by omega, by omega, by omega⟩]; simp
      have hle := runN_le pDigit l a ha
      have hdg := sub_digits l a
      have hsl := sub_len hle
      unfold numP badN
      obtain ⟨n, hn⟩ : ∃ n, runN pDigit l a = n := ⟨_, rfl⟩
      rw [hn] at pr hle hdg hsl ⊢
      have wS : IntKind.i64.wrap ((a : Int) + (n : Int)) = ((a + n : Nat) : Int) := by rw [wrap_in (by omega) (by omega)]; omega
      by_cases n1 : n < 1
      · have d1 : decide ((n : Int) < 1) = true := by simp only [decide_eq_true_eq]; omega
        rw [if_pos (by simp [n1])]
        simp (config := { contextual := true, maxSteps := 10000000 }) only [c40, pr, d1, tupN, go_sem, Nat.reduceAdd, Nat.reduceSub, Nat.reduceMul, Nat.reduceEqDiff, Nat.reduceLeDiff, Nat.reduceLT, Int.reduceToNat, Int.reduceLE, Int.reduceLT, Int.reduceEq, Int.reduceNe, Int.reduceBEq, Int.reduceBNe, Nat.reduceBEq, Nat.reduceBNe, ↓reduceIte, reduceCtorEq, ↓reduceDIte, W_draw]
      have d1 : decide ((n : Int) < 1) = false := by simp only [decide_eq_false_iff_not]; omega
      by_cases n2 : 19 < n
      · have d2 : decide ((19 : Int) < n) = true := by simp only [decide_eq_true_eq]; omega
        rw [if_pos (by simp [n2])]
        simp (config := { contextual := true, maxSteps := 10000000 }) only [c40, pr, d1, d2, tupN, go_sem, Nat.reduceAdd, Nat.reduceSub, Nat.reduceMul, Nat.reduceEqDiff, Nat.reduceLeDiff, Nat.reduceLT, Int.reduceToNat, Int.reduceLE, Int.reduceLT, Int.reduceEq, Int.reduceNe, Int.reduceBEq, Int.reduceBNe, Nat.reduceBEq, Nat.reduceBNe, ↓reduceIte, reduceCtorEq, ↓reduceDIte, W_draw]
      have d2 : decide ((19 : Int) < n) = false := by simp only [decide_eq_false_iff_not]; omega
      have pi : φpint [.str (subList l a (a + n)), .int .i64 10, .int .i64 64] = some (pintD (subList l a (a + n))) := by
        simp only [φpint]; rw [if_pos ⟨trivial, trivial, hdg, by omega, by omega⟩]
      have hs : sub (some (a : Int)) (some ((a + n : Nat) : Int)) (.str l) = some (.str (subList l a (a + n))) := by
        rw [sub_s, if_pos ⟨by omega, by omega, by omega⟩, show (((a + n : Nat) : Int)).toNat = a + n from by omega, show ((a : Int)).toNat = a from by omega]
      have last : ∀ (hb : (match l[a + n]? with | some b => pSmall b.toNat | none => false) = false), (if (decide (n < 1) || decide (19 < n) || (match l[a + n]? with | some b => pSmall b.toNat | none => false)) || decide (most < (decV (subList l a (a + n)) : Int)) then ((0, 0) : Int × Nat) else ((decV (subList l a (a + n)) : Int), n)) = if decide (most < (decV (subList l a (a + n)) : Int)) then (0, 0) else ((decV (subList l a (a + n)) : Int), n) := fun hb => by
        rw [hb]; simp [n1, n2]
      have big : ¬ decV (subList l a (a + n)) < 2 ^ 63 → decide (most < (decV (subList l a (a + n)) : Int)) = true := fun h => by simp only [decide_eq_true_eq]; omega
      obtain ⟨v, hv⟩ : ∃ v, decV (subList l a (a + n)) = v := ⟨_, rfl⟩
      unfold pintD at pi
      rw [hv] at pi last big ⊢
      clear hv
      by_cases n3 : a + n < l.length
      · have d3 : decide (((a + n : Nat) : Int) < l.length) = true := by simp only [decide_eq_true_eq]; omega
        have ex : l[a + n]? = some l[a + n] := by simp [n3]
        obtain ⟨b, hb⟩ : ∃ b, l[a + n] = b := ⟨_, rfl⟩
        rw [hb] at ex
        rw [ex] at last ⊢
        simp only at last ⊢
        have ix := fun q => ixs_at ex q
        have q : φb pSmall [.int .u8 (b.toNat : Int)] = some (.bool (pSmall b.toNat)) := rfl
        rcases tf (pSmall (b.toNat : Int)) with g | g
        · rw [if_pos (by simp [g])]
          simp (config := { contextual := true, maxSteps := 10000000 }) only [c40, pr, d1, d2, wS, d3, ix, q, g, tupN, go_sem, Nat.reduceAdd, Nat.reduceSub, Nat.reduceMul, Nat.reduceEqDiff, Nat.reduceLeDiff, Nat.reduceLT, Int.reduceToNat, Int.reduceLE, Int.reduceLT, Int.reduceEq, Int.reduceNe, Int.reduceBEq, Int.reduceBNe, Nat.reduceBEq, Nat.reduceBNe, ↓reduceIte, reduceCtorEq, ↓reduceDIte, W_draw]
        · rw [last g]
          by_cases hlt : v < 2 ^ 63
          · rw [if_pos (by simpa using hlt)] at pi
            rcases tf (decide (most < (v : Int))) with g2 | g2
            · rw [g2]; simp (config := { contextual := true, maxSteps := 10000000 }) only [c40, pr, d1, d2, wS, d3, ix, q, g, hs, pi, eq1_ifc0, eq1_ifc1, g2, tupN, go_sem, Nat.reduceAdd, Nat.reduceSub, Nat.reduceMul, Nat.reduceEqDiff, Nat.reduceLeDiff, Nat.reduceLT, Int.reduceToNat, Int.reduceLE, Int.reduceLT, Int.reduceEq, Int.reduceNe, Int.reduceBEq, Int.reduceBNe, Nat.reduceBEq, Nat.reduceBNe, ↓reduceIte, reduceCtorEq, ↓reduceDIte, W_draw]
            · rw [g2]; simp (config := { contextual := true, maxSteps := 10000000 }) only [c40, pr, d1, d2, wS, d3, ix, q, g, hs, pi, eq1_ifc0, eq1_ifc1, g2, tupN, go_sem, Nat.reduceAdd, Nat.reduceSub, Nat.reduceMul, Nat.reduceEqDiff, Nat.reduceLeDiff, Nat.reduceLT, Int.reduceToNat, Int.reduceLE, Int.reduceLT, Int.reduceEq, Int.reduceNe, Int.reduceBEq, Int.reduceBNe, Nat.reduceBEq, Nat.reduceBNe, ↓reduceIte, reduceCtorEq, ↓reduceDIte, W_draw]
          · rw [if_neg (by simpa using hlt)] at pi
            rw [big hlt]
            simp (config := { contextual := true, maxSteps := 10000000 }) only [c40, pr, d1, d2, wS, d3, ix, q, g, hs, pi, eq1_ifc0, eq1_ifc1, tupN, go_sem, Nat.reduceAdd, Nat.reduceSub, Nat.reduceMul, Nat.reduceEqDiff, Nat.reduceLeDiff, Nat.reduceLT, Int.reduceToNat, Int.reduceLE, Int.reduceLT, Int.reduceEq, Int.reduceNe, Int.reduceBEq, Int.reduceBNe, Nat.reduceBEq, Nat.reduceBNe, ↓reduceIte, reduceCtorEq, ↓reduceDIte, W_draw]
      · have d3 : decide (((a + n : Nat) : Int) < l.length) = false := by simp only [decide_eq_false_iff_not]; omega
        have ex : l[a + n]? = none := List.getElem?_eq_none (by omega)
        rw [ex] at last ⊢
        simp only at last ⊢
        rw [last trivial]
        by_cases hlt : v < 2 ^ 63
        · rw [if_pos (by simpa using hlt)] at pi
          rcases tf (decide (most < (v : Int))) with g2 | g2
          · rw [g2]; simp (config := { contextual := true, maxSteps := 10000000 }) only [c40, pr, d1, d2, wS, d3, hs, pi, eq1_ifc0, eq1_ifc1, g2, tupN, go_sem, Nat.reduceAdd, Nat.reduceSub, Nat.reduceMul, Nat.reduceEqDiff, Nat.reduceLeDiff, Nat.reduceLT, Int.reduceToNat, Int.reduceLE, Int.reduceLT, Int.reduceEq, Int.reduceNe, Int.reduceBEq, Int.reduceBNe, Nat.reduceBEq, Nat.reduceBNe, ↓reduceIte, reduceCtorEq, ↓reduceDIte, W_draw]
          · rw [g2]; simp (config := { contextual := true, maxSteps := 10000000 }) only [c40, pr, d1, d2, wS, d3, hs, pi, eq1_ifc0, eq1_ifc1, g2, tupN, go_sem, Nat.reduceAdd, Nat.reduceSub, Nat.reduceMul, Nat.reduceEqDiff, Nat.reduceLeDiff, Nat.reduceLT, Int.reduceToNat, Int.reduceLE, Int.reduceLT, Int.reduceEq, Int.reduceNe, Int.reduceBEq, Int.reduceBNe, Nat.reduceBEq, Nat.reduceBNe, ↓reduceIte, reduceCtorEq, ↓reduceDIte, W_draw]
        · rw [if_neg (by simpa using hlt)] at pi
          rw [big hlt]
          simp (config := { contextual := true, maxSteps := 10000000 }) only [c40, pr, d1, d2, wS, d3, hs, pi, eq1_ifc0, eq1_ifc1, tupN, go_sem, Nat.reduceAdd, Nat.reduceSub, Nat.reduceMul, Nat.reduceEqDiff, Nat.reduceLeDiff, Nat.reduceLT, Int.reduceToNat, Int.reduceLE, Int.reduceLT, Int.reduceEq, Int.reduceNe, Int.reduceBEq, Int.reduceBNe, Nat.reduceBEq, Nat.reduceBNe, ↓reduceIte, reduceCtorEq, ↓reduceDIte, W_draw]
    · cases h
  · cases h
end GP
