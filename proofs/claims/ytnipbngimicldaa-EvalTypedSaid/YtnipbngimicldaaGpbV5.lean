import Derived.Test.YtnipbngimicldaaGpbV3
set_option linter.unusedSimpArgs false
namespace GP
open Go Go.Proofs
set_option maxRecDepth 100000

/-- A number of 128 bits, going round. -/
def wd (x : Int) : D := .agg [.int .i64 (IntKind.i64.wrap (x / 2 ^ 64)), .int .u64 (IntKind.u64.wrap x)]

theorem u64_eq (a : Int) : IntKind.u64.wrap a = a % 2 ^ 64 := by simp [IntKind.wrap, IntKind.bits, IntKind.signed]

theorem i64_eq (a : Int) : IntKind.i64.wrap a = if a % 2 ^ 64 ≥ 2 ^ 63 then a % 2 ^ 64 - 2 ^ 64 else a % 2 ^ 64 := by simp [IntKind.wrap, IntKind.bits, IntKind.signed]

theorem i64_congr {x y : Int} (h : x % 2 ^ 64 = y % 2 ^ 64) : IntKind.i64.wrap x = IntKind.i64.wrap y := by rw [i64_eq, i64_eq, h]

theorem i64_mod (x : Int) : IntKind.i64.wrap x % 2 ^ 64 = x % 2 ^ 64 := by rw [i64_eq]; split <;> omega

def φOf : List D → Option D
  | [.int .i64 n] => if -(2 ^ 63) ≤ n ∧ n < 2 ^ 63 then some (wd n) else none
  | _ => none

theorem ok60 : OkAt Try.prog 60 φOf := by
  refine ok_of (l := []) .nil fn60 fun args r h => ?_
  unfold φOf at h
  split at h
  · split at h
    · rename_i n hn
      injection h with h; subst h
      refine ⟨by simp, by simp [D.cl, D.clL, wd], fun H T => ?_⟩
      simp (config := { contextual := true, maxSteps := 10000000 }) only [c60, wd, go_sem, Nat.reduceAdd, Nat.reduceSub, Nat.reduceMul, Nat.reduceEqDiff, Nat.reduceLeDiff, Nat.reduceLT, Int.reduceToNat, Int.reduceLE, Int.reduceLT, Int.reduceEq, Int.reduceNe, Int.reduceBEq, Int.reduceBNe, Nat.reduceBEq, Nat.reduceBNe, ↓reduceIte, reduceCtorEq, ↓reduceDIte, W_draw]
      refine ⟨fun q => ?_, fun q => ?_⟩ <;> simp only [decide_eq_true_eq, decide_eq_false_iff_not] at q
      · have : IntKind.i64.wrap (n / 2 ^ 64) = -1 := by rw [i64_eq]; split <;> omega
        rw [this]
      · have : IntKind.i64.wrap (n / 2 ^ 64) = 0 := by rw [i64_eq]; split <;> omega
        rw [this]
    · cases h
  · cases h

def φPlus : List D → Option D
  | [.agg [.int .i64 a, .int .u64 b], .agg [.int .i64 c, .int .u64 d]] => if 0 ≤ b ∧ b < 2 ^ 64 ∧ 0 ≤ d ∧ d < 2 ^ 64 then some (wd (a * 2 ^ 64 + b + (c * 2 ^ 64 + d))) else none
  | _ => none

theorem ok62 : OkAt Try.prog 62 φPlus := by
  refine ok_of (l := []) .nil fn62 fun args r h => ?_
  unfold φPlus at h
  split at h
  · split at h
    · rename_i a b c d hb
      injection h with h; subst h
      refine ⟨by simp, by simp [D.cl, D.clL, wd], fun H T => ?_⟩
      have e1 : IntKind.u64.wrap (b + d) = IntKind.u64.wrap (a * 2 ^ 64 + b + (c * 2 ^ 64 + d)) := by rw [u64_eq, u64_eq]; omega
      simp (config := { contextual := true, maxSteps := 10000000 }) only [c62, wd, go_sem, Nat.reduceAdd, Nat.reduceSub, Nat.reduceMul, Nat.reduceEqDiff, Nat.reduceLeDiff, Nat.reduceLT, Int.reduceToNat, Int.reduceLE, Int.reduceLT, Int.reduceEq, Int.reduceNe, Int.reduceBEq, Int.reduceBNe, Nat.reduceBEq, Nat.reduceBNe, ↓reduceIte, reduceCtorEq, ↓reduceDIte, W_draw]
      refine ⟨fun q => ?_, fun q => ?_⟩ <;> simp only [decide_eq_true_eq, decide_eq_false_iff_not] at q
      · rw [e1]
        congr 3
        refine i64_congr ?_
        have k := i64_mod (IntKind.u64.wrap (IntKind.u64.wrap a + IntKind.u64.wrap c))
        generalize IntKind.i64.wrap (IntKind.u64.wrap (IntKind.u64.wrap a + IntKind.u64.wrap c)) = z at *
        simp only [u64_eq] at *
        omega
      · rw [e1]
        congr 3
        refine i64_congr ?_
        simp only [u64_eq] at *
        omega
    · cases h
  · cases h

theorem lt_of_i64 (x : Int) : -(2 ^ 63) ≤ IntKind.i64.wrap x ∧ IntKind.i64.wrap x < 2 ^ 63 := by rw [i64_eq]; split <;> omega

theorem plus_wd (x y : Int) : φPlus [wd x, wd y] = some (wd (x + y)) := by
  have hx : 0 ≤ IntKind.u64.wrap x ∧ IntKind.u64.wrap x < 2 ^ 64 := by rw [u64_eq]; omega
  have hy : 0 ≤ IntKind.u64.wrap y ∧ IntKind.u64.wrap y < 2 ^ 64 := by rw [u64_eq]; omega
  have kx := i64_mod (x / 2 ^ 64)
  have ky := i64_mod (y / 2 ^ 64)
  simp only [wd, φPlus]
  rw [if_pos ⟨hx.1, hx.2, hy.1, hy.2⟩]
  simp only [wd, Option.some.injEq, D.agg.injEq, List.cons.injEq, D.int.injEq, true_and, and_true]
  generalize IntKind.i64.wrap (x / 2 ^ 64) = a at *
  generalize IntKind.i64.wrap (y / 2 ^ 64) = b at *
  simp only [u64_eq] at *
  refine ⟨i64_congr ?_, ?_⟩
  · omega
  · omega

def φMinus : List D → Option D
  | [.agg [.int .i64 a, .int .u64 b]] => if 0 ≤ b ∧ b < 2 ^ 64 then some (wd (-(a * 2 ^ 64 + b))) else none
  | _ => none

/-- The flipped bits. -/
theorem xor_ones (n : Int) (h0 : 0 ≤ n) (h1 : n < 2 ^ 64) : un1 .xor (.int .u64 n) = some (.int .u64 (2 ^ 64 - 1 - n)) := by
  have e1 : BitVec.ofInt 64 (2 ^ 64 - 1) = BitVec.allOnes 64 := by decide
  have e2 : (BitVec.ofInt 64 n).toNat = n.toNat := by
    rw [BitVec.toNat_ofInt]; omega
  have e3 : ((BitVec.ofInt 64 (2 ^ 64 - 1) ^^^ BitVec.ofInt 64 n).toNat : Int) = 2 ^ 64 - 1 - n := by
    rw [e1, BitVec.allOnes_xor, BitVec.toNat_not, e2]; omega
  have e4 : IntKind.u64.wrap ((BitVec.ofInt 64 (2 ^ 64 - 1) ^^^ BitVec.ofInt 64 n).toNat : Int) = 2 ^ 64 - 1 - n := by
    rw [e3]; simp only [IntKind.wrap, IntKind.bits, IntKind.signed, Bool.false_and, Bool.false_eq_true, if_false]; omega
  simp only [un1, intOp, IntKind.signed, IntKind.max, IntKind.bits, Bool.false_eq_true, if_false]
  first | (rw [← e4]; rfl) | (simp only [Option.some.injEq, D.int.injEq, true_and]; exact e4)

theorem wd_congr {x y : Int} (h : x % 2 ^ 128 = y % 2 ^ 128) : wd x = wd y := by
  simp only [wd, D.agg.injEq, List.cons.injEq, D.int.injEq, true_and, and_true]
  refine ⟨i64_congr ?_, ?_⟩
  · omega
  · simp only [u64_eq]; omega

theorem ok61 : OkAt Try.prog 61 φMinus := by
  refine ok_of (l := [(62, φPlus)]) (.cons ok62 .nil) fn61 fun args r h => ?_
  unfold φMinus at h
  split at h
  · split at h
    · rename_i a b hb
      injection h with h; subst h
      refine ⟨by simp, by simp [D.cl, D.clL, wd], fun H T => ?_⟩
      have ha : 0 ≤ IntKind.u64.wrap a ∧ IntKind.u64.wrap a < 2 ^ 64 := by rw [u64_eq]; omega
      have xa := xor_ones _ ha.1 ha.2
      have xb := xor_ones b hb.1 hb.2
      have p : φPlus [.agg [.int .i64 (IntKind.i64.wrap (2 ^ 64 - 1 - IntKind.u64.wrap a)), .int .u64 (2 ^ 64 - 1 - b)], .agg [.int .i64 0, .int .u64 1]] = some (wd (-(a * 2 ^ 64 + b))) := by
        simp only [φPlus]
        rw [if_pos (by omega)]
        congr 1
        refine wd_congr ?_
        have k := i64_mod (2 ^ 64 - 1 - IntKind.u64.wrap a)
        generalize IntKind.i64.wrap (2 ^ 64 - 1 - IntKind.u64.wrap a) = z at *
        simp only [u64_eq] at *
        omega
      have E : ∀ x, (wd x).erase = wd x := fun x => by simp [wd, D.erase, D.eraseL]
      have E2 : ∀ x, wd x = .agg [.int .i64 (IntKind.i64.wrap (x / 2 ^ 64)), .int .u64 (IntKind.u64.wrap x)] := fun _ => rfl
      generalize hz : 2 ^ 64 - 1 - IntKind.u64.wrap a = z1 at *
      generalize hz2 : 2 ^ 64 - 1 - b = z2 at *
      simp (config := { contextual := true, maxSteps := 10000000 }) only [c61, xa, xb, p, go_sem, Nat.reduceAdd, Nat.reduceSub, Nat.reduceMul, Nat.reduceEqDiff, Nat.reduceLeDiff, Nat.reduceLT, Int.reduceToNat, Int.reduceLE, Int.reduceLT, Int.reduceEq, Int.reduceNe, Int.reduceBEq, Int.reduceBNe, Nat.reduceBEq, Nat.reduceBNe, ↓reduceIte, reduceCtorEq, ↓reduceDIte, W_draw]
      simp (config := { contextual := true, maxSteps := 10000000 }) only [E2, go_sem, Nat.reduceAdd, Nat.reduceSub, Nat.reduceMul, Nat.reduceEqDiff, Nat.reduceLeDiff, Nat.reduceLT, Int.reduceToNat, Int.reduceLE, Int.reduceLT, Int.reduceEq, Int.reduceNe, Int.reduceBEq, Int.reduceBNe, Nat.reduceBEq, Nat.reduceBNe, ↓reduceIte, reduceCtorEq, ↓reduceDIte, W_draw]
    · cases h
  · cases h

theorem minus_wd (x : Int) : φMinus [wd x] = some (wd (-x)) := by
  have hx : 0 ≤ IntKind.u64.wrap x ∧ IntKind.u64.wrap x < 2 ^ 64 := by rw [u64_eq]; omega
  have kx := i64_mod (x / 2 ^ 64)
  simp only [wd, φMinus]
  rw [if_pos hx]
  congr 1
  refine wd_congr ?_
  generalize IntKind.i64.wrap (x / 2 ^ 64) = a at *
  simp only [u64_eq] at *
  omega

def φFits : List D → Option D
  | [.agg [.int .i64 a, .int .u64 b]] => some (.tup [.int .i64 (IntKind.i64.wrap b), .bool ((IntKind.i64.wrap (IntKind.i64.wrap b / 2 ^ 64) == a) && (IntKind.u64.wrap (IntKind.i64.wrap b) == b))])
  | _ => none

theorem ok63 : OkAt Try.prog 63 φFits := by
  refine ok_of (l := [(60, φOf)]) (.cons ok60 .nil) fn63 fun args r h => ?_
  unfold φFits at h
  split at h
  · rename_i a b
    injection h with h; subst h
    refine ⟨by simp, by simp [D.cl, D.clL, wd], fun H T => ?_⟩
    have p : φOf [.int .i64 (IntKind.i64.wrap b)] = some (wd (IntKind.i64.wrap b)) := by
      simp only [φOf]; rw [if_pos (lt_of_i64 b)]
    simp only [wd] at p
    simp (config := { contextual := true, maxSteps := 10000000 }) only [c63, p, go_sem, Nat.reduceAdd, Nat.reduceSub, Nat.reduceMul, Nat.reduceEqDiff, Nat.reduceLeDiff, Nat.reduceLT, Int.reduceToNat, Int.reduceLE, Int.reduceLT, Int.reduceEq, Int.reduceNe, Int.reduceBEq, Int.reduceBNe, Nat.reduceBEq, Nat.reduceBNe, ↓reduceIte, reduceCtorEq, ↓reduceDIte, W_draw]
  · cases h

theorem fits_wd (x : Int) (h : -(2 ^ 127) ≤ x) (h' : x < 2 ^ 127) : φFits [wd x] = some (.tup [.int .i64 (IntKind.i64.wrap x), .bool (decide (-(2 ^ 63) ≤ x ∧ x < 2 ^ 63))]) := by
  have e : IntKind.i64.wrap (IntKind.u64.wrap x) = IntKind.i64.wrap x := i64_congr (by rw [u64_eq]; omega)
  simp only [wd, φFits, e, Option.some.injEq, D.tup.injEq, List.cons.injEq, D.bool.injEq, true_and, and_true]
  have hx := lt_of_i64 x
  have hxm := i64_mod x
  have k1 : IntKind.i64.wrap (x / 2 ^ 64) = x / 2 ^ 64 := wrap_of _ (by omega) (by omega)
  rw [k1]
  generalize IntKind.i64.wrap x = n at *
  have k2 : IntKind.i64.wrap (n / 2 ^ 64) = n / 2 ^ 64 := wrap_of _ (by omega) (by omega)
  rw [k2]
  simp only [u64_eq] at *
  rw [Bool.eq_iff_iff]
  simp only [Bool.and_eq_true, beq_iff_eq, decide_eq_true_eq]
  constructor
  · intro hh; omega
  · intro hh; omega

def lessB (a b : Int) : Bool := (decide (a < 0) == decide (b < 0)) || (decide (IntKind.i64.wrap (a - b) < 0) == decide (a < 0))

def φless : List D → Option D
  | [.int .i64 a, .int .i64 b] => some (.tup [.int .i64 (IntKind.i64.wrap (a - b)), .bool (lessB a b)])
  | _ => none

theorem ok93 : OkAt Try.prog 93 φless := by
  refine ok_of (l := []) .nil fn93 fun args r h => ?_
  unfold φless at h
  split at h
  · injection h with h; subst h
    refine ⟨by simp, by simp [D.cl, D.clL, num], fun H T => ?_⟩
    simp (config := { contextual := true, maxSteps := 10000000 }) only [c93, lessB, go_sem, Nat.reduceAdd, Nat.reduceSub, Nat.reduceMul, Nat.reduceEqDiff, Nat.reduceLeDiff, Nat.reduceLT, Int.reduceToNat, Int.reduceLE, Int.reduceLT, Int.reduceEq, Int.reduceNe, Int.reduceBEq, Int.reduceBNe, Nat.reduceBEq, Nat.reduceBNe, ↓reduceIte, reduceCtorEq, ↓reduceDIte, W_draw]
  · cases h

def inI (a : Int) : Prop := -(2 ^ 63) ≤ a ∧ a < 2 ^ 63

theorem sum_ok {a b : Int} (ha : inI a) (hb : inI b) : sumB a b = decide (-(2 ^ 63) ≤ a + b ∧ a + b < 2 ^ 63) := by
  unfold inI at ha hb
  unfold sumB
  have : IntKind.i64.wrap (a + b) = if (a + b) % 2 ^ 64 ≥ 2 ^ 63 then (a + b) % 2 ^ 64 - 2 ^ 64 else (a + b) % 2 ^ 64 := i64_eq _
  rw [this]
  rw [Bool.eq_iff_iff]
  simp only [Bool.or_eq_true, Bool.not_eq_true', beq_eq_false_iff_ne, ne_eq, beq_iff_eq, decide_eq_true_eq, decide_eq_decide]
  split <;> omega

theorem less_ok {a b : Int} (ha : inI a) (hb : inI b) : lessB a b = decide (-(2 ^ 63) ≤ a - b ∧ a - b < 2 ^ 63) := by
  unfold inI at ha hb
  unfold lessB
  have : IntKind.i64.wrap (a - b) = if (a - b) % 2 ^ 64 ≥ 2 ^ 63 then (a - b) % 2 ^ 64 - 2 ^ 64 else (a - b) % 2 ^ 64 := i64_eq _
  rw [this]
  rw [Bool.eq_iff_iff]
  simp only [Bool.or_eq_true, beq_iff_eq, decide_eq_true_eq, decide_eq_decide]
  split <;> omega

def kindR (k1 k2 : Int) (m : Bool) : Int := if (k1 == 4) && (k2 == 2) then 4 else if ((k1 == 2) && (k2 == 2)) || (m && (k1 == 4) && (k2 == 4)) then 2 else 0

def valV (k n : Int) : D := .agg [.int .i64 k, .int .i64 n, .str [], .nils]

def sumN (a b : Int) (m : Bool) : Int := if m then a - b else a + b

/-- A sum or a difference, by the chapter: its kind, the number, and its error. -/
def sumsR (k1 i1 k2 i2 : Int) (m : Bool) : D :=
  if kindR k1 k2 m == 0 then .tup [zeroV, .int .i64 6] else
  if !(decide (-(2 ^ 63) ≤ sumN i1 i2 m ∧ sumN i1 i2 m < 2 ^ 63)) || ((kindR k1 k2 m == 4) && (decide (sumN i1 i2 m < 0) || decide (1099511627776 < sumN i1 i2 m))) then .tup [zeroV, .int .i64 7] else
  .tup [valV (kindR k1 k2 m) (sumN i1 i2 m), .int .i64 0]

def φSums : List D → Option D
  | [a, b, .bool m] => if a.isV = true ∧ b.isV = true ∧ (-(2 ^ 63) ≤ vi a ∧ vi a < 2 ^ 63) ∧ (-(2 ^ 63) ≤ vi b ∧ vi b < 2 ^ 63) then some (sumsR (vk a) (vi a) (vk b) (vi b) m) else none
  | _ => none

set_option maxHeartbeats 4000000 in
theorem ok44 : OkAt Try.prog 44 φSums := by
  refine ok_of (l := [(60, φOf), (61, φMinus), (62, φPlus), (63, φFits)]) (.cons ok60 (.cons ok61 (.cons ok62 (.cons ok63 .nil)))) fn44 fun args r h => ?_
  unfold φSums at h
  split at h
  · split at h
    · rename_i a b m hab
      injection h with h; subst h
      refine ⟨by simp, by unfold sumsR; split <;> (try split) <;> simp [D.cl, D.clL, zeroV, valV], fun H T => ?_⟩
      obtain ⟨ha, hb, hi, hj⟩ := hab
      obtain ⟨k1, i1, s1, n1, xs, rfl, z1, y1, hV1⟩ := isV_elim ha
      obtain ⟨k2, i2, s2, n2, ys, rfl, z2, y2, hV2⟩ := isV_elim hb
      simp only [vi_mk] at hi hj
      simp only [vk_mk, vi_mk]
      have pa : φOf [.int .i64 i1] = some (wd i1) := by simp only [φOf]; rw [if_pos hi]
      have pb : φOf [.int .i64 i2] = some (wd i2) := by simp only [φOf]; rw [if_pos hj]
      have pm := minus_wd i2
      cases m with
      | false =>
        have pp := plus_wd i1 i2
        have pf := fits_wd (i1 + i2) (by omega) (by omega)
        have hw : decide (-(2 ^ 63) ≤ i1 + i2 ∧ i1 + i2 < 2 ^ 63) = true → IntKind.i64.wrap (i1 + i2) = i1 + i2 := fun h => by
          simp only [decide_eq_true_eq] at h; exact wrap_of _ h.1 h.2
        simp only [sumsR, sumN, Bool.false_eq_true, if_false]
        generalize decide (-(2 ^ 63) ≤ i1 + i2 ∧ i1 + i2 < 2 ^ 63) = ok at *
        simp only [wd] at pa pb pp pf
        cases ok with
        | false =>
          simp (config := { contextual := true, maxSteps := 10000000 }) only [c44, mkV, pa, pb, pp, pf, zeroV, kindR, go_sem, Nat.reduceAdd, Nat.reduceSub, Nat.reduceMul, Nat.reduceEqDiff, Nat.reduceLeDiff, Nat.reduceLT, Int.reduceToNat, Int.reduceLE, Int.reduceLT, Int.reduceEq, Int.reduceNe, Int.reduceBEq, Int.reduceBNe, Nat.reduceBEq, Nat.reduceBNe, ↓reduceIte, reduceCtorEq, ↓reduceDIte, W_draw]
          repeat' (first | apply And.intro | intro _)
          all_goals grind
        | true =>
          rw [hw rfl] at pf
          simp (config := { contextual := true, maxSteps := 10000000 }) only [c44, mkV, pa, pb, pp, pf, zeroV, valV, kindR, go_sem, Nat.reduceAdd, Nat.reduceSub, Nat.reduceMul, Nat.reduceEqDiff, Nat.reduceLeDiff, Nat.reduceLT, Int.reduceToNat, Int.reduceLE, Int.reduceLT, Int.reduceEq, Int.reduceNe, Int.reduceBEq, Int.reduceBNe, Nat.reduceBEq, Nat.reduceBNe, ↓reduceIte, reduceCtorEq, ↓reduceDIte, W_draw]
          repeat' (first | apply And.intro | intro _)
          all_goals grind
      | true =>
        have pp := plus_wd i1 (-i2)
        rw [← Int.sub_eq_add_neg] at pp
        have pf := fits_wd (i1 - i2) (by omega) (by omega)
        have hw : decide (-(2 ^ 63) ≤ i1 - i2 ∧ i1 - i2 < 2 ^ 63) = true → IntKind.i64.wrap (i1 - i2) = i1 - i2 := fun h => by
          simp only [decide_eq_true_eq] at h; exact wrap_of _ h.1 h.2
        simp only [sumsR, sumN, if_true]
        generalize decide (-(2 ^ 63) ≤ i1 - i2 ∧ i1 - i2 < 2 ^ 63) = ok at *
        simp only [wd] at pa pb pm pp pf
        cases ok with
        | false =>
          simp (config := { contextual := true, maxSteps := 10000000 }) only [c44, mkV, pa, pb, pm, pp, pf, zeroV, kindR, go_sem, Nat.reduceAdd, Nat.reduceSub, Nat.reduceMul, Nat.reduceEqDiff, Nat.reduceLeDiff, Nat.reduceLT, Int.reduceToNat, Int.reduceLE, Int.reduceLT, Int.reduceEq, Int.reduceNe, Int.reduceBEq, Int.reduceBNe, Nat.reduceBEq, Nat.reduceBNe, ↓reduceIte, reduceCtorEq, ↓reduceDIte, W_draw]
          repeat' (first | apply And.intro | intro _)
          all_goals grind
        | true =>
          rw [hw rfl] at pf
          simp (config := { contextual := true, maxSteps := 10000000 }) only [c44, mkV, pa, pb, pm, pp, pf, zeroV, valV, kindR, go_sem, Nat.reduceAdd, Nat.reduceSub, Nat.reduceMul, Nat.reduceEqDiff, Nat.reduceLeDiff, Nat.reduceLT, Int.reduceToNat, Int.reduceLE, Int.reduceLT, Int.reduceEq, Int.reduceNe, Int.reduceBEq, Int.reduceBNe, Nat.reduceBEq, Nat.reduceBNe, ↓reduceIte, reduceCtorEq, ↓reduceDIte, W_draw]
          repeat' (first | apply And.intro | intro _)
          all_goals grind
    · cases h
  · cases h

def timeOk (n : Int) (ok : Bool) : Bool := ok && decide (0 ≤ n) && decide (n ≤ 1099511627776)

def φtime : List D → Option D
  | [.int .i64 n, .bool ok] => some (.tup [if timeOk n ok then valV 4 n else zeroV, .int .i64 (if timeOk n ok then 0 else 7)])
  | _ => none

theorem ok94 : OkAt Try.prog 94 φtime := by
  refine ok_of (l := []) .nil fn94 fun args r h => ?_
  unfold φtime at h
  split at h
  · rename_i n ok
    injection h with h; subst h
    refine ⟨by simp, by split <;> simp [D.cl, D.clL, valV, zeroV], fun H T => ?_⟩
    have ht : timeOk n ok = (ok && decide (0 ≤ n) && decide (n ≤ 1099511627776)) := rfl
    rw [ht]
    cases ok <;> simp (config := { contextual := true, maxSteps := 10000000 }) only [c94, valV, zeroV, go_sem, Nat.reduceAdd, Nat.reduceSub, Nat.reduceMul, Nat.reduceEqDiff, Nat.reduceLeDiff, Nat.reduceLT, Int.reduceToNat, Int.reduceLE, Int.reduceLT, Int.reduceEq, Int.reduceNe, Int.reduceBEq, Int.reduceBNe, Nat.reduceBEq, Nat.reduceBNe, ↓reduceIte, reduceCtorEq, ↓reduceDIte, W_draw]
    repeat' (first | apply And.intro | intro _)
    all_goals grind
  · cases h

/-- A number or a time, or their error. -/
def outN (n : Int) (ok : Bool) : D := .tup [if ok then num n else zeroV, .int .i64 (if ok then 0 else 7)]

def outT (n : Int) (ok : Bool) : D := .tup [if timeOk n ok then valV 4 n else zeroV, .int .i64 (if timeOk n ok then 0 else 7)]

def addV (fa fb : Bool) (k1 i1 k2 i2 : Int) : D :=
  if !fa || !fb then .tup [zeroV, .int .i64 1] else
  if (k1 == 2) && (k2 == 2) then outN (IntKind.i64.wrap (i1 + i2)) (sumB i1 i2) else
  if (k1 == 4) && (k2 == 2) then outT (IntKind.i64.wrap (i1 + i2)) (sumB i1 i2) else .tup [zeroV, .int .i64 6]

def subV (fa fb : Bool) (k1 i1 k2 i2 : Int) : D :=
  if !fa || !fb then .tup [zeroV, .int .i64 1] else
  if ((k1 == 2) && (k2 == 2)) || ((k1 == 4) && (k2 == 4)) then outN (IntKind.i64.wrap (i1 - i2)) (lessB i1 i2) else
  if (k1 == 4) && (k2 == 2) then outT (IntKind.i64.wrap (i1 - i2)) (lessB i1 i2) else .tup [zeroV, .int .i64 6]

def φAdd : List D → Option D
  | [a, b] => if a.isV = true ∧ b.isV = true then some (addV (formedB a) (formedB b) (vk a) (vi a) (vk b) (vi b)) else none
  | _ => none

def φSub : List D → Option D
  | [a, b] => if a.isV = true ∧ b.isV = true then some (subV (formedB a) (formedB b) (vk a) (vi a) (vk b) (vi b)) else none
  | _ => none

set_option maxHeartbeats 4000000 in
theorem ok77 : OkAt Try.prog 77 φAdd := by
  refine ok_of (l := [(40, φFormed), (91, φkinds), (95, φsum), (92, φnumber), (94, φtime)]) (.cons ok40 (.cons ok91 (.cons ok95 (.cons ok92 (.cons ok94 .nil))))) fn77 fun args r h => ?_
  unfold φAdd at h
  split at h
  · split at h
    · rename_i a b hab
      injection h with h; subst h
      refine ⟨by simp, by unfold addV outN outT; (repeat' split) <;> simp [D.cl, D.clL, zeroV, valV, num], fun H T => ?_⟩
      obtain ⟨ha, hb⟩ := hab
      have pa : φFormed [a] = some (.bool (formedB a)) := by simp [φFormed, ha, formed_same]
      have pb : φFormed [b] = some (.bool (formedB b)) := by simp [φFormed, hb, formed_same]
      generalize formedB a = fa at *
      generalize formedB b = fb at *
      obtain ⟨k1, i1, s1, n1, xs, rfl, z1, y1, hV1⟩ := isV_elim ha
      obtain ⟨k2, i2, s2, n2, ys, rfl, z2, y2, hV2⟩ := isV_elim hb
      have r1 := erase_of_isV hV1
      have r2 := erase_of_isV hV2
      simp only [vk_mk, vi_mk]
      simp only [mkV] at pa pb
      generalize hw : IntKind.i64.wrap (i1 + i2) = w
      cases fa with
      | false => simp (config := { contextual := true, maxSteps := 10000000 }) only [c77, mkV, r1, r2, pa, pb, addV, zeroV, go_sem, Nat.reduceAdd, Nat.reduceSub, Nat.reduceMul, Nat.reduceEqDiff, Nat.reduceLeDiff, Nat.reduceLT, Int.reduceToNat, Int.reduceLE, Int.reduceLT, Int.reduceEq, Int.reduceNe, Int.reduceBEq, Int.reduceBNe, Nat.reduceBEq, Nat.reduceBNe, ↓reduceIte, reduceCtorEq, ↓reduceDIte, W_draw]
      | true =>
        cases fb with
        | false => simp (config := { contextual := true, maxSteps := 10000000 }) only [c77, mkV, r1, r2, pa, pb, addV, zeroV, go_sem, Nat.reduceAdd, Nat.reduceSub, Nat.reduceMul, Nat.reduceEqDiff, Nat.reduceLeDiff, Nat.reduceLT, Int.reduceToNat, Int.reduceLE, Int.reduceLT, Int.reduceEq, Int.reduceNe, Int.reduceBEq, Int.reduceBNe, Nat.reduceBEq, Nat.reduceBNe, ↓reduceIte, reduceCtorEq, ↓reduceDIte, W_draw]
        | true =>
          cases hk1 : (k1 == 2) <;> cases hk2 : (k2 == 2) <;> cases hk4 : (k1 == 4) <;> cases hs : sumB i1 i2 <;> cases ht : timeOk w (sumB i1 i2) <;> rw [hs] at ht <;>
            simp (config := { contextual := true, maxSteps := 10000000 }) only [c77, mkV, r1, r2, pa, pb, addV, outN, outT, zeroV, num, valV, φkinds, φsum, φnumber, φtime, hk1, hk2, hk4, hs, hw, ht, go_sem, Nat.reduceAdd, Nat.reduceSub, Nat.reduceMul, Nat.reduceEqDiff, Nat.reduceLeDiff, Nat.reduceLT, Int.reduceToNat, Int.reduceLE, Int.reduceLT, Int.reduceEq, Int.reduceNe, Int.reduceBEq, Int.reduceBNe, Nat.reduceBEq, Nat.reduceBNe, ↓reduceIte, reduceCtorEq, ↓reduceDIte, W_draw]
    · cases h
  · cases h

set_option maxHeartbeats 4000000 in
theorem ok75 : OkAt Try.prog 75 φSub := by
  refine ok_of (l := [(40, φFormed), (91, φkinds), (93, φless), (92, φnumber), (94, φtime)]) (.cons ok40 (.cons ok91 (.cons ok93 (.cons ok92 (.cons ok94 .nil))))) fn75 fun args r h => ?_
  unfold φSub at h
  split at h
  · split at h
    · rename_i a b hab
      injection h with h; subst h
      refine ⟨by simp, by unfold subV outN outT; (repeat' split) <;> simp [D.cl, D.clL, zeroV, valV, num], fun H T => ?_⟩
      obtain ⟨ha, hb⟩ := hab
      have pa : φFormed [a] = some (.bool (formedB a)) := by simp [φFormed, ha, formed_same]
      have pb : φFormed [b] = some (.bool (formedB b)) := by simp [φFormed, hb, formed_same]
      generalize formedB a = fa at *
      generalize formedB b = fb at *
      obtain ⟨k1, i1, s1, n1, xs, rfl, z1, y1, hV1⟩ := isV_elim ha
      obtain ⟨k2, i2, s2, n2, ys, rfl, z2, y2, hV2⟩ := isV_elim hb
      have r1 := erase_of_isV hV1
      have r2 := erase_of_isV hV2
      simp only [vk_mk, vi_mk]
      simp only [mkV] at pa pb
      generalize hw : IntKind.i64.wrap (i1 - i2) = w
      cases fa with
      | false => simp (config := { contextual := true, maxSteps := 10000000 }) only [c75, mkV, r1, r2, pa, pb, subV, zeroV, go_sem, Nat.reduceAdd, Nat.reduceSub, Nat.reduceMul, Nat.reduceEqDiff, Nat.reduceLeDiff, Nat.reduceLT, Int.reduceToNat, Int.reduceLE, Int.reduceLT, Int.reduceEq, Int.reduceNe, Int.reduceBEq, Int.reduceBNe, Nat.reduceBEq, Nat.reduceBNe, ↓reduceIte, reduceCtorEq, ↓reduceDIte, W_draw]
      | true =>
        cases fb with
        | false => simp (config := { contextual := true, maxSteps := 10000000 }) only [c75, mkV, r1, r2, pa, pb, subV, zeroV, go_sem, Nat.reduceAdd, Nat.reduceSub, Nat.reduceMul, Nat.reduceEqDiff, Nat.reduceLeDiff, Nat.reduceLT, Int.reduceToNat, Int.reduceLE, Int.reduceLT, Int.reduceEq, Int.reduceNe, Int.reduceBEq, Int.reduceBNe, Nat.reduceBEq, Nat.reduceBNe, ↓reduceIte, reduceCtorEq, ↓reduceDIte, W_draw]
        | true =>
          cases hk1 : (k1 == 2) <;> cases hk2 : (k2 == 2) <;> cases hk4 : (k1 == 4) <;> cases hk5 : (k2 == 4) <;> cases hs : lessB i1 i2 <;> cases ht : timeOk w (lessB i1 i2) <;> rw [hs] at ht <;>
            simp (config := { contextual := true, maxSteps := 10000000 }) only [c75, mkV, r1, r2, pa, pb, subV, outN, outT, zeroV, num, valV, φkinds, φless, φnumber, φtime, hk1, hk2, hk4, hk5, hs, hw, ht, go_sem, Nat.reduceAdd, Nat.reduceSub, Nat.reduceMul, Nat.reduceEqDiff, Nat.reduceLeDiff, Nat.reduceLT, Int.reduceToNat, Int.reduceLE, Int.reduceLT, Int.reduceEq, Int.reduceNe, Int.reduceBEq, Int.reduceBNe, Nat.reduceBEq, Nat.reduceBNe, ↓reduceIte, reduceCtorEq, ↓reduceDIte, W_draw]
    · cases h
  · cases h

/-- How great a number is, without its sign. -/
def absI (n : Int) : Int := if n < 0 then -n else n

def φsize : List D → Option D
  | [.int .i64 n] => if -(2 ^ 63) ≤ n ∧ n < 2 ^ 63 then some (.int .u64 (absI n)) else none
  | _ => none

theorem ok103 : OkAt Try.prog 103 φsize := by
  refine ok_of (l := []) .nil fn103 fun args r h => ?_
  unfold φsize at h
  split at h
  · split at h
    · rename_i n hn
      injection h with h; subst h
      refine ⟨by simp, by simp [D.cl], fun H T => ?_⟩
      simp (config := { contextual := true, maxSteps := 10000000 }) only [c103, u64_eq, go_sem, Nat.reduceAdd, Nat.reduceSub, Nat.reduceMul, Nat.reduceEqDiff, Nat.reduceLeDiff, Nat.reduceLT, Int.reduceToNat, Int.reduceLE, Int.reduceLT, Int.reduceEq, Int.reduceNe, Int.reduceBEq, Int.reduceBNe, Nat.reduceBEq, Nat.reduceBNe, ↓reduceIte, reduceCtorEq, ↓reduceDIte, W_draw]
      refine ⟨fun q => ?_, fun q => ?_⟩ <;> simp only [decide_eq_true_eq, decide_eq_false_iff_not] at q <;> simp only [D.int.injEq, true_and, absI]
      · rw [if_pos q]; omega
      · rw [if_neg q]; omega
    · cases h
  · cases h
end GP
