import Derived.Lib.Bytealg
import Derived.Conc.EntryLaws
import Derived.Test.YtnipbngimicldaaGpbc0
import Derived.Test.YtnipbngimicldaaGpbc0
import Derived.Test.YtnipbngimicldaaGpbc0
import Derived.Test.YtnipbngimicldaaGpbc3
import Derived.Test.YtnipbngimicldaaGpbc3
import Derived.Test.YtnipbngimicldaaGpbc3
import Derived.Test.YtnipbngimicldaaGpbc3
set_option linter.unusedSimpArgs false
namespace GP
open Go Go.Proofs
set_option maxRecDepth 100000

def zeroV : D := .agg [.int .i64 0, .int .i64 0, .str [], .nils]

def num (n : Int) : D := .agg [.int .i64 2, .int .i64 n, .str [], .nils]

def φTruth : List D → Option D
  | [.bool b] => some (.agg [.int .i64 1, .int .i64 (if b then 1 else 0), .str [], .nils])
  | _ => none

def φNumber : List D → Option D
  | [.int .i64 n] => some (num n)
  | _ => none

theorem ok72 : OkAt Try.prog 72 φTruth := by
  refine ok_of (l := []) Ok.nil fn72 fun args r h => ?_
  unfold φTruth at h
  split at h
  · injection h with h; subst h
    refine ⟨by simp, by simp [D.cl, D.clL], fun H T => ?_⟩
    rename_i b
    cases b <;> simp (config := { contextual := true, maxSteps := 10000000 }) only [c72, go_sem, Nat.reduceAdd, Nat.reduceSub, Nat.reduceMul, Nat.reduceEqDiff, Nat.reduceLeDiff, Nat.reduceLT, Int.reduceToNat, Int.reduceLE, Int.reduceLT, Int.reduceEq, Int.reduceNe, Int.reduceBEq, Int.reduceBNe, Nat.reduceBEq, Nat.reduceBNe, ↓reduceIte, reduceCtorEq, ↓reduceDIte, W_draw]
  · cases h

theorem ok76 : OkAt Try.prog 76 φNumber := by
  refine ok_of (l := []) Ok.nil fn76 fun args r h => ?_
  unfold φNumber at h
  split at h
  · injection h with h; subst h
    refine ⟨by simp, by simp [D.cl, D.clL, num], fun H T => ?_⟩
    simp (config := { contextual := true, maxSteps := 10000000 }) only [c76, num, go_sem, Nat.reduceAdd, Nat.reduceSub, Nat.reduceMul, Nat.reduceEqDiff, Nat.reduceLeDiff, Nat.reduceLT, Int.reduceToNat, Int.reduceLE, Int.reduceLT, Int.reduceEq, Int.reduceNe, Int.reduceBEq, Int.reduceBNe, Nat.reduceBEq, Nat.reduceBNe, ↓reduceIte, reduceCtorEq, ↓reduceDIte, W_draw]
  · cases h

def plainB (k i : Int) (s : List UInt8) (n : Nat) : Bool :=
  if decide ((0 : Int) < n) then false else if (k != 3) && (s != []) then false else
  if k == 0 then i == 0 else if k == 1 then i == 0 || i == 1 else if k == 2 then true else
  if k == 3 then i == 0 && decide ((s.length : Int) ≤ 64) else if k == 4 then decide (0 ≤ i) && decide (i ≤ 1099511627776) else false

def φplain : List D → Option D
  | [.agg [.int .i64 k, .int .i64 i, .str s, l]] => match lenD l with
    | some n => some (.bool (plainB k i s n))
    | none => none
  | _ => none

theorem lenD_okc {l : D} {n : Nat} (h : lenD l = some n) : l.okc = true ∧ l.cells = [l] := by
  cases l <;> simp [lenD] at h <;> exact ⟨rfl, rfl⟩

theorem ok58 : OkAt Try.prog 58 φplain := by
  refine ok_of (l := []) Ok.nil fn58 fun args r h => ?_
  unfold φplain at h
  split at h
  · split at h
    · rename_i k i s l n hn
      injection h with h; subst h
      refine ⟨by simp, by simp [D.cl, D.clL, num], fun H T => ?_⟩
      have hl := lenD_okc hn
      simp (config := { contextual := true, maxSteps := 10000000 }) only [c58, plainB, hn, hl.1, hl.2, go_sem, Nat.reduceAdd, Nat.reduceSub, Nat.reduceMul, Nat.reduceEqDiff, Nat.reduceLeDiff, Nat.reduceLT, Int.reduceToNat, Int.reduceLE, Int.reduceLT, Int.reduceEq, Int.reduceNe, Int.reduceBEq, Int.reduceBNe, Nat.reduceBEq, Nat.reduceBNe, ↓reduceIte, reduceCtorEq, ↓reduceDIte, W_draw]
    · cases h
  · cases h

/-- Formed, of what is no bag. -/
def φformed1 : List D → Option D
  | [.agg [.int .i64 k, .int .i64 i, .str s, l]] => if k = 5 then none else match lenD l with
    | some n => some (.bool (plainB k i s n))
    | none => none
  | _ => none

theorem ok40a : OkAt Try.prog 40 φformed1 := by
  refine ok_of (l := [(58, φplain)]) (.cons ok58 .nil) fn40 fun args r h => ?_
  unfold φformed1 at h
  split at h
  · split at h
    · cases h
    · split at h
      · rename_i k i s l hk _ n hn
        injection h with h; subst h
        refine ⟨by simp, by simp [D.cl, D.clL, num], fun H T => ?_⟩
        have hl := lenD_okc hn
        have hk' : (k != 5) = true := by simpa using hk
        have he : lenD l.erase = some n := by cases l <;> simp [lenD, D.erase, eraseL_len] at hn ⊢ <;> exact hn
        simp (config := { contextual := true, maxSteps := 10000000 }) only [c40, φplain, hn, hl.1, hl.2, hk', he, go_sem, Nat.reduceAdd, Nat.reduceSub, Nat.reduceMul, Nat.reduceEqDiff, Nat.reduceLeDiff, Nat.reduceLT, Int.reduceToNat, Int.reduceLE, Int.reduceLT, Int.reduceEq, Int.reduceNe, Int.reduceBEq, Int.reduceBNe, Nat.reduceBEq, Nat.reduceBNe, ↓reduceIte, reduceCtorEq, ↓reduceDIte, W_draw]
      · cases h
  · cases h

def φkinds : List D → Option D
  | [.agg [.int .i64 k, _, _, _], .agg [.int .i64 k', _, _, _]] => some (.agg [.int .i64 k, .int .i64 k'])
  | _ => none

theorem ok91 : OkAt Try.prog 91 φkinds := by
  refine ok_of (l := []) Ok.nil fn91 fun args r h => ?_
  unfold φkinds at h
  split at h
  · injection h with h; subst h
    refine ⟨by simp, by simp [D.cl, D.clL, num], fun H T => ?_⟩
    simp (config := { contextual := true, maxSteps := 10000000 }) only [c91, go_sem, Nat.reduceAdd, Nat.reduceSub, Nat.reduceMul, Nat.reduceEqDiff, Nat.reduceLeDiff, Nat.reduceLT, Int.reduceToNat, Int.reduceLE, Int.reduceLT, Int.reduceEq, Int.reduceNe, Int.reduceBEq, Int.reduceBNe, Nat.reduceBEq, Nat.reduceBNe, ↓reduceIte, reduceCtorEq, ↓reduceDIte, W_draw]
  · cases h

def φnumber : List D → Option D
  | [.int .i64 n, .bool ok] => some (.tup [if ok then num n else zeroV, .int .i64 (if ok then 0 else 7)])
  | _ => none

theorem ok92 : OkAt Try.prog 92 φnumber := by
  refine ok_of (l := [(76, φNumber)]) (.cons ok76 .nil) fn92 fun args r h => ?_
  unfold φnumber at h
  split at h
  · injection h with h; subst h
    rename_i n ok
    refine ⟨by simp, by cases ok <;> simp [D.cl, D.clL, num, zeroV], fun H T => ?_⟩
    cases ok <;> simp (config := { contextual := true, maxSteps := 10000000 }) only [c92, φNumber, num, zeroV, go_sem, Nat.reduceAdd, Nat.reduceSub, Nat.reduceMul, Nat.reduceEqDiff, Nat.reduceLeDiff, Nat.reduceLT, Int.reduceToNat, Int.reduceLE, Int.reduceLT, Int.reduceEq, Int.reduceNe, Int.reduceBEq, Int.reduceBNe, Nat.reduceBEq, Nat.reduceBNe, ↓reduceIte, reduceCtorEq, ↓reduceDIte, W_draw]
  · cases h

/-- Sum, and whether it can be. -/
def sumB (a b : Int) : Bool := !(decide (a < 0) == decide (b < 0)) || (decide (IntKind.i64.wrap (a + b) < 0) == decide (a < 0))

def φsum : List D → Option D
  | [.int .i64 a, .int .i64 b] => some (.tup [.int .i64 (IntKind.i64.wrap (a + b)), .bool (sumB a b)])
  | _ => none

theorem ok95 : OkAt Try.prog 95 φsum := by
  refine ok_of (l := []) Ok.nil fn95 fun args r h => ?_
  unfold φsum at h
  split at h
  · injection h with h; subst h
    refine ⟨by simp, by simp [D.cl, D.clL, num], fun H T => ?_⟩
    simp (config := { contextual := true, maxSteps := 10000000 }) only [c95, sumB, go_sem, Nat.reduceAdd, Nat.reduceSub, Nat.reduceMul, Nat.reduceEqDiff, Nat.reduceLeDiff, Nat.reduceLT, Int.reduceToNat, Int.reduceLE, Int.reduceLT, Int.reduceEq, Int.reduceNe, Int.reduceBEq, Int.reduceBNe, Nat.reduceBEq, Nat.reduceBNe, ↓reduceIte, reduceCtorEq, ↓reduceDIte, W_draw]
  · cases h

theorem wrap_of (a : Int) (h : -(2 ^ 63) ≤ a) (h' : a < 2 ^ 63) : IntKind.i64.wrap a = a := by
  have e : IntKind.i64.wrap a = if a % (2 ^ 64 : Int) ≥ (2 ^ 63 : Int) then a % (2 ^ 64 : Int) - (2 ^ 64 : Int) else a % (2 ^ 64 : Int) := by
    simp [IntKind.wrap, IntKind.bits, IntKind.signed]
  rw [e]
  split <;> omega

theorem wrap_nat (n : Nat) (h : n < 2 ^ 62) : IntKind.i64.wrap (n : Int) = n := wrap_of _ (by omega) (by omega)

theorem wrap_succ (n : Nat) (h : n < 2 ^ 61) : IntKind.i64.wrap ((n : Int) + 1) = ((n + 1 : Nat) : Int) := by
  have := wrap_nat (n + 1) (by omega)
  rw [← this]; simp

@[go_sem] theorem ixs_nat (s : List UInt8) (k : IntKind) (i : Nat) : ixs (.str s) (.int k (i : Int)) = (s[i]?).map fun b => .int .u8 (b.toNat : Int) := by
  simp [ixs]

def cmpI (a b : Int) : Int := if a < b then -1 else if b < a then 1 else 0

def cmpS : List UInt8 → List UInt8 → Int
  | [], [] => 0
  | [], _ :: _ => -1
  | _ :: _, [] => 1
  | x :: a, y :: b => if x.toNat < y.toNat then -1 else if y.toNat < x.toNat then 1 else cmpS a b

def φnumbers : List D → Option D
  | [.int .i64 a, .int .i64 b] => some (.int .i64 (cmpI a b))
  | _ => none

theorem ok56 : OkAt Try.prog 56 φnumbers := by
  refine ok_of (l := []) Ok.nil fn56 fun args r h => ?_
  unfold φnumbers at h
  split at h
  · injection h with h; subst h
    refine ⟨by simp, by simp [D.cl], fun H T => ?_⟩
    simp (config := { contextual := true, maxSteps := 10000000 }) only [c56, cmpI, go_sem, Nat.reduceAdd, Nat.reduceSub, Nat.reduceMul, Nat.reduceEqDiff, Nat.reduceLeDiff, Nat.reduceLT, Int.reduceToNat, Int.reduceLE, Int.reduceLT, Int.reduceEq, Int.reduceNe, Int.reduceBEq, Int.reduceBNe, Nat.reduceBEq, Nat.reduceBNe, ↓reduceIte, reduceCtorEq, ↓reduceDIte, W_draw]
    simp
    omega
  · cases h

def φTexts : List D → Option D
  | [.str a, .str b] => if a.length ≤ 2 ^ 47 ∧ b.length ≤ 2 ^ 47 then some (.int .i64 (cmpS a b)) else none
  | _ => none

theorem ok57 : OkAt Try.prog 57 φTexts := by
  refine ok_of (l := []) Ok.nil fn57 fun args r h => ?_
  unfold φTexts at h
  split at h
  · split at h
    · rename_i a b hl
      injection h with h; subst h
      refine ⟨by simp, by simp [D.cl], fun H T => ?_⟩
      simp (config := { contextual := true, maxSteps := 10000000 }) only [c57, go_sem, Nat.reduceAdd, Nat.reduceSub, Nat.reduceMul, Nat.reduceEqDiff, Nat.reduceLeDiff, Nat.reduceLT, Int.reduceToNat, Int.reduceLE, Int.reduceLT, Int.reduceEq, Int.reduceNe, Int.reduceBEq, Int.reduceBNe, Nat.reduceBEq, Nat.reduceBNe, ↓reduceIte, reduceCtorEq, ↓reduceDIte, W_draw]
      refine W_for (fun i s => s.t 0 = .str a ∧ s.t 1 = .str b ∧ s.t 5 = .int .i64 i ∧ s.H = H ∧ s.T = T ∧ i ≤ a.length ∧ i ≤ b.length ∧ cmpS (a.drop i) (b.drop i) = cmpS a b) a.length ⟨0, by simp [upd, argT]⟩ (fun i s h => h.2.2.2.2.2.1) ?_ (XL_mono _)
      rintro i ⟨t, H', T'⟩ ⟨h0, h1, h5, rfl, rfl, hi, hj, hc⟩
      simp only at h0 h1 h5
      by_cases ha : i < a.length
      · by_cases hb : i < b.length
        · have d1 : decide ((i : Int) < a.length) = true := by simpa using ha
          have d2 : decide ((i : Int) < b.length) = true := by simpa using hb
          have e1 : a[i]? = some a[i] := by simp [ha]
          have e2 : b[i]? = some b[i] := by simp [hb]
          rw [List.drop_eq_getElem_cons ha, List.drop_eq_getElem_cons hb, cmpS] at hc
          simp (config := { contextual := true, maxSteps := 10000000 }) only [h0, h1, h5, d1, d2, e1, e2, wrap_succ i (by omega), go_sem, Nat.reduceAdd, Nat.reduceSub, Nat.reduceMul, Nat.reduceEqDiff, Nat.reduceLeDiff, Nat.reduceLT, Int.reduceToNat, Int.reduceLE, Int.reduceLT, Int.reduceEq, Int.reduceNe, Int.reduceBEq, Int.reduceBNe, Nat.reduceBEq, Nat.reduceBNe, ↓reduceIte, reduceCtorEq, ↓reduceDIte, W_draw]
          refine ⟨fun h => ?_, fun h => ⟨fun h' => ?_, fun h' => ⟨by omega, by omega, ?_⟩⟩⟩ <;> simp only [decide_eq_true_eq, decide_eq_false_iff_not] at h <;> (try simp only [decide_eq_true_eq, decide_eq_false_iff_not] at h')
          · rw [if_pos (by omega)] at hc; rw [hc]
          · rw [if_neg (by omega), if_pos (by omega)] at hc; rw [hc]
          · rw [if_neg (by omega), if_neg (by omega)] at hc; exact hc
        · have d1 : decide ((i : Int) < a.length) = true := by simpa using ha
          have d2 : decide ((i : Int) < b.length) = false := by simpa using hb
          have d3 : decide ((a.length : Int) < b.length) = false := by simp; omega
          have d4 : decide ((b.length : Int) < a.length) = true := by simp; omega
          rw [List.drop_eq_getElem_cons ha, List.drop_eq_nil_of_le (by omega : b.length ≤ i), cmpS] at hc
          simp (config := { contextual := true, maxSteps := 10000000 }) only [h0, h1, h5, d1, d2, d3, d4, ← hc, go_sem, Nat.reduceAdd, Nat.reduceSub, Nat.reduceMul, Nat.reduceEqDiff, Nat.reduceLeDiff, Nat.reduceLT, Int.reduceToNat, Int.reduceLE, Int.reduceLT, Int.reduceEq, Int.reduceNe, Int.reduceBEq, Int.reduceBNe, Nat.reduceBEq, Nat.reduceBNe, ↓reduceIte, reduceCtorEq, ↓reduceDIte, W_draw]
      · have d1 : decide ((i : Int) < a.length) = false := by simpa using ha
        have d3 : decide ((b.length : Int) < a.length) = false := by simp; omega
        rw [List.drop_eq_nil_of_le (by omega : a.length ≤ i)] at hc
        by_cases hb : i < b.length
        · have d4 : decide ((a.length : Int) < b.length) = true := by simp; omega
          rw [List.drop_eq_getElem_cons hb, cmpS] at hc
          simp (config := { contextual := true, maxSteps := 10000000 }) only [h0, h1, h5, d1, d3, d4, ← hc, go_sem, Nat.reduceAdd, Nat.reduceSub, Nat.reduceMul, Nat.reduceEqDiff, Nat.reduceLeDiff, Nat.reduceLT, Int.reduceToNat, Int.reduceLE, Int.reduceLT, Int.reduceEq, Int.reduceNe, Int.reduceBEq, Int.reduceBNe, Nat.reduceBEq, Nat.reduceBNe, ↓reduceIte, reduceCtorEq, ↓reduceDIte, W_draw]
        · have d4 : decide ((a.length : Int) < b.length) = false := by simp; omega
          rw [List.drop_eq_nil_of_le (by omega : b.length ≤ i), cmpS] at hc
          simp (config := { contextual := true, maxSteps := 10000000 }) only [h0, h1, h5, d1, d3, d4, ← hc, go_sem, Nat.reduceAdd, Nat.reduceSub, Nat.reduceMul, Nat.reduceEqDiff, Nat.reduceLeDiff, Nat.reduceLT, Int.reduceToNat, Int.reduceLE, Int.reduceLT, Int.reduceEq, Int.reduceNe, Int.reduceBEq, Int.reduceBNe, Nat.reduceBEq, Nat.reduceBNe, ↓reduceIte, reduceCtorEq, ↓reduceDIte, W_draw]
    · cases h
  · cases h

theorem body105 : Try.f105.body.isNone = true := by kernel_rfl

theorem name105 : (Try.f105.name == "runtime.NumGoroutine") = false := by kernel_rfl

theorem next105 : Extern.findNext Try.f105 = none := by kernel_rfl

theorem find105 : Extern.find Try.f105 = some Extern.BytealgCompare.compare := by rfl

theorem cmpS_eq : ∀ (a b : List UInt8), Lib.compareBytes a b = cmpS a b
  | [], [] => rfl
  | [], _ :: _ => rfl
  | _ :: _, [] => rfl
  | x :: a, y :: b => by
    simp only [Lib.compareBytes, cmpS, UInt8.lt_iff_toNat_lt, cmpS_eq a b]

def φcmp : List D → Option D
  | [.str a, .str b] => some (.int .i64 (cmpS a b))
  | _ => none

theorem ok105 : OkAt Try.prog 105 φcmp := by
  intro args r hr args' he H T Q hQ
  unfold φcmp at hr
  split at hr
  · rename_i a b
    injection hr with hr; subst hr
    intro c w vs hi hT hrep
    have h := hrep.erase
    rw [he] at h
    match vs, h.len with
    | [v1, v2], _ =>
      have h1 : Rep c (.str a) v1 := h.rep 0 (by simp) (by simp)
      have h2 : Rep c (.str b) v2 := h.rep 1 (by simp) (by simp)
      cases h1; cases h2
      refine .inr ⟨.int .i64 (cmpS a b), w, ?_, ?_⟩
      · rw [run_callFunc_extern Try.func105 name105 body105 next105 find105]
        have := Lib.run_compareString (P := Try.prog) ⟨a.toArray⟩ ⟨b.toArray⟩ w
        rw [cmpS_eq] at this
        simp only at this
        rw [this]; rfl
      · exact ⟨_, rfl, _, H, T, c, hQ, .int _ _, hi, Cx.le.refl c, hT, Below.refl _ _⟩
  · cases hr

theorem ok101 : OkAt Try.prog 101 φcmp := by
  refine ok_of (l := [(105, φcmp)]) (.cons ok105 .nil) fn101 fun args r h => ?_
  unfold φcmp at h
  split at h
  · injection h with h; subst h
    refine ⟨by simp, by simp [D.cl], fun H T => ?_⟩
    simp (config := { contextual := true, maxSteps := 10000000 }) only [c101, φcmp, go_sem, Nat.reduceAdd, Nat.reduceSub, Nat.reduceMul, Nat.reduceEqDiff, Nat.reduceLeDiff, Nat.reduceLT, Int.reduceToNat, Int.reduceLE, Int.reduceLT, Int.reduceEq, Int.reduceNe, Int.reduceBEq, Int.reduceBNe, Nat.reduceBEq, Nat.reduceBNe, ↓reduceIte, reduceCtorEq, ↓reduceDIte, W_draw]
  · cases h

theorem ok85 : OkAt Try.prog 85 φcmp := by
  refine ok_of (l := [(101, φcmp)]) (.cons ok101 .nil) fn85 fun args r h => ?_
  unfold φcmp at h
  split at h
  · injection h with h; subst h
    refine ⟨by simp, by simp [D.cl], fun H T => ?_⟩
    simp (config := { contextual := true, maxSteps := 10000000 }) only [c85, φcmp, go_sem, Nat.reduceAdd, Nat.reduceSub, Nat.reduceMul, Nat.reduceEqDiff, Nat.reduceLeDiff, Nat.reduceLT, Int.reduceToNat, Int.reduceLE, Int.reduceLT, Int.reduceEq, Int.reduceNe, Int.reduceBEq, Int.reduceBNe, Nat.reduceBEq, Nat.reduceBNe, ↓reduceIte, reduceCtorEq, ↓reduceDIte, W_draw]
  · cases h

def φnan : List D → Option D
  | [.int .i64 _] => some (.bool false)
  | _ => none

theorem ok99 : OkAt Try.prog 99 φnan := by
  refine ok_of (l := []) .nil fn99 fun args r h => ?_
  unfold φnan at h
  split at h
  · injection h with h; subst h
    refine ⟨by simp, by simp [D.cl], fun H T => ?_⟩
    simp (config := { contextual := true, maxSteps := 10000000 }) only [c99, go_sem, Nat.reduceAdd, Nat.reduceSub, Nat.reduceMul, Nat.reduceEqDiff, Nat.reduceLeDiff, Nat.reduceLT, Int.reduceToNat, Int.reduceLE, Int.reduceLT, Int.reduceEq, Int.reduceNe, Int.reduceBEq, Int.reduceBNe, Nat.reduceBEq, Nat.reduceBNe, ↓reduceIte, reduceCtorEq, ↓reduceDIte, W_draw]
  · cases h

theorem ok100 : OkAt Try.prog 100 φnan := by
  refine ok_of (l := []) .nil fn100 fun args r h => ?_
  unfold φnan at h
  split at h
  · injection h with h; subst h
    refine ⟨by simp, by simp [D.cl], fun H T => ?_⟩
    simp (config := { contextual := true, maxSteps := 10000000 }) only [c100, go_sem, Nat.reduceAdd, Nat.reduceSub, Nat.reduceMul, Nat.reduceEqDiff, Nat.reduceLeDiff, Nat.reduceLT, Int.reduceToNat, Int.reduceLE, Int.reduceLT, Int.reduceEq, Int.reduceNe, Int.reduceBEq, Int.reduceBNe, Nat.reduceBEq, Nat.reduceBNe, ↓reduceIte, reduceCtorEq, ↓reduceDIte, W_draw]
  · cases h

theorem ok83 : OkAt Try.prog 83 φnumbers := by
  refine ok_of (l := [(99, φnan)]) (.cons ok99 .nil) fn83 fun args r h => ?_
  unfold φnumbers at h
  split at h
  · injection h with h; subst h
    refine ⟨by simp, by simp [D.cl], fun H T => ?_⟩
    simp (config := { contextual := true, maxSteps := 10000000 }) only [c83, φnan, cmpI, go_sem, Nat.reduceAdd, Nat.reduceSub, Nat.reduceMul, Nat.reduceEqDiff, Nat.reduceLeDiff, Nat.reduceLT, Int.reduceToNat, Int.reduceLE, Int.reduceLT, Int.reduceEq, Int.reduceNe, Int.reduceBEq, Int.reduceBNe, Nat.reduceBEq, Nat.reduceBNe, ↓reduceIte, reduceCtorEq, ↓reduceDIte, W_draw]
    simp
    omega
  · cases h

theorem ok84 : OkAt Try.prog 84 φnumbers := by
  refine ok_of (l := [(100, φnan)]) (.cons ok100 .nil) fn84 fun args r h => ?_
  unfold φnumbers at h
  split at h
  · injection h with h; subst h
    refine ⟨by simp, by simp [D.cl], fun H T => ?_⟩
    simp (config := { contextual := true, maxSteps := 10000000 }) only [c84, φnan, cmpI, go_sem, Nat.reduceAdd, Nat.reduceSub, Nat.reduceMul, Nat.reduceEqDiff, Nat.reduceLeDiff, Nat.reduceLT, Int.reduceToNat, Int.reduceLE, Int.reduceLT, Int.reduceEq, Int.reduceNe, Int.reduceBEq, Int.reduceBNe, Nat.reduceBEq, Nat.reduceBNe, ↓reduceIte, reduceCtorEq, ↓reduceDIte, W_draw]
    simp
    omega
  · cases h

def φone : List D → Option D
  | [.agg [.int .i64 k, .int .i64 i, .str s, l]] => match lenD l with
    | some n => some (.bool (plainB k i s n))
    | none => none
  | _ => none

theorem ok37 : OkAt Try.prog 37 φone := by
  refine ok_of (l := []) Ok.nil fn37 fun args r h => ?_
  unfold φone at h
  split at h
  · split at h
    · rename_i k i s l n hn
      injection h with h; subst h
      refine ⟨by simp, by simp [D.cl, D.clL, num], fun H T => ?_⟩
      have hl := lenD_okc hn
      simp (config := { contextual := true, maxSteps := 10000000 }) only [c37, hn, hl.1, hl.2, go_sem, Nat.reduceAdd, Nat.reduceSub, Nat.reduceMul, Nat.reduceEqDiff, Nat.reduceLeDiff, Nat.reduceLT, Int.reduceToNat, Int.reduceLE, Int.reduceLT, Int.reduceEq, Int.reduceNe, Int.reduceBEq, Int.reduceBNe, Nat.reduceBEq, Nat.reduceBNe, ↓reduceIte, reduceCtorEq, ↓reduceDIte, W_draw]
      repeat' (first | apply And.intro | intro _)
      all_goals grind [plainB]
    · cases h
  · cases h

/-- Of two that are no bags. -/
def singleI (k i : Int) (s : List UInt8) (k' i' : Int) (s' : List UInt8) : Int :=
  if k != k' then cmpI k k' else if k == 3 then cmpS s s' else cmpI i i'

def φsingle : List D → Option D
  | [.agg [.int .i64 k, .int .i64 i, .str s, l], .agg [.int .i64 k', .int .i64 i', .str s', l']] => if s.length ≤ 2 ^ 47 ∧ s'.length ≤ 2 ^ 47 ∧ (lenD l).isSome ∧ (lenD l').isSome then some (.int .i64 (singleI k i s k' i' s')) else none
  | _ => none

theorem ok38 : OkAt Try.prog 38 φsingle := by
  refine ok_of (l := [(56, φnumbers), (57, φTexts)]) (.cons ok56 (.cons ok57 .nil)) fn38 fun args r h => ?_
  unfold φsingle at h
  split at h
  · split at h
    · rename_i hl
      injection h with h; subst h
      refine ⟨by simp, by simp [D.cl, D.clL, num], fun H T => ?_⟩
      obtain ⟨h1, h2, h3, h4⟩ := hl
      obtain ⟨n, hn⟩ := Option.isSome_iff_exists.1 h3
      obtain ⟨n', hn'⟩ := Option.isSome_iff_exists.1 h4
      have hl := lenD_okc hn
      have hl' := lenD_okc hn'
      simp (config := { contextual := true, maxSteps := 10000000 }) only [c38, φnumbers, φTexts, singleI, hn, hl.1, hl.2, hn', hl'.1, hl'.2, h1, h2, go_sem, Nat.reduceAdd, Nat.reduceSub, Nat.reduceMul, Nat.reduceEqDiff, Nat.reduceLeDiff, Nat.reduceLT, Int.reduceToNat, Int.reduceLE, Int.reduceLT, Int.reduceEq, Int.reduceNe, Int.reduceBEq, Int.reduceBNe, Nat.reduceBEq, Nat.reduceBNe, ↓reduceIte, reduceCtorEq, ↓reduceDIte, W_draw]
    · cases h
  · cases h

@[go_sem high] theorem ia_nat (sz : Nat) (b : Bool) (xs : List D) (k : IntKind) (i : Nat) : ia sz (sliceD b xs) (.int k (i : Int)) = iaE sz xs[i]? := by
  rw [ia_sliceD]; simp

@[go_sem high] theorem ia_nat' (sz : Nat) (t : Option Nat) (xs : List D) (k : IntKind) (i : Nat) : ia sz (.sl t xs) (.int k (i : Int)) = iaE sz xs[i]? := by
  rw [ia_sl]; simp

theorem isSl_elim {l : D} (h : isSl l = true) : ∃ b, l = sliceD b (elems l) := by
  unfold isSl at h
  split at h
  · exact ⟨true, rfl⟩
  · exact ⟨false, rfl⟩
  · cases h

@[go_sem] theorem isSl_sliceD (b : Bool) (xs : List D) : isSl (sliceD b xs) = true := by
  rcases sliceD_cases b xs with ⟨h, _⟩ | h <;> rw [h] <;> rfl

theorem all_take_succ {p : D → Bool} {xs : List D} {i : Nat} {e : D} (h : xs[i]? = some e) : (xs.take (i + 1)).all p = ((xs.take i).all p && p e) := by
  rw [List.take_add_one, h]; simp

theorem all_false_of {p : D → Bool} {xs : List D} {i m : Nat} {e : D} (h : xs[i]? = some e) (hp : p e = false) (him : i < m) : (xs.take m).all p = false := by
  cases hq : (xs.take m).all p with
  | false => rfl
  | true =>
    have hm : e ∈ xs.take m := by
      refine List.mem_of_getElem? (i := i) ?_
      rw [List.getElem?_take_of_lt him]; exact h
    rw [List.all_eq_true.1 hq e hm] at hp; cases hp

def leafFew (e : D) : Bool := decide ((vs e).length ≤ 200) && decide ((vl e).length = 0)

def few1 (d : D) : Bool := decide ((vs d).length ≤ 200) && decide ((vl d).length ≤ 30) && (vl d).all leafFew

def fewB (xs : List D) (n : Int) : Bool := (xs.take 100).all few1 && decide ((xs.length : Int) ≤ n)

def φFew : List D → Option D
  | [l, .int .i64 n] => if isSl l = true ∧ D.isVs (elems l) = true ∧ (elems l).length ≤ 2 ^ 47 then some (.bool (fewB (elems l) n)) else none
  | _ => none

theorem ok19 : OkAt Try.prog 19 φFew := by
  refine ok_of (l := []) .nil fn19 fun args r h => ?_
  unfold φFew at h
  split at h
  · split at h
    · rename_i l n hl
      injection h with h; subst h
      refine ⟨by simp, by simp [D.cl], fun H T => ?_⟩
      obtain ⟨hl1, hl2, hl3⟩ := hl
      obtain ⟨b, hb⟩ := isSl_elim hl1
      generalize elems l = xs at hb hl2 hl3
      subst hb
      have hV := isVs_iff.1 hl2
      simp (config := { contextual := true, maxSteps := 10000000 }) only [c19, go_sem, Nat.reduceAdd, Nat.reduceSub, Nat.reduceMul, Nat.reduceEqDiff, Nat.reduceLeDiff, Nat.reduceLT, Int.reduceToNat, Int.reduceLE, Int.reduceLT, Int.reduceEq, Int.reduceNe, Int.reduceBEq, Int.reduceBNe, Nat.reduceBEq, Nat.reduceBNe, ↓reduceIte, reduceCtorEq, ↓reduceDIte, W_draw]
      refine W_for (fun i s => s.t 0 = sliceD b xs ∧ s.t 1 = .int .i64 n ∧ s.t 5 = .int .i64 i ∧ s.H = H ∧ s.T = T ∧ i ≤ 100 ∧ i ≤ xs.length ∧ (xs.take i).all few1 = true) 100 ⟨0, by simp [upd, argT]⟩ (fun i s h => h.2.2.2.2.2.1) ?_ (XL_mono _)
      rintro i ⟨t, H', T'⟩ ⟨h0, h1, h5, rfl, rfl, hi, hj, hc⟩
      simp only at h0 h1 h5
      by_cases ha : i < xs.length ∧ i < 100
      · obtain ⟨ha, hb'⟩ := ha
        have d1 : decide ((i : Int) < xs.length) = true := by simpa using ha
        have d2 : decide ((i : Int) < 100) = true := by simp; omega
        obtain ⟨k, i', s, m, l', he, hs1, hs2, hV'⟩ := isV_elim (hV _ (List.getElem_mem ha))
        have e1 : xs[i]? = some (mkV k i' s m l') := by rw [← he]; simp [ha]
        simp (config := { contextual := true, maxSteps := 10000000 }) only [h0, h1, h5, d1, d2, e1, mkV, go_sem, Nat.reduceAdd, Nat.reduceSub, Nat.reduceMul, Nat.reduceEqDiff, Nat.reduceLeDiff, Nat.reduceLT, Int.reduceToNat, Int.reduceLE, Int.reduceLT, Int.reduceEq, Int.reduceNe, Int.reduceBEq, Int.reduceBNe, Nat.reduceBEq, Nat.reduceBNe, ↓reduceIte, reduceCtorEq, ↓reduceDIte, W_draw]
        have f1 : few1 (mkV k i' s m l') = (decide (s.length ≤ 200) && decide (l'.length ≤ 30) && l'.all leafFew) := by simp only [few1, vs_mk, vl_mk]
        have bad : few1 (mkV k i' s m l') = false → fewB xs n = false := fun h => by simp only [fewB, all_false_of e1 h hb', Bool.false_and]
        refine ⟨fun q => ?_, fun q1 => ⟨fun q => ?_, fun q2 => ?_⟩⟩
        · rw [bad]; rw [f1]; simp at q ⊢; omega
        · rw [bad]; rw [f1]; simp at q ⊢; omega
        · refine W_for (fun j s => s.t 0 = sliceD b xs ∧ s.t 1 = .int .i64 n ∧ s.t 5 = .int .i64 i ∧ s.t 6 = .int .i64 j ∧ s.H = H' ∧ s.T = T' ∧ j ≤ l'.length ∧ (l'.take j).all leafFew = true) l'.length ⟨0, by simp [upd, h0, h1, h5]⟩ (fun i s h => h.2.2.2.2.2.2.1) ?_ (XL_mono _)
          rintro j ⟨t, H', T'⟩ ⟨h0, h1, h5, h6, rfl, rfl, hj2, hc2⟩
          simp only at h0 h1 h5 h6
          by_cases hb2 : j < l'.length
          · have d3 : decide ((j : Int) < l'.length) = true := by simpa using hb2
            obtain ⟨k2, i2, s2, m2, l2, he2, hs21, hs22, hV2⟩ := isV_elim (hV' _ (List.getElem_mem hb2))
            have e2 : l'[j]? = some (mkV k2 i2 s2 m2 l2) := by rw [← he2]; simp [hb2]
            have f2 : leafFew (mkV k2 i2 s2 m2 l2) = (decide (s2.length ≤ 200) && decide (l2.length = 0)) := by simp only [leafFew, vs_mk, vl_mk]
            have bad2 : leafFew (mkV k2 i2 s2 m2 l2) = false → fewB xs n = false := fun h => bad (by
              have hm : l'.all leafFew = false := by
                have := all_false_of e2 h hb2
                rwa [List.take_length] at this
              rw [f1, hm, Bool.and_false])
            simp (config := { contextual := true, maxSteps := 10000000 }) only [h0, h1, h5, h6, d3, e1, e2, mkV, wrap_succ j (by omega), go_sem, Nat.reduceAdd, Nat.reduceSub, Nat.reduceMul, Nat.reduceEqDiff, Nat.reduceLeDiff, Nat.reduceLT, Int.reduceToNat, Int.reduceLE, Int.reduceLT, Int.reduceEq, Int.reduceNe, Int.reduceBEq, Int.reduceBNe, Nat.reduceBEq, Nat.reduceBNe, ↓reduceIte, reduceCtorEq, ↓reduceDIte, W_draw]
            refine ⟨fun q => ?_, fun q1 => ⟨fun q => ?_, fun q2 => ⟨by omega, ?_⟩⟩⟩
            · rw [bad2]; rw [f2]; simp at q ⊢; omega
            · rw [bad2]; rw [f2]; simp only [decide_eq_true_eq, Bool.and_eq_false_iff, decide_eq_false_iff_not] at q ⊢; omega
            · rw [all_take_succ e2, hc2, f2]; simp only [decide_eq_true_eq, Bool.and_eq_true, decide_eq_false_iff_not, true_and] at q1 q2 ⊢; omega
          · have d3 : decide ((j : Int) < l'.length) = false := by simpa using hb2
            have hall : l'.all leafFew = true := by rwa [List.take_of_length_le (by omega)] at hc2
            have f3 : few1 (mkV k i' s m l') = true := by rw [f1, hall]; simp at q1 q2 ⊢; omega
            have hc3 : (xs.take (i + 1)).all few1 = true := by rw [all_take_succ e1, hc, f3]; rfl
            simp (config := { contextual := true, maxSteps := 10000000 }) only [h0, h1, h5, h6, d3, e1, mkV, wrap_succ i (by omega), go_sem, Nat.reduceAdd, Nat.reduceSub, Nat.reduceMul, Nat.reduceEqDiff, Nat.reduceLeDiff, Nat.reduceLT, Int.reduceToNat, Int.reduceLE, Int.reduceLT, Int.reduceEq, Int.reduceNe, Int.reduceBEq, Int.reduceBNe, Nat.reduceBEq, Nat.reduceBNe, ↓reduceIte, reduceCtorEq, ↓reduceDIte, W_draw]
            exact ⟨by omega, by omega, hc3⟩
      · have hcf : (xs.take 100).all few1 = true := by
          by_cases hx : i < xs.length
          · have : i = 100 := by omega
            rw [← this]; exact hc
          · rw [List.take_of_length_le (by omega)] at hc
            exact List.all_eq_true.2 fun x hx => List.all_eq_true.1 hc x (List.mem_of_mem_take hx)
        by_cases hx : i < xs.length
        · have d1 : decide ((i : Int) < xs.length) = true := by simpa using hx
          have d2 : decide ((i : Int) < 100) = false := by simp; omega
          simp (config := { contextual := true, maxSteps := 10000000 }) only [h0, h1, h5, d1, d2, fewB, hcf, go_sem, Nat.reduceAdd, Nat.reduceSub, Nat.reduceMul, Nat.reduceEqDiff, Nat.reduceLeDiff, Nat.reduceLT, Int.reduceToNat, Int.reduceLE, Int.reduceLT, Int.reduceEq, Int.reduceNe, Int.reduceBEq, Int.reduceBNe, Nat.reduceBEq, Nat.reduceBNe, ↓reduceIte, reduceCtorEq, ↓reduceDIte, W_draw]
        · have d1 : decide ((i : Int) < xs.length) = false := by simpa using hx
          simp (config := { contextual := true, maxSteps := 10000000 }) only [h0, h1, h5, d1, fewB, hcf, go_sem, Nat.reduceAdd, Nat.reduceSub, Nat.reduceMul, Nat.reduceEqDiff, Nat.reduceLeDiff, Nat.reduceLT, Int.reduceToNat, Int.reduceLE, Int.reduceLT, Int.reduceEq, Int.reduceNe, Int.reduceBEq, Int.reduceBNe, Nat.reduceBEq, Nat.reduceBNe, ↓reduceIte, reduceCtorEq, ↓reduceDIte, W_draw]
    · cases h
  · cases h

def φtwo : List D → Option D
  | [a, b] => if a.isV = true ∧ b.isV = true then some (.bool (fewB [a, b] 2)) else none
  | _ => none
end GP
