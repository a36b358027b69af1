/- CheckUses returns true for every input, and its arguments read behind the call as before. No condition beyond the row's own. -/
import Derived.Test.YtnipbngimicldaaGpbE1
import Derived.Test.YtnipbngimicldaaRows
import Derived.JoinedOf
set_option linter.unusedSimpArgs false
namespace GP
open Go Go.Proofs Go.Proofs.Ytnipbngimicldaa
open Go.ChangeShapes Go.WideShapes Go.ChangeAt Go.RowKit
set_option maxRecDepth 100000

def usesL : List (List UInt8) := [[100, 101, 110, 121, 95, 111, 118, 101, 114, 114, 105, 100, 101, 115], [112, 101, 114, 109, 105, 116, 95, 111, 118, 101, 114, 114, 105, 100, 101, 115], [102, 105, 114, 115, 116], [111, 110, 108, 121, 95, 111, 110, 101], [100, 101, 110, 121, 95, 117, 110, 108, 101, 115, 115, 95, 112, 101, 114, 109, 105, 116], [112, 101, 114, 109, 105, 116, 95, 117, 110, 108, 101, 115, 115, 95, 100, 101, 110, 121]]
def φUses : List D → Option D
  | [] => some (.sl none (usesL.map .str))
  | _ => none
theorem ok8 : OkAt Try.prog 8 φUses := by
  refine ok_of (l := []) .nil fn8 fun args r h => ?_
  unfold φUses at h
  split at h
  · injection h with h; subst h
    refine ⟨by simp, by simp [D.cl, D.clL, usesL], fun H T => ?_⟩
    simp (config := { contextual := true, maxSteps := 10000000 }) only [c8, usesL, go_sem, Nat.reduceAdd, Nat.reduceSub, Nat.reduceMul, Nat.reduceEqDiff, Nat.reduceLeDiff, Nat.reduceLT, Int.reduceToNat, Int.reduceLE, Int.reduceLT, Int.reduceEq, Int.reduceNe, Int.reduceBEq, Int.reduceBNe, Nat.reduceBEq, Nat.reduceBNe, ↓reduceIte, reduceCtorEq, ↓reduceDIte, W_draw]
  · cases h
theorem ok9 : OkAt Try.prog 9 φUses := by
  refine ok_of (l := []) .nil fn9 fun args r h => ?_
  unfold φUses at h
  split at h
  · injection h with h; subst h
    refine ⟨by simp, by simp [D.cl, D.clL, usesL], fun H T => ?_⟩
    simp (config := { contextual := true, maxSteps := 10000000 }) only [c9, usesL, go_sem, Nat.reduceAdd, Nat.reduceSub, Nat.reduceMul, Nat.reduceEqDiff, Nat.reduceLeDiff, Nat.reduceLT, Int.reduceToNat, Int.reduceLE, Int.reduceLT, Int.reduceEq, Int.reduceNe, Int.reduceBEq, Int.reduceBNe, Nat.reduceBEq, Nat.reduceBNe, ↓reduceIte, reduceCtorEq, ↓reduceDIte, W_draw]
  · cases h
def φtrue : List D → Option D
  | [] => some (.bool true)
  | _ => none
def exprNow : D := mkE [110, 111, 119] 0 0 [] true [] [] [] true []
theorem now_isE : isE 1 exprNow := ⟨_, _, _, _, _, _, _, _, _, _, rfl, by simp, by simp, by simp, ⟨by simp [mkV, sliceD, D.isV], by simp [mkV, vi], by simp [mkV, vi]⟩, by simp, by simp⟩
theorem now_typ : φtyp 1 [.nils, exprNow] = some (.tup [.int .i64 4, .int .i64 0]) := by
  simp only [φtyp]
  rw [if_pos ⟨isLs_nils _, now_isE⟩]
  rfl
theorem ok10 : OkAt Try.prog 10 φtrue := by
  refine ok_of (l := [(30, φtyp 1), (8, φUses)]) (.cons (ok30 1) (.cons ok8 .nil)) fn10 fun args r h => ?_
  unfold φtrue at h
  split at h
  · injection h with h; subst h
    refine ⟨by simp, by simp [D.cl], fun H T => ?_⟩
    have p := now_typ
    simp only [exprNow, mkE, sliceD, List.isEmpty_nil, Bool.true_and, if_true] at p
    simp (config := { contextual := true, maxSteps := 10000000 }) only [c10, p, φUses, usesL, go_sem, Nat.reduceAdd, Nat.reduceSub, Nat.reduceMul, Nat.reduceEqDiff, Nat.reduceLeDiff, Nat.reduceLT, Int.reduceToNat, Int.reduceLE, Int.reduceLT, Int.reduceEq, Int.reduceNe, Int.reduceBEq, Int.reduceBNe, Nat.reduceBEq, Nat.reduceBNe, ↓reduceIte, reduceCtorEq, ↓reduceDIte, W_draw]
  · cases h

theorem main3 (k : Int) (h0 : 0 ≤ k) (H : Hp) (T : Tk) : W (Snd Try.prog) c3 (endQ [.inl 2] (fun r _ _ => r = .bool true)) ⟨argT [.int .u8 k], H, T⟩ := by
  refine W_mono (X := XL [(8, φUses), (9, φUses), (10, φtrue)]) (Ok.X (.cons ok8 (.cons ok9 (.cons ok10 .nil)))) (fun _ _ h => h) ?_
  have hk : k.tmod 6 = k % 6 := Int.tmod_eq_emod_of_nonneg h0
  obtain ⟨m, hm⟩ := Int.eq_ofNat_of_zero_le (show 0 ≤ k % 6 by omega)
  have hm6 : m < 6 := by omega
  rw [hm] at hk
  have g0 : (0 : Int) ≤ m := by omega
  have g : ∀ x ∈ [m], x = 0 ∨ x = 1 ∨ x = 2 ∨ x = 3 ∨ x = 4 ∨ x = 5 := by simp; omega
  rcases g m (by simp) with rfl | rfl | rfl | rfl | rfl | rfl <;> simp (config := { contextual := true, maxSteps := 10000000 }) only [c3, φUses, φtrue, usesL, hk, go_sem, Nat.reduceAdd, Nat.reduceSub, Nat.reduceMul, Nat.reduceEqDiff, Nat.reduceLeDiff, Nat.reduceLT, Int.reduceToNat, Int.reduceLE, Int.reduceLT, Int.reduceEq, Int.reduceNe, Int.reduceBEq, Int.reduceBNe, Nat.reduceBEq, Nat.reduceBNe, ↓reduceIte, reduceCtorEq, ↓reduceDIte, W_draw]

theorem own6 : ownKnob Try.prog.godebug = none := by kernel_rfl
theorem laid6 : laidOutB Try.prog = true := by kernel_rfl
theorem rowed6 : mapsRowed Try.prog = true := by kernel_rfl
theorem full6 : ((List.range Try.prog.types.size).all fun t => match Try.prog.underlying t with | some (.slice e) => decide (0 < Try.prog.cellsOf e) | _ => true) = true := by kernel_rfl

theorem args3 (W : World) : Args Try.prog W Try.f3.params.toList (fun l => ∃ x xs, l = x :: xs ∧ (∃ n, [x] = [.int .u8 n] ∧ IntKind.u8.min ≤ n ∧ n ≤ IntKind.u8.max) ∧ xs = []) := by
  rw [Try.params3]
  exact .cons (arg_one Try.underlying5 rfl fun f => rds_int Try.underlying5 f) .nil

theorem lifted3 (os : Os) (started : os.Started) (H : Type) (enc : TypeId × Value → H) :
    ReturnsInHanded {} Try.checked os 3 .any (Rows.checkUsesSpec.pre6 enc Try.prog Try.f3 Rows.checkUsesRow.domain false) (Rows.checkUsesSpec.post enc Try.prog Try.f3 false true false false) := by
  refine returnsInHanded_of_change_sized (C := Try.checked) own6 started (by kernel_rfl) Try.func3
    (ChangeSpec.witness6 (enc := enc) (C := Try.checked) false ⟨#[], #[.int .u8 0], []⟩ 8 (by kernel_rfl) (by kernel_rfl) (by kernel_rfl) (by kernel_rfl)) ?_
  intro W base args ds gs before hval hW hcnd hsz _
  refine law_contract laid6 rowed6 full6 ?_ rfl (tb := 4) ?_ Try.underlying4 hval hW hsz ?_ (args3 W) fn3 ?_ ?_
  · rw [Try.params3]; exact of_decide_eq_true (by kernel_rfl)
  · kernel_rfl
  · intro l hl
    rw [Try.params3] at hl
    match l, hl with
    | [a], _ => rfl
  · rw [Try.params3]; decide
  · rintro xs ⟨x, xs2, rfl, ⟨n, hn, h0, _⟩, rfl⟩
    injection hn with hn
    subst hn
    exact main3 n h0 [] []

theorem over3 : Rows.checkUsesRow.holds Try.pinned (OpenSpec.ofChange Rows.checkUsesSpec) :=
  OpenClaim.holds_of_wide 3 Try.f3 rfl rfl rfl rfl rfl rfl rfl ⟨rfl, rfl, rfl, rfl, rfl⟩ rfl rfl rfl rfl rfl (by kernel_rfl) Try.func3 (by kernel_rfl)
    (of_decide_eq_true (by kernel_rfl)) (by unfold Func.isWrapper; first | (rw [if_pos (by decide +kernel)]; kernel_rfl) | (rw [if_neg (by decide +kernel)]; exact ⟨rfl, rfl⟩))
    (fun os started H enc _ => lifted3 os started H enc)
end GP
namespace Go.Proofs.Ytnipbngimicldaa
theorem checkUses_holds : Rows.CheckUsesSaid := GP.over3
#print axioms checkUses_holds
end Go.Proofs.Ytnipbngimicldaa
