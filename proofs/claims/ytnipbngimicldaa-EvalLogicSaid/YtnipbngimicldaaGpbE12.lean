/- EvalLogic returns true for every input, and its arguments read behind the call as before. No condition beyond the row's own. -/
import Derived.Test.YtnipbngimicldaaGpbE10
set_option linter.unusedSimpArgs false
namespace GP
open Go Go.Proofs Go.Proofs.Ytnipbngimicldaa
open Go.ChangeShapes Go.WideShapes Go.ChangeAt Go.RowKit
set_option maxRecDepth 100000
theorem isE_le {n m : Nat} (h : n ≤ m) {d : D} (he : isE n d) : isE m d := by
  induction h with
  | refl => exact he
  | step _ ih => exact isE_mono ih
theorem args7 (W : World) : Args Try.prog W Try.f7.params.toList (fun l => ∃ x0 l0, l = x0 :: l0 ∧ (∃ n, isE n x0) ∧ ∃ x1 l1, l0 = x1 :: l1 ∧ (∃ n, isE n x1) ∧ ∃ x2 l2, l1 = x2 :: l2 ∧ (isS x2) ∧ l2 = []) := by
  rw [Try.params7]
  exact .cons (argE W) (.cons (argE W) (.cons (argS W) .nil))
theorem lifted7 (os : Os) (started : os.Started) (H : Type) (enc : TypeId × Value → H) :
    ReturnsInHanded {} Try.checked os 7 .any (Rows.evalLogicSpec.pre6 enc Try.prog Try.f7 Rows.evalLogicRow.domain false) (Rows.evalLogicSpec.post enc Try.prog Try.f7 false true false false) := by
  refine returnsInHanded_of_change_sized (C := Try.checked) own6 started (by kernel_rfl) Try.func7
    (ChangeSpec.witness6 (enc := enc) (C := Try.checked) false ⟨#[], #[.agg #[.string ⟨#[]⟩, .int .i64 0, .int .i64 0, .string ⟨#[]⟩, .slice none 0 0, .string ⟨#[]⟩, .string ⟨#[]⟩, .slice none 0 0], .agg #[.string ⟨#[]⟩, .int .i64 0, .int .i64 0, .string ⟨#[]⟩, .slice none 0 0, .string ⟨#[]⟩, .string ⟨#[]⟩, .slice none 0 0], .agg #[.int .i64 0, .slice none 0 0, .slice none 0 0]], []⟩ 8 (by kernel_rfl) (by kernel_rfl) (by kernel_rfl) (by kernel_rfl)) ?_
  intro W base args ds gs before hval hW hcnd hsz _
  refine law_contract laid6 rowed6 full6 ?_ rfl (tb := 4) ?_ Try.underlying4 hval hW hsz ?_ (args7 W) fn7 ?_ ?_
  · rw [Try.params7]; exact of_decide_eq_true (by kernel_rfl)
  · kernel_rfl
  · intro l hl
    rw [Try.params7] at hl
    match l, hl with
    | [a, b, c], _ => rfl
  · rw [Try.params7]; decide
  · rintro xs ⟨x0, l0, rfl, h0, x1, l1, rfl, h1, x2, l2, rfl, h2, rfl⟩
    obtain ⟨n, h0⟩ := h0; obtain ⟨m, h1⟩ := h1; exact main7 (max n m) x0 x1 x2 (isE_le (Nat.le_max_left n m) h0) (isE_le (Nat.le_max_right n m) h1) h2 [] []
theorem over7 : Rows.evalLogicRow.holds Try.pinned (OpenSpec.ofChange Rows.evalLogicSpec) :=
  OpenClaim.holds_of_wide 7 Try.f7 rfl rfl rfl rfl rfl rfl rfl ⟨rfl, rfl, rfl, rfl, rfl⟩ rfl rfl rfl rfl rfl (by kernel_rfl) Try.func7 (by kernel_rfl)
    (of_decide_eq_true (by kernel_rfl)) (by unfold Func.isWrapper; first | (rw [if_pos (by decide +kernel)]; kernel_rfl) | (rw [if_neg (by decide +kernel)]; exact ⟨rfl, rfl⟩))
    (fun os started H enc _ => lifted7 os started H enc)
end GP
namespace Go.Proofs.Ytnipbngimicldaa
theorem evalLogic_holds : Rows.EvalLogicSaid := GP.over7
#print axioms evalLogic_holds
end Go.Proofs.Ytnipbngimicldaa
