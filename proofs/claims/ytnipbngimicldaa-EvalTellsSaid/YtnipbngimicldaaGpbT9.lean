/- EvalTells returns true for every input, and its arguments read behind the call as before. No condition beyond the row's own. -/
import Derived.Test.YtnipbngimicldaaGpbT8
set_option linter.unusedSimpArgs false
namespace GP
open Go Go.Proofs Go.Proofs.Ytnipbngimicldaa
open Go.ChangeShapes Go.WideShapes Go.ChangeAt Go.RowKit
set_option maxRecDepth 100000
theorem args6 (W : World) : Args Try.prog W Try.f6.params.toList (fun l => ∃ x0 l0, l = x0 :: l0 ∧ (∃ n, isE n x0) ∧ ∃ x1 l1, l0 = x1 :: l1 ∧ (isS x1) ∧ l1 = []) := by
  rw [Try.params6]
  exact .cons (argE W) (.cons (argS W) .nil)
theorem lifted6 (os : Os) (started : os.Started) (H : Type) (enc : TypeId × Value → H) :
    ReturnsInHanded {} Try.checked os 6 .any (Rows.evalTellsSpec.pre6 enc Try.prog Try.f6 Rows.evalTellsRow.domain false) (Rows.evalTellsSpec.post enc Try.prog Try.f6 false true false false) := by
  refine returnsInHanded_of_change_sized (C := Try.checked) own6 started (by kernel_rfl) Try.func6
    (ChangeSpec.witness6 (enc := enc) (C := Try.checked) false ⟨#[], #[.agg #[.string ⟨#[]⟩, .int .i64 0, .int .i64 0, .string ⟨#[]⟩, .slice none 0 0, .string ⟨#[]⟩, .string ⟨#[]⟩, .slice none 0 0], .agg #[.int .i64 0, .slice none 0 0, .slice none 0 0]], []⟩ 8 (by kernel_rfl) (by kernel_rfl) (by kernel_rfl) (by kernel_rfl)) ?_
  intro W base args ds gs before hval hW hcnd hsz _
  refine law_contract laid6 rowed6 full6 ?_ rfl (tb := 4) ?_ Try.underlying4 hval hW hsz ?_ (args6 W) fn6 ?_ ?_
  · rw [Try.params6]; exact of_decide_eq_true (by kernel_rfl)
  · kernel_rfl
  · intro l hl
    rw [Try.params6] at hl
    match l, hl with
    | [a, b], _ => rfl
  · rw [Try.params6]; decide
  · rintro xs ⟨x0, l0, rfl, h0, x1, l1, rfl, h1, rfl⟩
    obtain ⟨n, h0⟩ := h0; exact main6 n x0 x1 h0 h1 [] []
theorem over6 : Rows.evalTellsRow.holds Try.pinned (OpenSpec.ofChange Rows.evalTellsSpec) :=
  OpenClaim.holds_of_wide 6 Try.f6 rfl rfl rfl rfl rfl rfl rfl ⟨rfl, rfl, rfl, rfl, rfl⟩ rfl rfl rfl rfl rfl (by kernel_rfl) Try.func6 (by kernel_rfl)
    (of_decide_eq_true (by kernel_rfl)) (by unfold Func.isWrapper; first | (rw [if_pos (by decide +kernel)]; kernel_rfl) | (rw [if_neg (by decide +kernel)]; exact ⟨rfl, rfl⟩))
    (fun os started H enc _ => lifted6 os started H enc)
end GP
namespace Go.Proofs.Ytnipbngimicldaa
theorem evalTells_holds : Rows.EvalTellsSaid := GP.over6
#print axioms evalTells_holds
end Go.Proofs.Ytnipbngimicldaa
