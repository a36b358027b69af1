/- ValueForms returns true for every input, and its arguments read behind the call as before. No condition beyond the row's own. -/
import Derived.Test.YtoobncfcgknecaaGpF28
set_option linter.unusedSimpArgs false
namespace GP
open Go Go.Proofs Go.Proofs.Ytoobncfcgknecaa
open Go.ChangeShapes Go.WideShapes Go.ChangeAt Go.RowKit
set_option maxRecDepth 100000

theorem args3 (W : World) : Args Try.prog W Try.f3.params.toList (fun l => ∃ x xs, l = x :: xs ∧ x.isV = true ∧ ∃ y ys, xs = y :: ys ∧ y.isV = true ∧ ∃ z zs, ys = z :: zs ∧ z.isV = true ∧ zs = []) := by
  rw [Try.params3]
  exact .cons (argV W) (.cons (argV W) (.cons (argV W) .nil))

theorem lifted3 (os : Os) (started : os.Started) (H : Type) (enc : TypeId × Value → H) :
    ReturnsInHanded {} Try.checked os 3 .any (Rows.valueFormsSpec.pre6 enc Try.prog Try.f3 Rows.valueFormsRow.domain false) (Rows.valueFormsSpec.post enc Try.prog Try.f3 false true false false) := by
  refine returnsInHanded_of_change_sized (C := Try.checked) own6 started (by kernel_rfl) Try.func3
    (ChangeSpec.witness6 (enc := enc) (C := Try.checked) false ⟨#[], #[.agg #[.int .i64 0, .int .i64 0, .string ⟨#[]⟩, .slice none 0 0], .agg #[.int .i64 0, .int .i64 0, .string ⟨#[]⟩, .slice none 0 0], .agg #[.int .i64 0, .int .i64 0, .string ⟨#[]⟩, .slice none 0 0]], []⟩ 8 (by kernel_rfl) (by kernel_rfl) (by kernel_rfl) (by kernel_rfl)) ?_
  intro W base args ds gs before hval hW hcnd hsz _
  refine law_contract laid6 rowed6 full6 ?_ rfl (tb := 4) ?_ Try.underlying4 hval hW hsz ?_ (args3 W) fn3 ?_ ?_
  · rw [Try.params3]; exact of_decide_eq_true (by kernel_rfl)
  · kernel_rfl
  · intro l hl
    rw [Try.params3] at hl
    match l, hl with
    | [a, b, c], _ => rfl
  · rw [Try.params3]; decide
  · rintro xs ⟨x', xs2, rfl, hx', y, ys, rfl, hy, z, zs, rfl, hz, rfl⟩
    exact main3 x' y z hx' hy hz [] []

theorem over3 : Rows.valueFormsRow.holds Try.pinned (OpenSpec.ofChange Rows.valueFormsSpec) :=
  OpenClaim.holds_of_wide 3 Try.f3 rfl rfl rfl rfl rfl rfl rfl ⟨rfl, rfl, rfl, rfl, rfl⟩ rfl rfl rfl rfl rfl (by kernel_rfl) Try.func3 (by kernel_rfl)
    (of_decide_eq_true (by kernel_rfl)) (by unfold Func.isWrapper; first | (rw [if_pos (by decide +kernel)]; kernel_rfl) | (rw [if_neg (by decide +kernel)]; exact ⟨rfl, rfl⟩))
    (fun os started H enc _ => lifted3 os started H enc)
end GP
namespace Go.Proofs.Ytoobncfcgknecaa
theorem valueForms_holds : Rows.ValueFormsSaid := GP.over3
#print axioms valueForms_holds
end Go.Proofs.Ytoobncfcgknecaa
