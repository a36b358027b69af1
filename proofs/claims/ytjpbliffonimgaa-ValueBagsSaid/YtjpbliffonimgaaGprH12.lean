/- ValueBags returns true for every input, and its arguments read behind the call as before. No condition beyond the row's own. -/
import Derived.Test.YtjpbliffonimgaaM8
set_option linter.unusedSimpArgs false
set_option linter.unnecessarySimpa false
set_option linter.unusedSectionVars false
namespace GP
open Go Go.Proofs Go.Proofs.Ytjpbliffonimgaa
open Go.ChangeShapes Go.WideShapes Go.ChangeAt Go.RowKit
set_option maxRecDepth 100000
theorem args12 (W : World) : Args Try.prog W Try.f12.params.toList (fun l => ∃ x0 l0, l = x0 :: l0 ∧ (isVS x0) ∧ l0 = []) := by
  rw [Try.params12]
  exact .cons (argVs W) .nil
theorem lifted12 (os : Os) (started : os.Started) (H : Type) (enc : TypeId × Value → H) :
    ReturnsInHanded {} Try.checked os 12 .any (Rows.valueBagsSpec.pre6 enc Try.prog Try.f12 Rows.valueBagsRow.domain false) (Rows.valueBagsSpec.post enc Try.prog Try.f12 false true false false) := by
  refine returnsInHanded_of_change_sized (C := Try.checked) own6 started (by kernel_rfl) Try.func12
    (ChangeSpec.witness6 (enc := enc) (C := Try.checked) false ⟨#[], #[.slice none 0 0], []⟩ 8 (by kernel_rfl) (by kernel_rfl) (by kernel_rfl) (by kernel_rfl)) ?_
  intro W base args ds gs before hval hW hcnd hsz _
  refine law_contract (P := Try.prog) laid6 rowed6 full6 ?_ rfl (tb := 4) ?_ Try.underlying4 hval hW hsz ?_ (args12 W) fn12 ?_ trivial ?_
  · rw [Try.params12]; exact of_decide_eq_true (by kernel_rfl)
  · kernel_rfl
  · intro l hl
    rw [Try.params12] at hl
    match l, hl with
    | [a], _ => rfl
  · rw [Try.params12]; decide
  · rintro xs ⟨x0, l0, rfl, h0, rfl⟩
    obtain ⟨n, xs, rfl, hl, hv⟩ := h0; exact main12 hv hl fun _ _ => rfl
theorem over12 : Rows.valueBagsRow.holds Try.pinned (OpenSpec.ofChange Rows.valueBagsSpec) :=
  OpenClaim.holds_of_wide 12 Try.f12 rfl rfl rfl rfl rfl rfl rfl ⟨rfl, rfl, rfl, rfl, rfl⟩ rfl rfl rfl rfl rfl (by kernel_rfl) Try.func12 (by kernel_rfl)
    (of_decide_eq_true (by kernel_rfl)) (by unfold Func.isWrapper; first | (rw [if_pos (by decide +kernel)]; kernel_rfl) | (rw [if_neg (by decide +kernel)]; exact ⟨rfl, rfl⟩))
    (fun os started H enc _ => lifted12 os started H enc)
end GP
namespace Go.Proofs.Ytjpbliffonimgaa
theorem valueBags_holds : Rows.ValueBagsSaid := GP.over12
#print axioms valueBags_holds
end Go.Proofs.Ytjpbliffonimgaa
