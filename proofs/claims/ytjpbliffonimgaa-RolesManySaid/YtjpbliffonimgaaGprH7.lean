/- RolesMany returns true for every input, and its arguments read behind the call as before. No condition beyond the row's own. -/
import Derived.Test.YtjpbliffonimgaaM7
set_option linter.unusedSimpArgs false
set_option linter.unnecessarySimpa false
set_option linter.unusedSectionVars false
namespace GP
open Go Go.Proofs Go.Proofs.Ytjpbliffonimgaa
open Go.ChangeShapes Go.WideShapes Go.ChangeAt Go.RowKit
set_option maxRecDepth 100000
theorem args7 (W : World) : Args Try.prog W Try.f7.params.toList (fun l => ∃ x0 l0, l = x0 :: l0 ∧ (∃ n, x0 = .int .u8 n ∧ 0 ≤ n ∧ n ≤ 255) ∧ l0 = []) := by
  rw [Try.params7]
  exact .cons (argU8 W) .nil
theorem lifted7 (os : Os) (started : os.Started) (H : Type) (enc : TypeId × Value → H) :
    ReturnsInHanded {} Try.checked os 7 .any (Rows.rolesManySpec.pre6 enc Try.prog Try.f7 Rows.rolesManyRow.domain false) (Rows.rolesManySpec.post enc Try.prog Try.f7 false true false false) := by
  refine returnsInHanded_of_change_sized (C := Try.checked) own6 started (by kernel_rfl) Try.func7
    (ChangeSpec.witness6 (enc := enc) (C := Try.checked) false ⟨#[], #[.int .u8 0], []⟩ 8 (by kernel_rfl) (by kernel_rfl) (by kernel_rfl) (by kernel_rfl)) ?_
  intro W base args ds gs before hval hW hcnd hsz _
  refine law_contract (P := Try.prog) laid6 rowed6 full6 ?_ rfl (tb := 4) ?_ Try.underlying4 hval hW hsz ?_ (args7 W) fn7 ?_ trivial ?_
  · rw [Try.params7]; exact of_decide_eq_true (by kernel_rfl)
  · kernel_rfl
  · intro l hl
    rw [Try.params7] at hl
    match l, hl with
    | [a], _ => rfl
  · rw [Try.params7]; decide
  · rintro xs ⟨x0, l0, rfl, h0, rfl⟩
    obtain ⟨n, rfl, n0, n1⟩ := h0; exact main7 n0 n1 fun _ _ => rfl
theorem over7 : Rows.rolesManyRow.holds Try.pinned (OpenSpec.ofChange Rows.rolesManySpec) :=
  OpenClaim.holds_of_wide 7 Try.f7 rfl rfl rfl rfl rfl rfl rfl ⟨rfl, rfl, rfl, rfl, rfl⟩ rfl rfl rfl rfl rfl (by kernel_rfl) Try.func7 (by kernel_rfl)
    (of_decide_eq_true (by kernel_rfl)) (by unfold Func.isWrapper; first | (rw [if_pos (by decide +kernel)]; kernel_rfl) | (rw [if_neg (by decide +kernel)]; exact ⟨rfl, rfl⟩))
    (fun os started H enc _ => lifted7 os started H enc)
end GP
namespace Go.Proofs.Ytjpbliffonimgaa
theorem rolesMany_holds : Rows.RolesManySaid := GP.over7
#print axioms rolesMany_holds
end Go.Proofs.Ytjpbliffonimgaa
