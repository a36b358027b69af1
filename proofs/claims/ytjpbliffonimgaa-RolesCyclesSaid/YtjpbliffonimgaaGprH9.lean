/- RolesCycles returns true for every input, and its arguments read behind the call as before. No condition beyond the row's own. -/
import Derived.Test.YtjpbliffonimgaaM8
set_option linter.unusedSimpArgs false
set_option linter.unnecessarySimpa false
set_option linter.unusedSectionVars false
namespace GP
open Go Go.Proofs Go.Proofs.Ytjpbliffonimgaa
open Go.ChangeShapes Go.WideShapes Go.ChangeAt Go.RowKit
set_option maxRecDepth 100000
theorem args9 (W : World) : Args Try.prog W Try.f9.params.toList (fun l => ∃ x0 l0, l = x0 :: l0 ∧ (isSts x0) ∧ ∃ x1 l1, l0 = x1 :: l1 ∧ (isA3 x1) ∧ l1 = []) := by
  rw [Try.params9]
  exact .cons (argSts W) (.cons (argA3 W) .nil)
theorem lifted9 (os : Os) (started : os.Started) (H : Type) (enc : TypeId × Value → H) :
    ReturnsInHanded {} Try.checked os 9 .any (Rows.rolesCyclesSpec.pre6 enc Try.prog Try.f9 Rows.rolesCyclesRow.domain false) (Rows.rolesCyclesSpec.post enc Try.prog Try.f9 false true false false) := by
  refine returnsInHanded_of_change_sized (C := Try.checked) own6 started (by kernel_rfl) Try.func9
    (ChangeSpec.witness6 (enc := enc) (C := Try.checked) false ⟨#[], #[.slice none 0 0, .agg #[.int .u8 0, .int .u8 0, .int .u8 0]], []⟩ 8 (by kernel_rfl) (by kernel_rfl) (by kernel_rfl) (by kernel_rfl)) ?_
  intro W base args ds gs before hval hW hcnd hsz _
  refine law_contract (P := Try.prog) laid6 rowed6 full6 ?_ rfl (tb := 4) ?_ Try.underlying4 hval hW hsz ?_ (args9 W) fn9 ?_ trivial ?_
  · rw [Try.params9]; exact of_decide_eq_true (by kernel_rfl)
  · kernel_rfl
  · intro l hl
    rw [Try.params9] at hl
    match l, hl with
    | [a, b], _ => rfl
  · rw [Try.params9]; decide
  · rintro xs ⟨x0, l0, rfl, h0, x1, l1, rfl, h1, rfl⟩
    obtain ⟨n, l, rfl, ho⟩ := h0; obtain ⟨x, y, z, rfl, hk⟩ := h1; exact main9 ho hk fun _ _ => rfl
theorem over9 : Rows.rolesCyclesRow.holds Try.pinned (OpenSpec.ofChange Rows.rolesCyclesSpec) :=
  OpenClaim.holds_of_wide 9 Try.f9 rfl rfl rfl rfl rfl rfl rfl ⟨rfl, rfl, rfl, rfl, rfl⟩ rfl rfl rfl rfl rfl (by kernel_rfl) Try.func9 (by kernel_rfl)
    (of_decide_eq_true (by kernel_rfl)) (by unfold Func.isWrapper; first | (rw [if_pos (by decide +kernel)]; kernel_rfl) | (rw [if_neg (by decide +kernel)]; exact ⟨rfl, rfl⟩))
    (fun os started H enc _ => lifted9 os started H enc)
end GP
namespace Go.Proofs.Ytjpbliffonimgaa
theorem rolesCycles_holds : Rows.RolesCyclesSaid := GP.over9
#print axioms rolesCycles_holds
end Go.Proofs.Ytjpbliffonimgaa
