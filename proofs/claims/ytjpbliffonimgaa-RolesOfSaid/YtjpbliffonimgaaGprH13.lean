/- RolesOf returns true for every input, and its arguments read behind the call as before. No condition beyond the row's own. -/
import Derived.Test.YtjpbliffonimgaaM9
set_option linter.unusedSimpArgs false
set_option linter.unnecessarySimpa false
set_option linter.unusedSectionVars false
namespace GP
open Go Go.Proofs Go.Proofs.Ytjpbliffonimgaa
open Go.ChangeShapes Go.WideShapes Go.ChangeAt Go.RowKit
set_option maxRecDepth 100000
theorem args13 (W : World) : Args Try.prog W Try.f13.params.toList (fun l => ∃ x0 l0, l = x0 :: l0 ∧ (isSts x0) ∧ ∃ x1 l1, l0 = x1 :: l1 ∧ (∃ l, x1 = .str l ∧ l.length ≤ 2 ^ 47) ∧ l1 = []) := by
  rw [Try.params13]
  exact .cons (argSts W) (.cons (argStr W) .nil)
theorem lifted13 (os : Os) (started : os.Started) (H : Type) (enc : TypeId × Value → H) :
    ReturnsInHanded {} Try.checked os 13 .any (Rows.rolesOfSpec.pre6 enc Try.prog Try.f13 Rows.rolesOfRow.domain false) (Rows.rolesOfSpec.post enc Try.prog Try.f13 false true false false) := by
  refine returnsInHanded_of_change_sized (C := Try.checked) own6 started (by kernel_rfl) Try.func13
    (ChangeSpec.witness6 (enc := enc) (C := Try.checked) false ⟨#[], #[.slice none 0 0, .string ⟨#[]⟩], []⟩ 8 (by kernel_rfl) (by kernel_rfl) (by kernel_rfl) (by kernel_rfl)) ?_
  intro W base args ds gs before hval hW hcnd hsz _
  refine law_contract (P := Try.prog) laid6 rowed6 full6 ?_ rfl (tb := 4) ?_ Try.underlying4 hval hW hsz ?_ (args13 W) fn13 ?_ trivial ?_
  · rw [Try.params13]; exact of_decide_eq_true (by kernel_rfl)
  · kernel_rfl
  · intro l hl
    rw [Try.params13] at hl
    match l, hl with
    | [a, b], _ => rfl
  · rw [Try.params13]; decide
  · rintro xs ⟨x0, l0, rfl, h0, x1, l1, rfl, h1, rfl⟩
    obtain ⟨n, l, rfl, ho⟩ := h0; obtain ⟨a, rfl, _⟩ := h1; exact main13 ho fun _ _ => rfl
theorem over13 : Rows.rolesOfRow.holds Try.pinned (OpenSpec.ofChange Rows.rolesOfSpec) :=
  OpenClaim.holds_of_wide 13 Try.f13 rfl rfl rfl rfl rfl rfl rfl ⟨rfl, rfl, rfl, rfl, rfl⟩ rfl rfl rfl rfl rfl (by kernel_rfl) Try.func13 (by kernel_rfl)
    (of_decide_eq_true (by kernel_rfl)) (by unfold Func.isWrapper; first | (rw [if_pos (by decide +kernel)]; kernel_rfl) | (rw [if_neg (by decide +kernel)]; exact ⟨rfl, rfl⟩))
    (fun os started H enc _ => lifted13 os started H enc)
end GP
namespace Go.Proofs.Ytjpbliffonimgaa
theorem rolesOf_holds : Rows.RolesOfSaid := GP.over13
#print axioms rolesOf_holds
end Go.Proofs.Ytjpbliffonimgaa
