/- RolesPlays returns true for every input, and its arguments read behind the call as before. No condition beyond the row's own. -/
import Derived.Test.YtjpbliffonimgaaM9
set_option linter.unusedSimpArgs false
set_option linter.unnecessarySimpa false
set_option linter.unusedSectionVars false
namespace GP
open Go Go.Proofs Go.Proofs.Ytjpbliffonimgaa
open Go.ChangeShapes Go.WideShapes Go.ChangeAt Go.RowKit
set_option maxRecDepth 100000
theorem args10 (W : World) : Args Try.prog W Try.f10.params.toList (fun l => ∃ x0 l0, l = x0 :: l0 ∧ (isSts x0) ∧ ∃ x1 l1, l0 = x1 :: l1 ∧ (∃ l, x1 = .str l ∧ l.length ≤ 2 ^ 47) ∧ ∃ x2 l2, l1 = x2 :: l2 ∧ (∃ l, x2 = .str l ∧ l.length ≤ 2 ^ 47) ∧ l2 = []) := by
  rw [Try.params10]
  exact .cons (argSts W) (.cons (argStr W) (.cons (argStr W) .nil))
theorem lifted10 (os : Os) (started : os.Started) (H : Type) (enc : TypeId × Value → H) :
    ReturnsInHanded {} Try.checked os 10 .any (Rows.rolesPlaysSpec.pre6 enc Try.prog Try.f10 Rows.rolesPlaysRow.domain false) (Rows.rolesPlaysSpec.post enc Try.prog Try.f10 false true false false) := by
  refine returnsInHanded_of_change_sized (C := Try.checked) own6 started (by kernel_rfl) Try.func10
    (ChangeSpec.witness6 (enc := enc) (C := Try.checked) false ⟨#[], #[.slice none 0 0, .string ⟨#[]⟩, .string ⟨#[]⟩], []⟩ 8 (by kernel_rfl) (by kernel_rfl) (by kernel_rfl) (by kernel_rfl)) ?_
  intro W base args ds gs before hval hW hcnd hsz _
  refine law_contract (P := Try.prog) laid6 rowed6 full6 ?_ rfl (tb := 4) ?_ Try.underlying4 hval hW hsz ?_ (args10 W) fn10 ?_ trivial ?_
  · rw [Try.params10]; exact of_decide_eq_true (by kernel_rfl)
  · kernel_rfl
  · intro l hl
    rw [Try.params10] at hl
    match l, hl with
    | [a, b, c], _ => rfl
  · rw [Try.params10]; decide
  · rintro xs ⟨x0, l0, rfl, h0, x1, l1, rfl, h1, x2, l2, rfl, h2, rfl⟩
    obtain ⟨n, l, rfl, ho⟩ := h0; obtain ⟨a, rfl, _⟩ := h1; obtain ⟨b, rfl, _⟩ := h2; exact main10 ho fun _ _ => rfl
theorem over10 : Rows.rolesPlaysRow.holds Try.pinned (OpenSpec.ofChange Rows.rolesPlaysSpec) :=
  OpenClaim.holds_of_wide 10 Try.f10 rfl rfl rfl rfl rfl rfl rfl ⟨rfl, rfl, rfl, rfl, rfl⟩ rfl rfl rfl rfl rfl (by kernel_rfl) Try.func10 (by kernel_rfl)
    (of_decide_eq_true (by kernel_rfl)) (by unfold Func.isWrapper; first | (rw [if_pos (by decide +kernel)]; kernel_rfl) | (rw [if_neg (by decide +kernel)]; exact ⟨rfl, rfl⟩))
    (fun os started H enc _ => lifted10 os started H enc)
end GP
namespace Go.Proofs.Ytjpbliffonimgaa
theorem rolesPlays_holds : Rows.RolesPlaysSaid := GP.over10
#print axioms rolesPlays_holds
end Go.Proofs.Ytjpbliffonimgaa
