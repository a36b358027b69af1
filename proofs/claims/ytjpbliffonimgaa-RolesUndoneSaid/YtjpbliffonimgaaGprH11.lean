/- RolesUndone returns true for every input, and its arguments read behind the call as before. No condition beyond the row's own. -/
import Derived.Test.YtjpbliffonimgaaM8
set_option linter.unusedSimpArgs false
set_option linter.unnecessarySimpa false
set_option linter.unusedSectionVars false
namespace GP
open Go Go.Proofs Go.Proofs.Ytjpbliffonimgaa
open Go.ChangeShapes Go.WideShapes Go.ChangeAt Go.RowKit
set_option maxRecDepth 100000
theorem args11 (W : World) : Args Try.prog W Try.f11.params.toList (fun l => ∃ x0 l0, l = x0 :: l0 ∧ (isSts x0) ∧ ∃ x1 l1, l0 = x1 :: l1 ∧ (isSt x1) ∧ ∃ x2 l2, l1 = x2 :: l2 ∧ (∃ n, x2 = .int .u8 n ∧ 0 ≤ n ∧ n ≤ 255) ∧ l2 = []) := by
  rw [Try.params11]
  exact .cons (argSts W) (.cons (argSt W) (.cons (argU8 W) .nil))
theorem lifted11 (os : Os) (started : os.Started) (H : Type) (enc : TypeId × Value → H) :
    ReturnsInHanded {} Try.checked os 11 .any (Rows.rolesUndoneSpec.pre6 enc Try.prog Try.f11 Rows.rolesUndoneRow.domain false) (Rows.rolesUndoneSpec.post enc Try.prog Try.f11 false true false false) := by
  refine returnsInHanded_of_change_sized (C := Try.checked) own6 started (by kernel_rfl) Try.func11
    (ChangeSpec.witness6 (enc := enc) (C := Try.checked) false ⟨#[], #[.slice none 0 0, .agg #[.int .u8 0, .string ⟨#[]⟩, .string ⟨#[]⟩], .int .u8 0], []⟩ 8 (by kernel_rfl) (by kernel_rfl) (by kernel_rfl) (by kernel_rfl)) ?_
  intro W base args ds gs before hval hW hcnd hsz _
  refine law_contract (P := Try.prog) laid6 rowed6 full6 ?_ rfl (tb := 4) ?_ Try.underlying4 hval hW hsz ?_ (args11 W) fn11 ?_ trivial ?_
  · rw [Try.params11]; exact of_decide_eq_true (by kernel_rfl)
  · kernel_rfl
  · intro l hl
    rw [Try.params11] at hl
    match l, hl with
    | [a, b, c], _ => rfl
  · rw [Try.params11]; decide
  · rintro xs ⟨x0, l0, rfl, h0, x1, l1, rfl, h1, x2, l2, rfl, h2, rfl⟩
    obtain ⟨n, l, rfl, ho⟩ := h0; obtain ⟨e, rfl, e0, e1⟩ := h1; obtain ⟨y, rfl, y0, y1⟩ := h2; exact main11 cloneOk ho ⟨e0, e1⟩ ⟨y0, y1⟩ fun _ _ => rfl
theorem over11 : Rows.rolesUndoneRow.holds Try.pinned (OpenSpec.ofChange Rows.rolesUndoneSpec) :=
  OpenClaim.holds_of_wide 11 Try.f11 rfl rfl rfl rfl rfl rfl rfl ⟨rfl, rfl, rfl, rfl, rfl⟩ rfl rfl rfl rfl rfl (by kernel_rfl) Try.func11 (by kernel_rfl)
    (of_decide_eq_true (by kernel_rfl)) (by unfold Func.isWrapper; first | (rw [if_pos (by decide +kernel)]; kernel_rfl) | (rw [if_neg (by decide +kernel)]; exact ⟨rfl, rfl⟩))
    (fun os started H enc _ => lifted11 os started H enc)
end GP
namespace Go.Proofs.Ytjpbliffonimgaa
theorem rolesUndone_holds : Rows.RolesUndoneSaid := GP.over11
#print axioms rolesUndone_holds
end Go.Proofs.Ytjpbliffonimgaa
