/- StoreRefits returns true for every input, and its arguments read behind the call as before. No condition beyond the row's own. -/
import Derived.Test.YtjpbliffonimgaaM10
set_option linter.unusedSimpArgs false
set_option linter.unnecessarySimpa false
set_option linter.unusedSectionVars false
namespace GP
open Go Go.Proofs Go.Proofs.Ytjpbliffonimgaa
open Go.ChangeShapes Go.WideShapes Go.ChangeAt Go.RowKit
set_option maxRecDepth 100000
theorem args6 (W : World) : Args Try.prog W Try.f6.params.toList (fun l => ∃ x0 l0, l = x0 :: l0 ∧ (isLs isF x0) ∧ ∃ x1 l1, l0 = x1 :: l1 ∧ (isLs isF x1) ∧ ∃ x2 l2, l1 = x2 :: l2 ∧ (isLs isO x2) ∧ l2 = []) := by
  rw [Try.params6]
  exact .cons (argF W) (.cons (argF W) (.cons (argOs W) .nil))
theorem lifted6 (os : Os) (started : os.Started) (H : Type) (enc : TypeId × Value → H) :
    ReturnsInHanded {} Try.checked os 6 .any (Rows.storeRefitsSpec.pre6 enc Try.prog Try.f6 Rows.storeRefitsRow.domain false) (Rows.storeRefitsSpec.post enc Try.prog Try.f6 false true false false) := by
  refine returnsInHanded_of_change_sized (C := Try.checked) own6 started (by kernel_rfl) Try.func6
    (ChangeSpec.witness6 (enc := enc) (C := Try.checked) false ⟨#[], #[.slice none 0 0, .slice none 0 0, .slice none 0 0], []⟩ 8 (by kernel_rfl) (by kernel_rfl) (by kernel_rfl) (by kernel_rfl)) ?_
  intro W base args ds gs before hval hW hcnd hsz _
  refine law_contract (P := Try.prog) laid6 rowed6 full6 ?_ rfl (tb := 4) ?_ Try.underlying4 hval hW hsz ?_ (args6 W) fn6 ?_ trivial ?_
  · rw [Try.params6]; exact of_decide_eq_true (by kernel_rfl)
  · kernel_rfl
  · intro l hl
    rw [Try.params6] at hl
    match l, hl with
    | [a, b, c], _ => rfl
  · rw [Try.params6]; decide
  · rintro xs ⟨x0, l0, rfl, h0, x1, l1, rfl, h1, x2, l2, rfl, h2, rfl⟩
    obtain ⟨nf, fl, rfl, h3, h4⟩ := h0; obtain ⟨ng, gl, rfl, h5, h6⟩ := h1; obtain ⟨n, ops, rfl, h7, h8⟩ := h2; exact main6 h8 h7 h4 h3 h6 h5 fun _ _ => rfl
theorem over6 : Rows.storeRefitsRow.holds Try.pinned (OpenSpec.ofChange Rows.storeRefitsSpec) :=
  OpenClaim.holds_of_wide 6 Try.f6 rfl rfl rfl rfl rfl rfl rfl ⟨rfl, rfl, rfl, rfl, rfl⟩ rfl rfl rfl rfl rfl (by kernel_rfl) Try.func6 (by kernel_rfl)
    (of_decide_eq_true (by kernel_rfl)) (by unfold Func.isWrapper; first | (rw [if_pos (by decide +kernel)]; kernel_rfl) | (rw [if_neg (by decide +kernel)]; exact ⟨rfl, rfl⟩))
    (fun os started H enc _ => lifted6 os started H enc)
end GP
namespace Go.Proofs.Ytjpbliffonimgaa
theorem storeRefits_holds : Rows.StoreRefitsSaid := GP.over6
#print axioms storeRefits_holds
end Go.Proofs.Ytjpbliffonimgaa
