/- StoreOwn returns true for every input, and its arguments read behind the call as before. No condition beyond the row's own. -/
import Derived.Test.YtjpbliffonimgaaM10
import Derived.Test.YtjpbliffonimgaaM11
set_option linter.unusedSimpArgs false
set_option linter.unnecessarySimpa false
set_option linter.unusedSectionVars false
namespace GP
open Go Go.Proofs Go.Proofs.Ytjpbliffonimgaa
open Go.ChangeShapes Go.WideShapes Go.ChangeAt Go.RowKit
set_option maxRecDepth 100000
theorem args5 (W : World) : Args Try.prog W Try.f5.params.toList (fun l => ∃ x0 l0, l = x0 :: l0 ∧ (isLs isF x0) ∧ ∃ x1 l1, l0 = x1 :: l1 ∧ (isLs isO x1) ∧ ∃ x2 l2, l1 = x2 :: l2 ∧ (isO x2) ∧ l2 = []) := by
  rw [Try.params5]
  exact .cons (argF W) (.cons (argOs W) (.cons (argO W) .nil))
theorem lifted5 (os : Os) (started : os.Started) (H : Type) (enc : TypeId × Value → H) :
    ReturnsInHanded {} Try.checked os 5 .any (Rows.storeOwnSpec.pre6 enc Try.prog Try.f5 Rows.storeOwnRow.domain false) (Rows.storeOwnSpec.post enc Try.prog Try.f5 false true false false) := by
  refine returnsInHanded_of_change_sized (C := Try.checked) own6 started (by kernel_rfl) Try.func5
    (ChangeSpec.witness6 (enc := enc) (C := Try.checked) false ⟨#[], #[.slice none 0 0, .slice none 0 0, .agg #[.int .u8 0, .string ⟨#[]⟩, .string ⟨#[]⟩, .string ⟨#[]⟩, .int .i64 0, .int .i64 0, .string ⟨#[]⟩, .slice none 0 0]], []⟩ 8 (by kernel_rfl) (by kernel_rfl) (by kernel_rfl) (by kernel_rfl)) ?_
  intro W base args ds gs before hval hW hcnd hsz _
  refine law_contract (P := Try.prog) laid6 rowed6 full6 ?_ rfl (tb := 4) ?_ Try.underlying4 hval hW hsz ?_ (args5 W) fn5 ?_ trivial ?_
  · rw [Try.params5]; exact of_decide_eq_true (by kernel_rfl)
  · kernel_rfl
  · intro l hl
    rw [Try.params5] at hl
    match l, hl with
    | [a, b, c], _ => rfl
  · rw [Try.params5]; decide
  · rintro xs ⟨x0, l0, rfl, h0, x1, l1, rfl, h1, x2, l2, rfl, h2, rfl⟩
    obtain ⟨nf, fl, rfl, h3, h4⟩ := h0; obtain ⟨n, ops, rfl, h7, h8⟩ := h1; exact main5 h2 h8 h7 h4 h3 fun _ _ => rfl
theorem over5 : Rows.storeOwnRow.holds Try.pinned (OpenSpec.ofChange Rows.storeOwnSpec) :=
  OpenClaim.holds_of_wide 5 Try.f5 rfl rfl rfl rfl rfl rfl rfl ⟨rfl, rfl, rfl, rfl, rfl⟩ rfl rfl rfl rfl rfl (by kernel_rfl) Try.func5 (by kernel_rfl)
    (of_decide_eq_true (by kernel_rfl)) (by unfold Func.isWrapper; first | (rw [if_pos (by decide +kernel)]; kernel_rfl) | (rw [if_neg (by decide +kernel)]; exact ⟨rfl, rfl⟩))
    (fun os started H enc _ => lifted5 os started H enc)
end GP
namespace Go.Proofs.Ytjpbliffonimgaa
theorem storeOwn_holds : Rows.StoreOwnSaid := GP.over5
#print axioms storeOwn_holds
end Go.Proofs.Ytjpbliffonimgaa
