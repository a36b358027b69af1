/- StorePlays returns true for every input, and its arguments read behind the call as before. No condition beyond the row's own. -/
import Derived.Test.YtjpbliffonimgaaM10
set_option linter.unusedSimpArgs false
set_option linter.unnecessarySimpa false
set_option linter.unusedSectionVars false
namespace GP
open Go Go.Proofs Go.Proofs.Ytjpbliffonimgaa
open Go.ChangeShapes Go.WideShapes Go.ChangeAt Go.RowKit
set_option maxRecDepth 100000
theorem args4 (W : World) : Args Try.prog W Try.f4.params.toList (fun l => ∃ x0 l0, l = x0 :: l0 ∧ (isLs isF x0) ∧ ∃ x1 l1, l0 = x1 :: l1 ∧ (isLs isO x1) ∧ l1 = []) := by
  rw [Try.params4]
  exact .cons (argF W) (.cons (argOs W) .nil)
theorem lifted4 (os : Os) (started : os.Started) (H : Type) (enc : TypeId × Value → H) :
    ReturnsInHanded {} Try.checked os 4 .any (Rows.storePlaysSpec.pre6 enc Try.prog Try.f4 Rows.storePlaysRow.domain false) (Rows.storePlaysSpec.post enc Try.prog Try.f4 false true false false) := by
  refine returnsInHanded_of_change_sized (C := Try.checked) own6 started (by kernel_rfl) Try.func4
    (ChangeSpec.witness6 (enc := enc) (C := Try.checked) false ⟨#[], #[.slice none 0 0, .slice none 0 0], []⟩ 8 (by kernel_rfl) (by kernel_rfl) (by kernel_rfl) (by kernel_rfl)) ?_
  intro W base args ds gs before hval hW hcnd hsz _
  refine law_contract (P := Try.prog) laid6 rowed6 full6 ?_ rfl (tb := 4) ?_ Try.underlying4 hval hW hsz ?_ (args4 W) fn4 ?_ trivial ?_
  · rw [Try.params4]; exact of_decide_eq_true (by kernel_rfl)
  · kernel_rfl
  · intro l hl
    rw [Try.params4] at hl
    match l, hl with
    | [a, b], _ => rfl
  · rw [Try.params4]; decide
  · rintro xs ⟨x0, l0, rfl, h0, x1, l1, rfl, h1, rfl⟩
    obtain ⟨nf, fl, rfl, h2, h3⟩ := h0; obtain ⟨n, ops, rfl, h5, h6⟩ := h1; exact main4 h6 h5 h3 h2 fun _ _ => rfl
theorem over4 : Rows.storePlaysRow.holds Try.pinned (OpenSpec.ofChange Rows.storePlaysSpec) :=
  OpenClaim.holds_of_wide 4 Try.f4 rfl rfl rfl rfl rfl rfl rfl ⟨rfl, rfl, rfl, rfl, rfl⟩ rfl rfl rfl rfl rfl (by kernel_rfl) Try.func4 (by kernel_rfl)
    (of_decide_eq_true (by kernel_rfl)) (by unfold Func.isWrapper; first | (rw [if_pos (by decide +kernel)]; kernel_rfl) | (rw [if_neg (by decide +kernel)]; exact ⟨rfl, rfl⟩))
    (fun os started H enc _ => lifted4 os started H enc)
end GP
namespace Go.Proofs.Ytjpbliffonimgaa
theorem storePlays_holds : Rows.StorePlaysSaid := GP.over4
#print axioms storePlays_holds
end Go.Proofs.Ytjpbliffonimgaa
