/- EvalTyped returns true for every input, and its arguments read behind the call as before. No condition beyond the row's own. -/
import Derived.Test.YtnipbngimicldaaGpY5
set_option linter.unusedSimpArgs false
namespace GP
open Go Go.Proofs Go.Proofs.Ytnipbngimicldaa
open Go.ChangeShapes Go.WideShapes Go.ChangeAt Go.RowKit
set_option maxRecDepth 100000
theorem args4 (W : World) : Args Try.prog W Try.f4.params.toList (fun l => ∃ x0 l0, l = x0 :: l0 ∧ (isLs isF x0) ∧ ∃ x1 l1, l0 = x1 :: l1 ∧ (∃ n, isE n x1) ∧ ∃ x2 l2, l1 = x2 :: l2 ∧ (isS x2) ∧ l2 = []) := by
  rw [Try.params4]
  exact .cons (argF W) (.cons (argE W) (.cons (argS W) .nil))
theorem lifted4 (os : Os) (started : os.Started) (H : Type) (enc : TypeId × Value → H) :
    ReturnsInHanded {} Try.checked os 4 .any (Rows.evalTypedSpec.pre6 enc Try.prog Try.f4 Rows.evalTypedRow.domain false) (Rows.evalTypedSpec.post enc Try.prog Try.f4 false true false false) := by
  refine returnsInHanded_of_change_sized (C := Try.checked) own6 started (by kernel_rfl) Try.func4
    (ChangeSpec.witness6 (enc := enc) (C := Try.checked) false ⟨#[], #[.slice none 0 0, .agg #[.string ⟨#[]⟩, .int .i64 0, .int .i64 0, .string ⟨#[]⟩, .slice none 0 0, .string ⟨#[]⟩, .string ⟨#[]⟩, .slice none 0 0], .agg #[.int .i64 0, .slice none 0 0, .slice none 0 0]], []⟩ 8 (by kernel_rfl) (by kernel_rfl) (by kernel_rfl) (by kernel_rfl)) ?_
  intro W base args ds gs before hval hW hcnd hsz _
  refine law_contract laid6 rowed6 full6 ?_ rfl (tb := 4) ?_ Try.underlying4 hval hW hsz ?_ (args4 W) fn4 ?_ ?_
  · rw [Try.params4]; exact of_decide_eq_true (by kernel_rfl)
  · kernel_rfl
  · intro l hl
    rw [Try.params4] at hl
    match l, hl with
    | [a, b, c], _ => rfl
  · rw [Try.params4]; decide
  · rintro xs ⟨x0, l0, rfl, h0, x1, l1, rfl, h1, x2, l2, rfl, h2, rfl⟩
    obtain ⟨n, h1⟩ := h1; exact main4 n x0 x1 x2 h0 h1 h2 [] []
theorem over4 : Rows.evalTypedRow.holds Try.pinned (OpenSpec.ofChange Rows.evalTypedSpec) :=
  OpenClaim.holds_of_wide 4 Try.f4 rfl rfl rfl rfl rfl rfl rfl ⟨rfl, rfl, rfl, rfl, rfl⟩ rfl rfl rfl rfl rfl (by kernel_rfl) Try.func4 (by kernel_rfl)
    (of_decide_eq_true (by kernel_rfl)) (by unfold Func.isWrapper; first | (rw [if_pos (by decide +kernel)]; kernel_rfl) | (rw [if_neg (by decide +kernel)]; exact ⟨rfl, rfl⟩))
    (fun os started H enc _ => lifted4 os started H enc)
end GP
namespace Go.Proofs.Ytnipbngimicldaa
theorem evalTyped_holds : Rows.EvalTypedSaid := GP.over4
#print axioms evalTyped_holds
end Go.Proofs.Ytnipbngimicldaa
