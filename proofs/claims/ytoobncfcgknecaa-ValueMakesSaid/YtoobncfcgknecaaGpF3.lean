/- ValueMakes returns true for every input, and its arguments read behind the call as before. No condition beyond the row's own. -/
import Derived.Test.YtoobncfcgknecaaGpF2
import Derived.JoinedOf
set_option linter.unusedSimpArgs false
namespace GP
open Go Go.Proofs Go.Proofs.Ytoobncfcgknecaa
open Go.ChangeShapes Go.WideShapes Go.ChangeAt Go.RowKit
set_option maxRecDepth 100000

theorem own : ownKnob Try.prog.godebug = none := by kernel_rfl
theorem laid : laidOutB Try.prog = true := by kernel_rfl
theorem rowed : mapsRowed Try.prog = true := by kernel_rfl
theorem full : ((List.range Try.prog.types.size).all fun t => match Try.prog.underlying t with | some (.slice e) => decide (0 < Try.prog.cellsOf e) | _ => true) = true := by kernel_rfl

theorem args4 (W : World) : Args Try.prog W Try.f4.params.toList (fun l => ∃ x xs, l = x :: xs ∧ (∃ b, [x] = [.bool b]) ∧ ∃ x' xs', xs = x' :: xs' ∧ (∃ n, [x'] = [.int .i64 n] ∧ IntKind.i64.min ≤ n ∧ n ≤ IntKind.i64.max) ∧ ∃ y ys, xs' = y :: ys ∧ (∃ s, [y] = [.str s] ∧ s.length ≤ 2 ^ 47) ∧ ys = []) := by
  rw [Try.params4]
  exact .cons (arg_one Try.underlying4 rfl fun f => rds_bool Try.underlying4 f) (.cons (arg_one Try.underlying2 rfl fun f => rds_int Try.underlying2 f) (.cons (arg_one Try.underlying9 rfl fun f => rds_string Try.underlying9 f) .nil))

theorem lifted4 (os : Os) (started : os.Started) (H : Type) (enc : TypeId × Value → H) :
    ReturnsInHanded {} Try.checked os 4 .any (Rows.valueMakesSpec.pre6 enc Try.prog Try.f4 Rows.valueMakesRow.domain false) (Rows.valueMakesSpec.post enc Try.prog Try.f4 false true false false) := by
  refine returnsInHanded_of_change_sized (C := Try.checked) own started (by kernel_rfl) Try.func4
    (ChangeSpec.witness6 (enc := enc) (C := Try.checked) false ⟨#[], #[.bool false, .int .i64 0, .string ⟨#[]⟩], []⟩ 8 (by kernel_rfl) (by kernel_rfl) (by kernel_rfl) (by kernel_rfl)) ?_
  intro W base args ds gs before hval hW hcnd hsz _
  refine law_contract laid rowed full ?_ rfl (tb := 4) ?_ Try.underlying4 hval hW hsz ?_ (args4 W) fn4 ?_ ?_
  · rw [Try.params4]; exact of_decide_eq_true (by kernel_rfl)
  · kernel_rfl
  · intro l hl
    rw [Try.params4] at hl
    match l, hl with
    | [a, b, c], _ => rfl
  · rw [Try.params4]; decide
  · rintro xs ⟨x, xs1, rfl, ⟨b, hb⟩, x', xs2, rfl, ⟨n, hn, _⟩, y, ys, rfl, ⟨s, hs, hl⟩, rfl⟩
    injection hb with hb; injection hn with hn; injection hs with hs
    subst hb; subst hn; subst hs
    exact main4 b n s hl [] []

theorem over4 : Rows.valueMakesRow.holds Try.pinned (OpenSpec.ofChange Rows.valueMakesSpec) :=
  OpenClaim.holds_of_wide 4 Try.f4 rfl rfl rfl rfl rfl rfl rfl ⟨rfl, rfl, rfl, rfl, rfl⟩ rfl rfl rfl rfl rfl (by kernel_rfl) Try.func4 (by kernel_rfl)
    (of_decide_eq_true (by kernel_rfl)) (by unfold Func.isWrapper; first | (rw [if_pos (by decide +kernel)]; kernel_rfl) | (rw [if_neg (by decide +kernel)]; exact ⟨rfl, rfl⟩))
    (fun os started H enc _ => lifted4 os started H enc)

end GP
namespace Go.Proofs.Ytoobncfcgknecaa
theorem valueMakes_holds : Rows.ValueMakesSaid := GP.over4
#print axioms valueMakes_holds
end Go.Proofs.Ytoobncfcgknecaa
