/- ValueSums returns true for every input, and its arguments read behind the call as before. No condition beyond the row's own. -/
import Derived.Test.YtoobncfcgknecaaGpF27
set_option linter.unusedSimpArgs false
namespace GP
open Go Go.Proofs Go.Proofs.Ytoobncfcgknecaa
open Go.ChangeShapes Go.WideShapes Go.ChangeAt Go.RowKit
set_option maxRecDepth 100000

/-- A value of the program whose number is one of 64 bits. -/
def isVr (x : D) : Prop := x.isV = true ∧ -(2 ^ 63) ≤ vi x ∧ vi x < 2 ^ 63
theorem rdVr (W : World) (fuel : Nat) : Rds Try.prog W 24 (fun ds => isVr (D.agg ds)) fuel := by
  cases fuel with
  | zero => exact fun _ _ _ _ _ h _ => by simp [DataW.trod] at h
  | succ fuel =>
    obtain ⟨h24, h22⟩ := rdV W fuel
    refine (rds_struct (P := Try.prog) (w := W) (φs := [fun ds => ∃ n, ds = [.int .i64 n] ∧ IntKind.i64.min ≤ n ∧ n ≤ IntKind.i64.max, fun ds => ∃ n, ds = [.int .i64 n] ∧ IntKind.i64.min ≤ n ∧ n ≤ IntKind.i64.max, fun ds => ∃ l, ds = [.str l] ∧ l.length ≤ 2 ^ 47, isL]) Try.underlying24 rfl ?_ ?_ ?_).imp ?_
    · simp only [FldsOf, cells3, cells2, cells9, and_self, and_true, Nat.zero_add, Nat.reduceAdd]
    · simp only [List.map_cons, List.map_nil, cells3, cells2, cells9, cells22, cells24]; rfl
    · intro i f φ e1 e2
      match i with
      | 0 => simp at e1 e2; subst e1; subst e2; exact rds_int Try.underlying3 fuel
      | 1 => simp at e1 e2; subst e1; subst e2; exact rds_int Try.underlying2 fuel
      | 2 => simp at e1 e2; subst e1; subst e2; exact rds_string Try.underlying9 fuel
      | 3 => simp at e1 e2; subst e1; subst e2; exact h22
      | i + 4 => simp at e1
    · rintro ds ⟨x1, y1, rfl, ⟨k, rfl, _⟩, x2, y2, rfl, ⟨i, rfl, i1, i2⟩, x3, y3, rfl, ⟨s, rfl, hs⟩, x4, y4, rfl, ⟨l, rfl, hl⟩, rfl⟩
      have e1 : IntKind.i64.min = -(2 ^ 63) := by decide
      have e2 : IntKind.i64.max = 2 ^ 63 - 1 := by decide
      rw [e1] at i1; rw [e2] at i2
      refine ⟨?_, ?_, ?_⟩
      · rcases hl with rfl | ⟨xs, rfl, h1, h2⟩
        · simp [D.isV, hs]
        · simp [D.isV, hs, h1, isVs_iff.2 h2]
      · show -(2 ^ 63) ≤ i; omega
      · show i < 2 ^ 63; omega

theorem argVr (W : World) : Arg Try.prog W 24 isVr := by
  intro H enc v d ps base h1 h2 h3
  obtain ⟨x, k1, ds, rfl, k2⟩ := arg_struct Try.underlying24 (fun f => rdVr W f) H enc v d ps base h1 h2 h3
  exact ⟨_, k1, k2⟩

theorem args7 (W : World) : Args Try.prog W Try.f7.params.toList (fun l => ∃ x xs, l = x :: xs ∧ isVr x ∧ ∃ y ys, xs = y :: ys ∧ isVr y ∧ ys = []) := by
  rw [Try.params7]
  exact .cons (argVr W) (.cons (argVr W) .nil)

theorem lifted7 (os : Os) (started : os.Started) (H : Type) (enc : TypeId × Value → H) :
    ReturnsInHanded {} Try.checked os 7 .any (Rows.valueSumsSpec.pre6 enc Try.prog Try.f7 Rows.valueSumsRow.domain false) (Rows.valueSumsSpec.post enc Try.prog Try.f7 false true false false) := by
  refine returnsInHanded_of_change_sized (C := Try.checked) own6 started (by kernel_rfl) Try.func7
    (ChangeSpec.witness6 (enc := enc) (C := Try.checked) false ⟨#[], #[.agg #[.int .i64 0, .int .i64 0, .string ⟨#[]⟩, .slice none 0 0], .agg #[.int .i64 0, .int .i64 0, .string ⟨#[]⟩, .slice none 0 0]], []⟩ 8 (by kernel_rfl) (by kernel_rfl) (by kernel_rfl) (by kernel_rfl)) ?_
  intro W base args ds gs before hval hW hcnd hsz _
  refine law_contract laid6 rowed6 full6 ?_ rfl (tb := 4) ?_ Try.underlying4 hval hW hsz ?_ (args7 W) fn7 ?_ ?_
  · rw [Try.params7]; exact of_decide_eq_true (by kernel_rfl)
  · kernel_rfl
  · intro l hl
    rw [Try.params7] at hl
    match l, hl with
    | [a, b], _ => rfl
  · rw [Try.params7]; decide
  · rintro xs ⟨x', xs2, rfl, hx', y, ys, rfl, hy, rfl⟩
    exact main7 x' y hx'.1 hy.1 hx'.2 hy.2 [] []

theorem over7 : Rows.valueSumsRow.holds Try.pinned (OpenSpec.ofChange Rows.valueSumsSpec) :=
  OpenClaim.holds_of_wide 7 Try.f7 rfl rfl rfl rfl rfl rfl rfl ⟨rfl, rfl, rfl, rfl, rfl⟩ rfl rfl rfl rfl rfl (by kernel_rfl) Try.func7 (by kernel_rfl)
    (of_decide_eq_true (by kernel_rfl)) (by unfold Func.isWrapper; first | (rw [if_pos (by decide +kernel)]; kernel_rfl) | (rw [if_neg (by decide +kernel)]; exact ⟨rfl, rfl⟩))
    (fun os started H enc _ => lifted7 os started H enc)
end GP
namespace Go.Proofs.Ytoobncfcgknecaa
theorem valueSums_holds : Rows.ValueSumsSaid := GP.over7
#print axioms valueSums_holds
end Go.Proofs.Ytoobncfcgknecaa
