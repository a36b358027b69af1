/- LexMany returns true for every input, and its arguments read behind the call as before. The listed package-level variables start as the program's text lays them: the card ties them. No other condition. -/
import Derived.Test.YtnipbngimicldaaDoorGpdR
import Derived.Test.YtnipbngimicldaaDoorGpdA4
set_option linter.unusedSimpArgs false
namespace GP
open Go Go.Proofs Go.Proofs.YtnipbngimicldaaDoor
open Go.ChangeShapes Go.WideShapes Go.ChangeAt Go.RowKit
set_option maxRecDepth 100000
theorem args4 (W : World) : Args Tryd.prog W Tryd.f4.params.toList (fun l => ∃ x0 l0, l = x0 :: l0 ∧ (∃ n, [x0] = [.int .u16 n] ∧ IntKind.u16.min ≤ n ∧ n ≤ IntKind.u16.max) ∧ l0 = []) := by
  rw [Tryd.params4]
  exact .cons (arg_one Tryd.underlying36 rfl fun f => rds_int Tryd.underlying36 f) .nil
theorem lifted4 (os : Os) (started : os.Started) (H : Type) (enc : TypeId × Value → H) :
    ReturnsInHanded {} Tryd.checked os 4 .any (fun w args => (Rows.lexManySpec.pre enc Tryd.prog Tryd.f4 [] false w args ∧ laidMetH Tryd.prog laidD w) ∧ sizedMet enc Tryd.prog Tryd.f4 (OpenSpec.ofChange Rows.lexManySpec) false w args)
      (Rows.lexManySpec.post enc Tryd.prog Tryd.f4 false true false false) := by
  refine returnsInHanded_of_change_and (C := Tryd.checked) (X := fun w _ => laidMetH Tryd.prog laidD w) (fun _ _ _ hh h => h.of_heap hh) own6 started (by kernel_rfl) Tryd.func4
    (ChangeSpec.witness_shaped (enc := enc) (C := Tryd.checked) (os := os) (X := fun w _ => laidMetH Tryd.prog laidD w) false (World.laidAll Tryd.prog os laidD) #[.int .u16 0] 8 (World.laidAll_os _ _ _)
      (World.shaped_of_ZipB (by kernel_rfl) (by kernel_rfl)) (by kernel_rfl) (by kernel_rfl) (by kernel_rfl)
      (by rw [MakeChecks.laidMetH_plain _ _ _ (by kernel_rfl)]; exact laidMet_laidAll _ (by kernel_rfl) (by kernel_rfl))) ?_
  intro W base args ds gs before hval hW hcnd hsz hL _
  refine law_contract (P := Tryd.prog) laid6 rowed6 full6 ?_ rfl (tb := 4) ?_ Tryd.underlying4 hval hW hsz ?_ (args4 W) fn4 ?_ (vars_of_laid hL) ?_
  · rw [Tryd.params4]; exact of_decide_eq_true (by kernel_rfl)
  · kernel_rfl
  · intro l hl
    rw [Tryd.params4] at hl
    match l, hl with
    | [a], _ => rfl
  · rw [Tryd.params4]; decide
  · rintro xs ⟨x0, l0, rfl, h0, rfl⟩
    obtain ⟨n, e, h1, h2⟩ := h0; injection e with e; subst e; have a : IntKind.u16.min = 0 := by decide
    have b : IntKind.u16.max = 65535 := by decide
    exact main4 n (by omega) (by omega) [] []
theorem over4 : Rows.LexManySaid :=
  OpenClaim.holds_of_wide 4 Tryd.f4 rfl rfl rfl rfl rfl rfl rfl ⟨rfl, rfl, rfl, rfl, rfl⟩ rfl rfl rfl rfl rfl (by kernel_rfl) Tryd.func4 (by kernel_rfl)
    (of_decide_eq_true (by kernel_rfl)) (by unfold Func.isWrapper; first | (rw [if_pos (by decide +kernel)]; kernel_rfl) | (rw [if_neg (by decide +kernel)]; exact ⟨rfl, rfl⟩))
    (fun os started H enc _ => lifted4 os started H enc)
theorem standIn4 (j : Nat) (t : TypeId) (ht : Tryd.f4.params[j]? = some t) : Tryd.prog.wantsStandIn t = false := by
  have h : (Tryd.f4.params.toList.all fun t => !(Tryd.prog.wantsStandIn t)) = true := by kernel_rfl
  have := List.all_eq_true.1 h t (List.mem_of_getElem? (i := j) (by simpa using ht))
  simpa using this
theorem card4 : Rows.LexManyCardSaid :=
  Claim7.holds_tied_plain_at .later [] [.data, .data, .data, .sentinel, .sentinel] true (true, "f5bd301bafa4e043dca95a684d59b8e224463aaedc9974e52f8f976aef7d11ab") true
    over4 (fun _ h => by cases h) (by kernel_rfl) (fun _ h => by cases h) lexMany_row_tie rfl ⟨rfl, rfl⟩ (by kernel_rfl) rfl
    (fun f fn hf hfn => by
      obtain rfl : f = 4 := Option.some.inj ((show Tryd.prog.funcNamed "gatepost/gatepostlaw07.LexMany" = some 4 by kernel_rfl).symm.trans hf) |>.symm
      obtain rfl : fn = Tryd.f4 := (Option.some.inj (Tryd.func4.symm.trans hfn)).symm
      exact ⟨by kernel_rfl, fun j t ht => standIn4 j t ht⟩)
    (by kernel_rfl)
end GP
namespace Go.Proofs.YtnipbngimicldaaDoor
theorem lexMany_card_holds : Rows.LexManyCardSaid := GP.card4
#print axioms lexMany_card_holds
end Go.Proofs.YtnipbngimicldaaDoor
