/- SyntaxKept returns true for every input, and its arguments read behind the call as before. The listed package-level variables start as the program's text lays them: the card ties them. No other condition. -/
import Derived.Test.YtainhmbnbgonhaaGreatDoorM6
import Derived.Test.YtainhmbnbgonhaaGreatDoorM12
set_option linter.unusedSimpArgs false
namespace GP
open Go Go.Proofs Go.Proofs.YtainhmbnbgonhaaGreatDoor
open Go.ChangeShapes Go.WideShapes Go.ChangeAt Go.RowKit
set_option maxRecDepth 100000
theorem args3 (W : World) : Args Tryz.prog W Tryz.f3.params.toList (fun l => ∃ x0 l0, l = x0 :: l0 ∧ (∃ l, [x0] = [.str l] ∧ l.length ≤ 2 ^ 47) ∧ l0 = []) := by
  rw [Tryz.params3]
  exact .cons (arg_one Tryz.underlying9 rfl fun f => rds_string Tryz.underlying9 f) .nil
theorem lifted3 (os : Os) (started : os.Started) (H : Type) (enc : TypeId × Value → H) :
    ReturnsInHanded {} Tryz.checked os 3 .any (fun w args => (Rows.syntaxKeptSpec.pre enc Tryz.prog Tryz.f3 [] false w args ∧ laidMetH Tryz.prog laidD w) ∧ sizedMet enc Tryz.prog Tryz.f3 (OpenSpec.ofChange Rows.syntaxKeptSpec) false w args)
      (Rows.syntaxKeptSpec.post enc Tryz.prog Tryz.f3 false true false false) := by
  refine returnsInHanded_of_change_and (C := Tryz.checked) (X := fun w _ => laidMetH Tryz.prog laidD w) (fun _ _ _ hh h => h.of_heap hh) own6 started (by kernel_rfl) Tryz.func3
    (ChangeSpec.witness_shaped (enc := enc) (C := Tryz.checked) (os := os) (X := fun w _ => laidMetH Tryz.prog laidD w) false (World.laidAll Tryz.prog os laidD) #[.string ⟨#[]⟩] 8 (World.laidAll_os _ _ _)
      (World.shaped_of_ZipB (by kernel_rfl) (by kernel_rfl)) (by kernel_rfl) (by kernel_rfl) (by kernel_rfl)
      (by rw [MakeChecks.laidMetH_plain _ _ _ (by kernel_rfl)]; exact laidMet_laidAll _ (by kernel_rfl) (by kernel_rfl))) ?_
  intro W base args ds gs before hval hW hcnd hsz hL _
  refine law_contract (P := Tryz.prog) laid6 rowed6 full6 ?_ rfl (tb := 4) ?_ Tryz.underlying4 hval hW hsz ?_ (args3 W) fn3 ?_ (vars_of_laid hL) ?_
  · rw [Tryz.params3]; exact of_decide_eq_true (by kernel_rfl)
  · kernel_rfl
  · intro l hl
    rw [Tryz.params3] at hl
    match l, hl with
    | [a], _ => rfl
  · rw [Tryz.params3]; decide
  · rintro xs ⟨x0, l0, rfl, h0, rfl⟩
    obtain ⟨l, e, hl⟩ := h0; injection e with e; subst e; exact main3 l [] []
theorem k3_0 : (Rows.syntaxKeptRow.wf (OpenSpec.ofChange Rows.syntaxKeptSpec)) = true := by kernel_rfl
theorem k3_3 : (Tryz.f3.params.all (Tryz.prog.readableRec ·)) = true := by kernel_rfl
theorem k3_4 : (namedTie Tryz.prog Rows.syntaxKeptRow.named (Rows.syntaxKeptSpec).vars) = true := by kernel_rfl
theorem k3_9 : ((Rows.syntaxKeptRow.inPlace == Tryz.prog.inPlace 3)) = true := by kernel_rfl
theorem k3_10 : ((Rows.syntaxKeptRow.unfollowed == Tryz.prog.unfollowed 3)) = true := by kernel_rfl
theorem k3_11 : ((Rows.syntaxKeptRow.recurses == Tryz.prog.recurses 3)) = true := by kernel_rfl
theorem k3_12 : ((Rows.syntaxKeptRow.named == Tryz.prog.varsNamed 3)) = true := by kernel_rfl
theorem k3_17 : ((Rows.syntaxKeptRow.wideKeys == (Tryz.f3.params.toList ++ (Rows.syntaxKeptSpec).plain.varTypes Tryz.prog ++ Tryz.f3.resultTypes.toList).any (Tryz.prog.wideKeysFrom ·))) = true := by kernel_rfl
theorem k3_27 : ((Tryz.prog.make == some Rows.syntaxKeptRow.make)) = true := by kernel_rfl
theorem k3_31 : (Rows.syntaxKeptRow.veiledFits Tryz.prog Tryz.f3.params.toList (Tryz.f3.params.toList ++ (Rows.syntaxKeptSpec).plain.varTypes Tryz.prog ++ Tryz.f3.resultTypes.toList)) = true := by kernel_rfl
theorem fnd3 : Tryz.prog.funcNamed "gatepost/gatepostlaw08.SyntaxKept" = some 3 := by kernel_rfl
theorem joined3 : joinedFacts Tryz.pinned.checked.prog 3 Tryz.f3 Rows.syntaxKeptSpec Rows.syntaxKeptRow = true := andT (andT (andT (andT (andT (andT (andT (andT (andT (andT (andT (andT (andT (andT (andT (andT (andT (andT (andT (andT (andT (andT (andT (andT (andT (andT (andT (andT (andT (andT (andT (k3_0) laid6) rowed6) k3_3) k3_4) (show ((Rows.syntaxKeptRow.stops == [])) = true by kernel_rfl)) (show ((Tryz.prog.stops == [])) = true by kernel_rfl)) (show ((Rows.syntaxKeptRow.knobs == [])) = true by kernel_rfl)) (show ((Tryz.prog.stopKnobs == [])) = true by kernel_rfl)) k3_9) k3_10) k3_11) k3_12) (show ((Rows.syntaxKeptRow.maps == (Tryz.f3.params.toList ++ (Rows.syntaxKeptSpec).plain.varTypes Tryz.prog).any (Tryz.prog.mapsRec ·))) = true by kernel_rfl)) (show ((Rows.syntaxKeptRow.ifaces == (Tryz.f3.params.toList ++ (Rows.syntaxKeptSpec).plain.varTypes Tryz.prog).any (Tryz.prog.ifacesRec ·))) = true by kernel_rfl)) (show ((Rows.syntaxKeptRow.mapsOut == Tryz.prog.mapsAmong Tryz.f3.resultTypes.toList)) = true by kernel_rfl)) (show ((Rows.syntaxKeptRow.loops == (Tryz.f3.params.toList ++ (Rows.syntaxKeptSpec).plain.varTypes Tryz.prog).any (Tryz.prog.loopsFrom ·))) = true by kernel_rfl)) k3_17) (show ((Rows.syntaxKeptSpec).vars.all (Tryz.prog.varReadable ·)) = true by kernel_rfl)) (show (Tryz.f3.resultTypes.all (fun t => Tryz.prog.readableRec t && decide (t < Tryz.prog.types.size))) = true by kernel_rfl)) (show ((Rows.syntaxKeptRow.ifacesOut == Tryz.f3.resultTypes.toList.any (Tryz.prog.ifacesRec ·))) = true by kernel_rfl)) (show ((Rows.syntaxKeptRow.loopsOut == Tryz.f3.resultTypes.toList.any (Tryz.prog.loopsFrom ·))) = true by kernel_rfl)) hKeys) (show (Rows.syntaxKeptRow.shortTexts.isNone) = true by kernel_rfl)) hHeard) hMay) hLift) k3_27) (show ((Rows.syntaxKeptRow.kinds == (if Rows.syntaxKeptRow.domain.isEmpty then [] else Tryz.f3.params.toList.map fun t => match Tryz.prog.underlying t with | some (.int k) => some k | _ => none))) = true by kernel_rfl)) (show ((Rows.syntaxKeptRow.pinned == Rows.syntaxKeptRow.pinnedBy)) = true by kernel_rfl)) (show ((Rows.syntaxKeptRow.veiled == (Tryz.f3.params.toList ++ (Rows.syntaxKeptSpec).plain.varTypes Tryz.prog ++ Tryz.f3.resultTypes.toList).any (Tryz.prog.veiledRec ·))) = true by kernel_rfl)) k3_31
theorem over3 : Rows.SyntaxKeptSaid :=
  OpenClaim.holds_of_wide 3 Tryz.f3 rfl rfl rfl rfl rfl rfl rfl ⟨rfl, rfl, rfl, rfl, rfl⟩ rfl rfl rfl rfl rfl fnd3 Tryz.func3 joined3
    (of_decide_eq_true (by kernel_rfl)) (by unfold Func.isWrapper; first | (rw [if_pos (by decide +kernel)]; kernel_rfl) | (rw [if_neg (by decide +kernel)]; exact ⟨rfl, rfl⟩))
    (fun os started H enc _ => lifted3 os started H enc)
theorem byText3 : Rows.syntaxKeptRow.wfByText (OpenSpec.ofChange Rows.syntaxKeptSpec) = true := by kernel_rfl
theorem goes3 : false = Rows.syntaxKeptRow.goesBy Tryz.prog := by kernel_rfl
theorem standIn3 (j : Nat) (t : TypeId) (ht : Tryz.f3.params[j]? = some t) : Tryz.prog.wantsStandIn t = false := by
  have h : (Tryz.f3.params.toList.all fun t => !(Tryz.prog.wantsStandIn t)) = true := by kernel_rfl
  have := List.all_eq_true.1 h t (List.mem_of_getElem? (i := j) (by simpa using ht))
  simpa using this
theorem card3 : Rows.SyntaxKeptCardSaid :=
  Claim7.holds_tied_plain_at .later [] [.data, .data, .data, .sentinel, .sentinel] true (true, "80a834c457ab35883543603980dd7f217c45191a846bf96d7f461e86fb45756a") true
    over3 (fun _ h => by cases h) byText3 (fun _ h => by cases h) syntaxKept_row_tie rfl ⟨rfl, rfl⟩ hMain rfl
    (fun f fn hf hfn => by
      obtain rfl : f = 3 := Option.some.inj (fnd3.symm.trans hf) |>.symm
      obtain rfl : fn = Tryz.f3 := (Option.some.inj (Tryz.func3.symm.trans hfn)).symm
      exact ⟨hLooks, fun j t ht => standIn3 j t ht⟩)
    goes3
end GP
namespace Go.Proofs.YtainhmbnbgonhaaGreatDoor
theorem syntaxKept_card_holds : Rows.SyntaxKeptCardSaid := GP.card3
#print axioms syntaxKept_card_holds
end Go.Proofs.YtainhmbnbgonhaaGreatDoor
