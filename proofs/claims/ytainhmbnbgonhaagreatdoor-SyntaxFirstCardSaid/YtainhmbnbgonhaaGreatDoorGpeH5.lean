/- SyntaxFirst returns true for every input, and its arguments read behind the call as before. The listed package-level variables start as the program's text lays them: the card ties them. No other condition. -/
import Derived.Test.YtainhmbnbgonhaaGreatDoorM14
set_option linter.unusedSimpArgs false
namespace GP
open Go Go.Proofs Go.Proofs.YtainhmbnbgonhaaGreatDoor
open Go.ChangeShapes Go.WideShapes Go.ChangeAt Go.RowKit
set_option maxRecDepth 100000
theorem args5 (W : World) : Args Tryz.prog W Tryz.f5.params.toList (fun l => ∃ x0 l0, l = x0 :: l0 ∧ (isLs isTB x0) ∧ l0 = []) := by
  rw [Tryz.params5]
  exact .cons (argTs W) .nil
theorem lifted5 (os : Os) (started : os.Started) (H : Type) (enc : TypeId × Value → H) :
    ReturnsInHanded {} Tryz.checked os 5 .any (fun w args => (Rows.syntaxFirstSpec.pre enc Tryz.prog Tryz.f5 [] false w args ∧ laidMetH Tryz.prog laidD w) ∧ sizedMet enc Tryz.prog Tryz.f5 (OpenSpec.ofChange Rows.syntaxFirstSpec) false w args)
      (Rows.syntaxFirstSpec.post enc Tryz.prog Tryz.f5 false true false false) := by
  refine returnsInHanded_of_change_and (C := Tryz.checked) (X := fun w _ => laidMetH Tryz.prog laidD w) (fun _ _ _ hh h => h.of_heap hh) own6 started (by kernel_rfl) Tryz.func5
    (ChangeSpec.witness_shaped (enc := enc) (C := Tryz.checked) (os := os) (X := fun w _ => laidMetH Tryz.prog laidD w) false (World.laidAll Tryz.prog os laidD) #[.slice none 0 0] 8 (World.laidAll_os _ _ _)
      (World.shaped_of_ZipB (by kernel_rfl) (by kernel_rfl)) (by kernel_rfl) (by kernel_rfl) (by kernel_rfl)
      (by rw [MakeChecks.laidMetH_plain _ _ _ (by kernel_rfl)]; exact laidMet_laidAll _ (by kernel_rfl) (by kernel_rfl))) ?_
  intro W base args ds gs before hval hW hcnd hsz hL _
  refine law_contract (P := Tryz.prog) laid6 rowed6 full6 ?_ rfl (tb := 4) ?_ Tryz.underlying4 hval hW hsz ?_ (args5 W) fn5 ?_ (vars_of_laid hL) ?_
  · rw [Tryz.params5]; exact of_decide_eq_true (by kernel_rfl)
  · kernel_rfl
  · intro l hl
    rw [Tryz.params5] at hl
    match l, hl with
    | [a], _ => rfl
  · rw [Tryz.params5]; decide
  · rintro xs ⟨x0, l0, rfl, h0, rfl⟩
    obtain ⟨m, xs, rfl, ht, hl⟩ := isTB_all h0; exact main5 ht hl [] []
theorem k5_0 : (Rows.syntaxFirstRow.wf (OpenSpec.ofChange Rows.syntaxFirstSpec)) = true := by kernel_rfl
theorem k5_3 : (Tryz.f5.params.all (Tryz.prog.readableRec ·)) = true := by kernel_rfl
theorem k5_4 : (namedTie Tryz.prog Rows.syntaxFirstRow.named (Rows.syntaxFirstSpec).vars) = true := by kernel_rfl
theorem k5_9 : ((Rows.syntaxFirstRow.inPlace == Tryz.prog.inPlace 5)) = true := by kernel_rfl
theorem k5_10 : ((Rows.syntaxFirstRow.unfollowed == Tryz.prog.unfollowed 5)) = true := by kernel_rfl
theorem k5_11 : ((Rows.syntaxFirstRow.recurses == Tryz.prog.recurses 5)) = true := by kernel_rfl
theorem k5_12 : ((Rows.syntaxFirstRow.named == Tryz.prog.varsNamed 5)) = true := by kernel_rfl
theorem k5_17 : ((Rows.syntaxFirstRow.wideKeys == (Tryz.f5.params.toList ++ (Rows.syntaxFirstSpec).plain.varTypes Tryz.prog ++ Tryz.f5.resultTypes.toList).any (Tryz.prog.wideKeysFrom ·))) = true := by kernel_rfl
theorem k5_27 : ((Tryz.prog.make == some Rows.syntaxFirstRow.make)) = true := by kernel_rfl
theorem k5_31 : (Rows.syntaxFirstRow.veiledFits Tryz.prog Tryz.f5.params.toList (Tryz.f5.params.toList ++ (Rows.syntaxFirstSpec).plain.varTypes Tryz.prog ++ Tryz.f5.resultTypes.toList)) = true := by kernel_rfl
theorem fnd5 : Tryz.prog.funcNamed "gatepost/gatepostlaw08.SyntaxFirst" = some 5 := by kernel_rfl
theorem joined5 : joinedFacts Tryz.pinned.checked.prog 5 Tryz.f5 Rows.syntaxFirstSpec Rows.syntaxFirstRow = true := andT (andT (andT (andT (andT (andT (andT (andT (andT (andT (andT (andT (andT (andT (andT (andT (andT (andT (andT (andT (andT (andT (andT (andT (andT (andT (andT (andT (andT (andT (andT (k5_0) laid6) rowed6) k5_3) k5_4) (show ((Rows.syntaxFirstRow.stops == [])) = true by kernel_rfl)) (show ((Tryz.prog.stops == [])) = true by kernel_rfl)) (show ((Rows.syntaxFirstRow.knobs == [])) = true by kernel_rfl)) (show ((Tryz.prog.stopKnobs == [])) = true by kernel_rfl)) k5_9) k5_10) k5_11) k5_12) (show ((Rows.syntaxFirstRow.maps == (Tryz.f5.params.toList ++ (Rows.syntaxFirstSpec).plain.varTypes Tryz.prog).any (Tryz.prog.mapsRec ·))) = true by kernel_rfl)) (show ((Rows.syntaxFirstRow.ifaces == (Tryz.f5.params.toList ++ (Rows.syntaxFirstSpec).plain.varTypes Tryz.prog).any (Tryz.prog.ifacesRec ·))) = true by kernel_rfl)) (show ((Rows.syntaxFirstRow.mapsOut == Tryz.prog.mapsAmong Tryz.f5.resultTypes.toList)) = true by kernel_rfl)) (show ((Rows.syntaxFirstRow.loops == (Tryz.f5.params.toList ++ (Rows.syntaxFirstSpec).plain.varTypes Tryz.prog).any (Tryz.prog.loopsFrom ·))) = true by kernel_rfl)) k5_17) (show ((Rows.syntaxFirstSpec).vars.all (Tryz.prog.varReadable ·)) = true by kernel_rfl)) (show (Tryz.f5.resultTypes.all (fun t => Tryz.prog.readableRec t && decide (t < Tryz.prog.types.size))) = true by kernel_rfl)) (show ((Rows.syntaxFirstRow.ifacesOut == Tryz.f5.resultTypes.toList.any (Tryz.prog.ifacesRec ·))) = true by kernel_rfl)) (show ((Rows.syntaxFirstRow.loopsOut == Tryz.f5.resultTypes.toList.any (Tryz.prog.loopsFrom ·))) = true by kernel_rfl)) hKeys) (show (Rows.syntaxFirstRow.shortTexts.isNone) = true by kernel_rfl)) hHeard) hMay) hLift) k5_27) (show ((Rows.syntaxFirstRow.kinds == (if Rows.syntaxFirstRow.domain.isEmpty then [] else Tryz.f5.params.toList.map fun t => match Tryz.prog.underlying t with | some (.int k) => some k | _ => none))) = true by kernel_rfl)) (show ((Rows.syntaxFirstRow.pinned == Rows.syntaxFirstRow.pinnedBy)) = true by kernel_rfl)) (show ((Rows.syntaxFirstRow.veiled == (Tryz.f5.params.toList ++ (Rows.syntaxFirstSpec).plain.varTypes Tryz.prog ++ Tryz.f5.resultTypes.toList).any (Tryz.prog.veiledRec ·))) = true by kernel_rfl)) k5_31
theorem over5 : Rows.SyntaxFirstSaid :=
  OpenClaim.holds_of_wide 5 Tryz.f5 rfl rfl rfl rfl rfl rfl rfl ⟨rfl, rfl, rfl, rfl, rfl⟩ rfl rfl rfl rfl rfl fnd5 Tryz.func5 joined5
    (of_decide_eq_true (by kernel_rfl)) (by unfold Func.isWrapper; first | (rw [if_pos (by decide +kernel)]; kernel_rfl) | (rw [if_neg (by decide +kernel)]; exact ⟨rfl, rfl⟩))
    (fun os started H enc _ => lifted5 os started H enc)
theorem byText5 : Rows.syntaxFirstRow.wfByText (OpenSpec.ofChange Rows.syntaxFirstSpec) = true := by kernel_rfl
theorem goes5 : false = Rows.syntaxFirstRow.goesBy Tryz.prog := by kernel_rfl
theorem standIn5 (j : Nat) (t : TypeId) (ht : Tryz.f5.params[j]? = some t) : Tryz.prog.wantsStandIn t = false := by
  have h : (Tryz.f5.params.toList.all fun t => !(Tryz.prog.wantsStandIn t)) = true := by kernel_rfl
  have := List.all_eq_true.1 h t (List.mem_of_getElem? (i := j) (by simpa using ht))
  simpa using this
theorem card5 : Rows.SyntaxFirstCardSaid :=
  Claim7.holds_tied_plain_at .later [] [.data, .data, .data, .sentinel, .sentinel] true (true, "80a834c457ab35883543603980dd7f217c45191a846bf96d7f461e86fb45756a") true
    over5 (fun _ h => by cases h) byText5 (fun _ h => by cases h) syntaxFirst_row_tie rfl ⟨rfl, rfl⟩ hMain rfl
    (fun f fn hf hfn => by
      obtain rfl : f = 5 := Option.some.inj (fnd5.symm.trans hf) |>.symm
      obtain rfl : fn = Tryz.f5 := (Option.some.inj (Tryz.func5.symm.trans hfn)).symm
      exact ⟨hLooks, fun j t ht => standIn5 j t ht⟩)
    goes5
end GP
namespace Go.Proofs.YtainhmbnbgonhaaGreatDoor
theorem syntaxFirst_card_holds : Rows.SyntaxFirstCardSaid := GP.card5
#print axioms syntaxFirst_card_holds
end Go.Proofs.YtainhmbnbgonhaaGreatDoor
