/- SyntaxReads returns true for every input, and its arguments read behind the call as before. The listed package-level variables start as the program's text lays them: the card ties them. No other condition. -/
import Derived.Test.YtainhmbnbgonhaaGreatDoorM16
set_option linter.unusedSimpArgs false
namespace GP
open Go Go.Proofs Go.Proofs.YtainhmbnbgonhaaGreatDoor
open Go.ChangeShapes Go.WideShapes Go.ChangeAt Go.RowKit
set_option maxRecDepth 100000
theorem args4 (W : World) : Args Tryz.prog W Tryz.f4.params.toList (fun l => ∃ x0 l0, l = x0 :: l0 ∧ (isLs isTB x0) ∧ l0 = []) := by
  rw [Tryz.params4]
  exact .cons (argTs W) .nil
theorem lifted4 (os : Os) (started : os.Started) (H : Type) (enc : TypeId × Value → H) :
    ReturnsInHanded {} Tryz.checked os 4 .any (fun w args => (Rows.syntaxReadsSpec.pre enc Tryz.prog Tryz.f4 [] false w args ∧ laidMetH Tryz.prog laidD w) ∧ sizedMet enc Tryz.prog Tryz.f4 (OpenSpec.ofChange Rows.syntaxReadsSpec) false w args)
      (Rows.syntaxReadsSpec.post enc Tryz.prog Tryz.f4 false true false false) := by
  refine returnsInHanded_of_change_and (C := Tryz.checked) (X := fun w _ => laidMetH Tryz.prog laidD w) (fun _ _ _ hh h => h.of_heap hh) own6 started (by kernel_rfl) Tryz.func4
    (ChangeSpec.witness_shaped (enc := enc) (C := Tryz.checked) (os := os) (X := fun w _ => laidMetH Tryz.prog laidD w) false (World.laidAll Tryz.prog os laidD) #[.slice none 0 0] 8 (World.laidAll_os _ _ _)
      (World.shaped_of_ZipB (by kernel_rfl) (by kernel_rfl)) (by kernel_rfl) (by kernel_rfl) (by kernel_rfl)
      (by rw [MakeChecks.laidMetH_plain _ _ _ (by kernel_rfl)]; exact laidMet_laidAll _ (by kernel_rfl) (by kernel_rfl))) ?_
  intro W base args ds gs before hval hW hcnd hsz hL _
  refine law_contract (P := Tryz.prog) laid6 rowed6 full6 ?_ rfl (tb := 4) ?_ Tryz.underlying4 hval hW hsz ?_ (args4 W) fn4 ?_ (vars_of_laid hL) ?_
  · rw [Tryz.params4]; exact of_decide_eq_true (by kernel_rfl)
  · kernel_rfl
  · intro l hl
    rw [Tryz.params4] at hl
    match l, hl with
    | [a], _ => rfl
  · rw [Tryz.params4]; decide
  · rintro xs ⟨x0, l0, rfl, h0, rfl⟩
    obtain ⟨m, xs, rfl, ht, hl⟩ := isTB_all h0; exact main4 ht hl [] []
theorem k4_0 : (Rows.syntaxReadsRow.wf (OpenSpec.ofChange Rows.syntaxReadsSpec)) = true := by kernel_rfl
theorem k4_3 : (Tryz.f4.params.all (Tryz.prog.readableRec ·)) = true := by kernel_rfl
theorem k4_4 : (namedTie Tryz.prog Rows.syntaxReadsRow.named (Rows.syntaxReadsSpec).vars) = true := by kernel_rfl
theorem k4_9 : ((Rows.syntaxReadsRow.inPlace == Tryz.prog.inPlace 4)) = true := by kernel_rfl
theorem k4_10 : ((Rows.syntaxReadsRow.unfollowed == Tryz.prog.unfollowed 4)) = true := by kernel_rfl
theorem k4_11 : ((Rows.syntaxReadsRow.recurses == Tryz.prog.recurses 4)) = true := by kernel_rfl
theorem k4_12 : ((Rows.syntaxReadsRow.named == Tryz.prog.varsNamed 4)) = true := by kernel_rfl
theorem k4_17 : ((Rows.syntaxReadsRow.wideKeys == (Tryz.f4.params.toList ++ (Rows.syntaxReadsSpec).plain.varTypes Tryz.prog ++ Tryz.f4.resultTypes.toList).any (Tryz.prog.wideKeysFrom ·))) = true := by kernel_rfl
theorem k4_27 : ((Tryz.prog.make == some Rows.syntaxReadsRow.make)) = true := by kernel_rfl
theorem k4_31 : (Rows.syntaxReadsRow.veiledFits Tryz.prog Tryz.f4.params.toList (Tryz.f4.params.toList ++ (Rows.syntaxReadsSpec).plain.varTypes Tryz.prog ++ Tryz.f4.resultTypes.toList)) = true := by kernel_rfl
theorem fnd4 : Tryz.prog.funcNamed "gatepost/gatepostlaw08.SyntaxReads" = some 4 := by kernel_rfl
theorem joined4 : joinedFacts Tryz.pinned.checked.prog 4 Tryz.f4 Rows.syntaxReadsSpec Rows.syntaxReadsRow = true := andT (andT (andT (andT (andT (andT (andT (andT (andT (andT (andT (andT (andT (andT (andT (andT (andT (andT (andT (andT (andT (andT (andT (andT (andT (andT (andT (andT (andT (andT (andT (k4_0) laid6) rowed6) k4_3) k4_4) (show ((Rows.syntaxReadsRow.stops == [])) = true by kernel_rfl)) (show ((Tryz.prog.stops == [])) = true by kernel_rfl)) (show ((Rows.syntaxReadsRow.knobs == [])) = true by kernel_rfl)) (show ((Tryz.prog.stopKnobs == [])) = true by kernel_rfl)) k4_9) k4_10) k4_11) k4_12) (show ((Rows.syntaxReadsRow.maps == (Tryz.f4.params.toList ++ (Rows.syntaxReadsSpec).plain.varTypes Tryz.prog).any (Tryz.prog.mapsRec ·))) = true by kernel_rfl)) (show ((Rows.syntaxReadsRow.ifaces == (Tryz.f4.params.toList ++ (Rows.syntaxReadsSpec).plain.varTypes Tryz.prog).any (Tryz.prog.ifacesRec ·))) = true by kernel_rfl)) (show ((Rows.syntaxReadsRow.mapsOut == Tryz.prog.mapsAmong Tryz.f4.resultTypes.toList)) = true by kernel_rfl)) (show ((Rows.syntaxReadsRow.loops == (Tryz.f4.params.toList ++ (Rows.syntaxReadsSpec).plain.varTypes Tryz.prog).any (Tryz.prog.loopsFrom ·))) = true by kernel_rfl)) k4_17) (show ((Rows.syntaxReadsSpec).vars.all (Tryz.prog.varReadable ·)) = true by kernel_rfl)) (show (Tryz.f4.resultTypes.all (fun t => Tryz.prog.readableRec t && decide (t < Tryz.prog.types.size))) = true by kernel_rfl)) (show ((Rows.syntaxReadsRow.ifacesOut == Tryz.f4.resultTypes.toList.any (Tryz.prog.ifacesRec ·))) = true by kernel_rfl)) (show ((Rows.syntaxReadsRow.loopsOut == Tryz.f4.resultTypes.toList.any (Tryz.prog.loopsFrom ·))) = true by kernel_rfl)) hKeys) (show (Rows.syntaxReadsRow.shortTexts.isNone) = true by kernel_rfl)) hHeard) hMay) hLift) k4_27) (show ((Rows.syntaxReadsRow.kinds == (if Rows.syntaxReadsRow.domain.isEmpty then [] else Tryz.f4.params.toList.map fun t => match Tryz.prog.underlying t with | some (.int k) => some k | _ => none))) = true by kernel_rfl)) (show ((Rows.syntaxReadsRow.pinned == Rows.syntaxReadsRow.pinnedBy)) = true by kernel_rfl)) (show ((Rows.syntaxReadsRow.veiled == (Tryz.f4.params.toList ++ (Rows.syntaxReadsSpec).plain.varTypes Tryz.prog ++ Tryz.f4.resultTypes.toList).any (Tryz.prog.veiledRec ·))) = true by kernel_rfl)) k4_31
theorem over4 : Rows.SyntaxReadsSaid :=
  OpenClaim.holds_of_wide 4 Tryz.f4 rfl rfl rfl rfl rfl rfl rfl ⟨rfl, rfl, rfl, rfl, rfl⟩ rfl rfl rfl rfl rfl fnd4 Tryz.func4 joined4
    (of_decide_eq_true (by kernel_rfl)) (by unfold Func.isWrapper; first | (rw [if_pos (by decide +kernel)]; kernel_rfl) | (rw [if_neg (by decide +kernel)]; exact ⟨rfl, rfl⟩))
    (fun os started H enc _ => lifted4 os started H enc)
theorem byText4 : Rows.syntaxReadsRow.wfByText (OpenSpec.ofChange Rows.syntaxReadsSpec) = true := by kernel_rfl
theorem goes4 : false = Rows.syntaxReadsRow.goesBy Tryz.prog := by kernel_rfl
theorem standIn4 (j : Nat) (t : TypeId) (ht : Tryz.f4.params[j]? = some t) : Tryz.prog.wantsStandIn t = false := by
  have h : (Tryz.f4.params.toList.all fun t => !(Tryz.prog.wantsStandIn t)) = true := by kernel_rfl
  have := List.all_eq_true.1 h t (List.mem_of_getElem? (i := j) (by simpa using ht))
  simpa using this
theorem card4 : Rows.SyntaxReadsCardSaid :=
  Claim7.holds_tied_plain_at .later [] [.data, .data, .data, .sentinel, .sentinel] true (true, "80a834c457ab35883543603980dd7f217c45191a846bf96d7f461e86fb45756a") true
    over4 (fun _ h => by cases h) byText4 (fun _ h => by cases h) syntaxReads_row_tie rfl ⟨rfl, rfl⟩ hMain rfl
    (fun f fn hf hfn => by
      obtain rfl : f = 4 := Option.some.inj (fnd4.symm.trans hf) |>.symm
      obtain rfl : fn = Tryz.f4 := (Option.some.inj (Tryz.func4.symm.trans hfn)).symm
      exact ⟨hLooks, fun j t ht => standIn4 j t ht⟩)
    goes4
end GP
namespace Go.Proofs.YtainhmbnbgonhaaGreatDoor
theorem syntaxReads_card_holds : Rows.SyntaxReadsCardSaid := GP.card4
#print axioms syntaxReads_card_holds
end Go.Proofs.YtainhmbnbgonhaaGreatDoor
