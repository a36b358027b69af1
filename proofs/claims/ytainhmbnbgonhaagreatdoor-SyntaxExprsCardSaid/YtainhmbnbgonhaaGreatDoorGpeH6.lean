/- SyntaxExprs returns true for every input, and its arguments read behind the call as before. The listed package-level variables start as the program's text lays them: the card ties them. No other condition. -/
import Derived.Test.YtainhmbnbgonhaaGreatDoorM14
set_option linter.unusedSimpArgs false
namespace GP
open Go Go.Proofs Go.Proofs.YtainhmbnbgonhaaGreatDoor
open Go.ChangeShapes Go.WideShapes Go.ChangeAt Go.RowKit
set_option maxRecDepth 100000
theorem args6 (W : World) : Args Tryz.prog W Tryz.f6.params.toList (fun l => ∃ x0 l0, l = x0 :: l0 ∧ (∃ n, isE n x0 ∧ rgE n x0) ∧ ∃ x1 l1, l0 = x1 :: l1 ∧ (∃ b, x1 = .bool b) ∧ l1 = []) := by
  rw [Tryz.params6]
  exact .cons (argE W) (.cons (argB W) .nil)
theorem lifted6 (os : Os) (started : os.Started) (H : Type) (enc : TypeId × Value → H) :
    ReturnsInHanded {} Tryz.checked os 6 .any (fun w args => (Rows.syntaxExprsSpec.pre enc Tryz.prog Tryz.f6 [] false w args ∧ laidMetH Tryz.prog laidD w) ∧ sizedMet enc Tryz.prog Tryz.f6 (OpenSpec.ofChange Rows.syntaxExprsSpec) false w args)
      (Rows.syntaxExprsSpec.post enc Tryz.prog Tryz.f6 false true false false) := by
  refine returnsInHanded_of_change_and (C := Tryz.checked) (X := fun w _ => laidMetH Tryz.prog laidD w) (fun _ _ _ hh h => h.of_heap hh) own6 started (by kernel_rfl) Tryz.func6
    (ChangeSpec.witness_shaped (enc := enc) (C := Tryz.checked) (os := os) (X := fun w _ => laidMetH Tryz.prog laidD w) false (World.laidAll Tryz.prog os laidD) #[.agg #[.string ⟨#[]⟩, .int .i64 0, .int .i64 0, .string ⟨#[]⟩, .slice none 0 0, .string ⟨#[]⟩, .string ⟨#[]⟩, .slice none 0 0], .bool false] 8 (World.laidAll_os _ _ _)
      (World.shaped_of_ZipB (by kernel_rfl) (by kernel_rfl)) (by kernel_rfl) (by kernel_rfl) (by kernel_rfl)
      (by rw [MakeChecks.laidMetH_plain _ _ _ (by kernel_rfl)]; exact laidMet_laidAll _ (by kernel_rfl) (by kernel_rfl))) ?_
  intro W base args ds gs before hval hW hcnd hsz hL _
  refine law_contract (P := Tryz.prog) laid6 rowed6 full6 ?_ rfl (tb := 4) ?_ Tryz.underlying4 hval hW hsz ?_ (args6 W) fn6 ?_ (vars_of_laid hL) ?_
  · rw [Tryz.params6]; exact of_decide_eq_true (by kernel_rfl)
  · kernel_rfl
  · intro l hl
    rw [Tryz.params6] at hl
    match l, hl with
    | [a, b], _ => rfl
  · rw [Tryz.params6]; decide
  · rintro xs ⟨x0, l0, rfl, h0, x1, l1, rfl, h1, rfl⟩
    obtain ⟨n, he, hr⟩ := h0; obtain ⟨b, rfl⟩ := h1; exact main6 he hr b [] []
theorem k6_0 : (Rows.syntaxExprsRow.wf (OpenSpec.ofChange Rows.syntaxExprsSpec)) = true := by kernel_rfl
theorem k6_3 : (Tryz.f6.params.all (Tryz.prog.readableRec ·)) = true := by kernel_rfl
theorem k6_4 : (namedTie Tryz.prog Rows.syntaxExprsRow.named (Rows.syntaxExprsSpec).vars) = true := by kernel_rfl
theorem k6_9 : ((Rows.syntaxExprsRow.inPlace == Tryz.prog.inPlace 6)) = true := by kernel_rfl
theorem k6_10 : ((Rows.syntaxExprsRow.unfollowed == Tryz.prog.unfollowed 6)) = true := by kernel_rfl
theorem k6_11 : ((Rows.syntaxExprsRow.recurses == Tryz.prog.recurses 6)) = true := by kernel_rfl
theorem k6_12 : ((Rows.syntaxExprsRow.named == Tryz.prog.varsNamed 6)) = true := by kernel_rfl
theorem k6_17 : ((Rows.syntaxExprsRow.wideKeys == (Tryz.f6.params.toList ++ (Rows.syntaxExprsSpec).plain.varTypes Tryz.prog ++ Tryz.f6.resultTypes.toList).any (Tryz.prog.wideKeysFrom ·))) = true := by kernel_rfl
theorem k6_27 : ((Tryz.prog.make == some Rows.syntaxExprsRow.make)) = true := by kernel_rfl
theorem k6_31 : (Rows.syntaxExprsRow.veiledFits Tryz.prog Tryz.f6.params.toList (Tryz.f6.params.toList ++ (Rows.syntaxExprsSpec).plain.varTypes Tryz.prog ++ Tryz.f6.resultTypes.toList)) = true := by kernel_rfl
theorem fnd6 : Tryz.prog.funcNamed "gatepost/gatepostlaw08.SyntaxExprs" = some 6 := by kernel_rfl
theorem joined6 : joinedFacts Tryz.pinned.checked.prog 6 Tryz.f6 Rows.syntaxExprsSpec Rows.syntaxExprsRow = true := andT (andT (andT (andT (andT (andT (andT (andT (andT (andT (andT (andT (andT (andT (andT (andT (andT (andT (andT (andT (andT (andT (andT (andT (andT (andT (andT (andT (andT (andT (andT (k6_0) laid6) rowed6) k6_3) k6_4) (show ((Rows.syntaxExprsRow.stops == [])) = true by kernel_rfl)) (show ((Tryz.prog.stops == [])) = true by kernel_rfl)) (show ((Rows.syntaxExprsRow.knobs == [])) = true by kernel_rfl)) (show ((Tryz.prog.stopKnobs == [])) = true by kernel_rfl)) k6_9) k6_10) k6_11) k6_12) (show ((Rows.syntaxExprsRow.maps == (Tryz.f6.params.toList ++ (Rows.syntaxExprsSpec).plain.varTypes Tryz.prog).any (Tryz.prog.mapsRec ·))) = true by kernel_rfl)) (show ((Rows.syntaxExprsRow.ifaces == (Tryz.f6.params.toList ++ (Rows.syntaxExprsSpec).plain.varTypes Tryz.prog).any (Tryz.prog.ifacesRec ·))) = true by kernel_rfl)) (show ((Rows.syntaxExprsRow.mapsOut == Tryz.prog.mapsAmong Tryz.f6.resultTypes.toList)) = true by kernel_rfl)) (show ((Rows.syntaxExprsRow.loops == (Tryz.f6.params.toList ++ (Rows.syntaxExprsSpec).plain.varTypes Tryz.prog).any (Tryz.prog.loopsFrom ·))) = true by kernel_rfl)) k6_17) (show ((Rows.syntaxExprsSpec).vars.all (Tryz.prog.varReadable ·)) = true by kernel_rfl)) (show (Tryz.f6.resultTypes.all (fun t => Tryz.prog.readableRec t && decide (t < Tryz.prog.types.size))) = true by kernel_rfl)) (show ((Rows.syntaxExprsRow.ifacesOut == Tryz.f6.resultTypes.toList.any (Tryz.prog.ifacesRec ·))) = true by kernel_rfl)) (show ((Rows.syntaxExprsRow.loopsOut == Tryz.f6.resultTypes.toList.any (Tryz.prog.loopsFrom ·))) = true by kernel_rfl)) hKeys) (show (Rows.syntaxExprsRow.shortTexts.isNone) = true by kernel_rfl)) hHeard) hMay) hLift) k6_27) (show ((Rows.syntaxExprsRow.kinds == (if Rows.syntaxExprsRow.domain.isEmpty then [] else Tryz.f6.params.toList.map fun t => match Tryz.prog.underlying t with | some (.int k) => some k | _ => none))) = true by kernel_rfl)) (show ((Rows.syntaxExprsRow.pinned == Rows.syntaxExprsRow.pinnedBy)) = true by kernel_rfl)) (show ((Rows.syntaxExprsRow.veiled == (Tryz.f6.params.toList ++ (Rows.syntaxExprsSpec).plain.varTypes Tryz.prog ++ Tryz.f6.resultTypes.toList).any (Tryz.prog.veiledRec ·))) = true by kernel_rfl)) k6_31
theorem over6 : Rows.SyntaxExprsSaid :=
  OpenClaim.holds_of_wide 6 Tryz.f6 rfl rfl rfl rfl rfl rfl rfl ⟨rfl, rfl, rfl, rfl, rfl⟩ rfl rfl rfl rfl rfl fnd6 Tryz.func6 joined6
    (of_decide_eq_true (by kernel_rfl)) (by unfold Func.isWrapper; first | (rw [if_pos (by decide +kernel)]; kernel_rfl) | (rw [if_neg (by decide +kernel)]; exact ⟨rfl, rfl⟩))
    (fun os started H enc _ => lifted6 os started H enc)
theorem byText6 : Rows.syntaxExprsRow.wfByText (OpenSpec.ofChange Rows.syntaxExprsSpec) = true := by kernel_rfl
theorem goes6 : false = Rows.syntaxExprsRow.goesBy Tryz.prog := by kernel_rfl
theorem standIn6 (j : Nat) (t : TypeId) (ht : Tryz.f6.params[j]? = some t) : Tryz.prog.wantsStandIn t = false := by
  have h : (Tryz.f6.params.toList.all fun t => !(Tryz.prog.wantsStandIn t)) = true := by kernel_rfl
  have := List.all_eq_true.1 h t (List.mem_of_getElem? (i := j) (by simpa using ht))
  simpa using this
theorem card6 : Rows.SyntaxExprsCardSaid :=
  Claim7.holds_tied_plain_at .later [] [.data, .data, .data, .sentinel, .sentinel] true (true, "80a834c457ab35883543603980dd7f217c45191a846bf96d7f461e86fb45756a") true
    over6 (fun _ h => by cases h) byText6 (fun _ h => by cases h) syntaxExprs_row_tie rfl ⟨rfl, rfl⟩ hMain rfl
    (fun f fn hf hfn => by
      obtain rfl : f = 6 := Option.some.inj (fnd6.symm.trans hf) |>.symm
      obtain rfl : fn = Tryz.f6 := (Option.some.inj (Tryz.func6.symm.trans hfn)).symm
      exact ⟨hLooks, fun j t ht => standIn6 j t ht⟩)
    goes6
end GP
namespace Go.Proofs.YtainhmbnbgonhaaGreatDoor
theorem syntaxExprs_card_holds : Rows.SyntaxExprsCardSaid := GP.card6
#print axioms syntaxExprs_card_holds
end Go.Proofs.YtainhmbnbgonhaaGreatDoor
