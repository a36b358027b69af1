/- PrintDocs returns true for every input, and its arguments read behind the call as before. The listed package-level variables start as the program's text lays them: the card ties them. No other condition. -/
import Derived.Test.YtainhmbnbgonhaaGreatDoorM10
import Derived.Test.YtainhmbnbgonhaaGreatDoorM13
set_option linter.unusedSimpArgs false
set_option linter.unnecessarySimpa false
namespace GP
open Go Go.Proofs Go.Proofs.YtainhmbnbgonhaaGreatDoor
open Go.ChangeShapes Go.WideShapes Go.ChangeAt Go.RowKit
set_option maxRecDepth 100000
theorem args10 (W : World) : Args Tryz.prog W Tryz.f10.params.toList (fun l=>∃ x0 l0,l = x0 :: l0 /\ (∃ n,isDoc n x0 /\ rgD x0) /\ l0 = []):=by
 rw [Tryz.params10]
 exact .cons (argDoc W) .nil
theorem lifted10 (os : Os) (started : os.Started) (H : Type) (enc : TypeId × Value -> H) :
  ReturnsInHanded {} Tryz.checked os 10 .any (fun w args=>(Rows.printDocsSpec.pre enc Tryz.prog Tryz.f10 [] false w args /\ laidMetH Tryz.prog laidD w) /\ sizedMet enc Tryz.prog Tryz.f10 (OpenSpec.ofChange Rows.printDocsSpec) false w args)
   (Rows.printDocsSpec.post enc Tryz.prog Tryz.f10 false true false false):=by
 refine returnsInHanded_of_change_and (C:=Tryz.checked) (X:=fun w _=>laidMetH Tryz.prog laidD w) (fun _ _ _ hh h=>h.of_heap hh) own6 started (by kernel_rfl) Tryz.func10
  (ChangeSpec.witness_shaped (enc:=enc) (C:=Tryz.checked) (os:=os) (X:=fun w _=>laidMetH Tryz.prog laidD w) false (World.laidAll Tryz.prog os laidD) #[.agg #[.slice none 0 0,.string ⟨#[]⟩,.slice none 0 0]] 8 (World.laidAll_os _ _ _)
   (World.shaped_of_ZipB (by kernel_rfl) (by kernel_rfl)) (by kernel_rfl) (by kernel_rfl) (by kernel_rfl)
   (by rw [MakeChecks.laidMetH_plain _ _ _ (by kernel_rfl)];exact laidMet_laidAll _ (by kernel_rfl) (by kernel_rfl))) ?_
 intro W base args ds gs before hval hW hcnd hsz hL _
 refine law_contract (P:=Tryz.prog) laid6 rowed6 full6 ?_ rfl (tb:=4) ?_ Tryz.underlying4 hval hW hsz ?_ (args10 W) fn10 ?_ (vars_of_laid hL) ?_
 ·rw [Tryz.params10];exact of_decide_eq_true (by kernel_rfl)
 ·kernel_rfl
 ·intro l hl
  rw [Tryz.params10] at hl
  match l,hl with
  | [a],_=>rfl
 ·rw [Tryz.params10];decide
 ·rintro xs ⟨x0,l0,rfl,h0,rfl⟩
  obtain ⟨n,he,hr⟩:=h0;exact main10 he hr [] []
theorem k10_0 : (Rows.printDocsRow.wf (OpenSpec.ofChange Rows.printDocsSpec)) = true:=by kernel_rfl
theorem k10_3 : (Tryz.f10.params.all (Tryz.prog.readableRec ·)) = true:=by kernel_rfl
theorem k10_4 : (namedTie Tryz.prog Rows.printDocsRow.named (Rows.printDocsSpec).vars) = true:=by kernel_rfl
theorem k10_9 : ((Rows.printDocsRow.inPlace == Tryz.prog.inPlace 10)) = true:=by kernel_rfl
theorem k10_10 : ((Rows.printDocsRow.unfollowed == Tryz.prog.unfollowed 10)) = true:=by kernel_rfl
theorem k10_11 : ((Rows.printDocsRow.recurses == Tryz.prog.recurses 10)) = true:=by kernel_rfl
theorem k10_12 : ((Rows.printDocsRow.named == Tryz.prog.varsNamed 10)) = true:=by kernel_rfl
theorem k10_17 : ((Rows.printDocsRow.wideKeys == (Tryz.f10.params.toList ++ (Rows.printDocsSpec).plain.varTypes Tryz.prog ++ Tryz.f10.resultTypes.toList).any (Tryz.prog.wideKeysFrom ·))) = true:=by kernel_rfl
theorem k10_27 : ((Tryz.prog.make == some Rows.printDocsRow.make)) = true:=by kernel_rfl
theorem k10_31 : (Rows.printDocsRow.veiledFits Tryz.prog Tryz.f10.params.toList (Tryz.f10.params.toList ++ (Rows.printDocsSpec).plain.varTypes Tryz.prog ++ Tryz.f10.resultTypes.toList)) = true:=by kernel_rfl
theorem fnd10 : Tryz.prog.funcNamed "gatepost/gatepostlaw10.PrintDocs" = some 10 := by kernel_rfl
theorem joined10 : joinedFacts Tryz.pinned.checked.prog 10 Tryz.f10 Rows.printDocsSpec Rows.printDocsRow = true:=andT (andT (andT (andT (andT (andT (andT (andT (andT (andT (andT (andT (andT (andT (andT (andT (andT (andT (andT (andT (andT (andT (andT (andT (andT (andT (andT (andT (andT (andT (andT (k10_0) laid6) rowed6) k10_3) k10_4) (show ((Rows.printDocsRow.stops == [])) = true by kernel_rfl)) (show ((Tryz.prog.stops == [])) = true by kernel_rfl)) (show ((Rows.printDocsRow.knobs == [])) = true by kernel_rfl)) (show ((Tryz.prog.stopKnobs == [])) = true by kernel_rfl)) k10_9) k10_10) k10_11) k10_12) (show ((Rows.printDocsRow.maps == (Tryz.f10.params.toList ++ (Rows.printDocsSpec).plain.varTypes Tryz.prog).any (Tryz.prog.mapsRec ·))) = true by kernel_rfl)) (show ((Rows.printDocsRow.ifaces == (Tryz.f10.params.toList ++ (Rows.printDocsSpec).plain.varTypes Tryz.prog).any (Tryz.prog.ifacesRec ·))) = true by kernel_rfl)) (show ((Rows.printDocsRow.mapsOut == Tryz.prog.mapsAmong Tryz.f10.resultTypes.toList)) = true by kernel_rfl)) (show ((Rows.printDocsRow.loops == (Tryz.f10.params.toList ++ (Rows.printDocsSpec).plain.varTypes Tryz.prog).any (Tryz.prog.loopsFrom ·))) = true by kernel_rfl)) k10_17) (show ((Rows.printDocsSpec).vars.all (Tryz.prog.varReadable ·)) = true by kernel_rfl)) (show (Tryz.f10.resultTypes.all (fun t=>Tryz.prog.readableRec t && decide (t < Tryz.prog.types.size))) = true by kernel_rfl)) (show ((Rows.printDocsRow.ifacesOut == Tryz.f10.resultTypes.toList.any (Tryz.prog.ifacesRec ·))) = true by kernel_rfl)) (show ((Rows.printDocsRow.loopsOut == Tryz.f10.resultTypes.toList.any (Tryz.prog.loopsFrom ·))) = true by kernel_rfl)) hKeys) (show (Rows.printDocsRow.shortTexts.isNone) = true by kernel_rfl)) hHeard) hMay) hLift) k10_27) (show ((Rows.printDocsRow.kinds == (if Rows.printDocsRow.domain.isEmpty then [] else Tryz.f10.params.toList.map fun t=>match Tryz.prog.underlying t with | some (.int k)=>some k | _=>none))) = true by kernel_rfl)) (show ((Rows.printDocsRow.pinned == Rows.printDocsRow.pinnedBy)) = true by kernel_rfl)) (show ((Rows.printDocsRow.veiled == (Tryz.f10.params.toList ++ (Rows.printDocsSpec).plain.varTypes Tryz.prog ++ Tryz.f10.resultTypes.toList).any (Tryz.prog.veiledRec ·))) = true by kernel_rfl)) k10_31
theorem over10 : Rows.PrintDocsSaid :=
 OpenClaim.holds_of_wide 10 Tryz.f10 rfl rfl rfl rfl rfl rfl rfl ⟨rfl,rfl,rfl,rfl,rfl⟩ rfl rfl rfl rfl rfl fnd10 Tryz.func10 joined10
  (of_decide_eq_true (by kernel_rfl)) (by unfold Func.isWrapper;first | (rw [if_pos (by decide +kernel)];kernel_rfl) | (rw [if_neg (by decide +kernel)];exact ⟨rfl,rfl⟩))
  (fun os started H enc _=>lifted10 os started H enc)
theorem byText10 : Rows.printDocsRow.wfByText (OpenSpec.ofChange Rows.printDocsSpec) = true:=by kernel_rfl
theorem goes10 : false = Rows.printDocsRow.goesBy Tryz.prog:=by kernel_rfl
theorem standIn10 (j : Nat) (t : TypeId) (ht : Tryz.f10.params[j]? = some t) : Tryz.prog.wantsStandIn t = false:=by
 have h : (Tryz.f10.params.toList.all fun t=>!(Tryz.prog.wantsStandIn t)) = true:=by kernel_rfl
 have:=List.all_eq_true.1 h t (List.mem_of_getElem? (i:=j) (by simpa using ht))
 simpa using this
theorem card10 : Rows.PrintDocsCardSaid :=
 Claim7.holds_tied_plain_at .later [] [.data, .data, .data] true (true, "80a834c457ab35883543603980dd7f217c45191a846bf96d7f461e86fb45756a") true
  over10 (fun _ h=>by cases h) byText10 (fun _ h=>by cases h) printDocs_row_tie rfl ⟨rfl,rfl⟩ hMain rfl
  (fun f fn hf hfn=>by
   obtain rfl : f = 10:=Option.some.inj (fnd10.symm.trans hf) |>.symm
   obtain rfl : fn = Tryz.f10:=(Option.some.inj (Tryz.func10.symm.trans hfn)).symm
   exact ⟨hLooks,fun j t ht=>standIn10 j t ht⟩)
  goes10
end GP
namespace Go.Proofs.YtainhmbnbgonhaaGreatDoor
theorem printDocs_card_holds : Rows.PrintDocsCardSaid:=GP.card10
#print axioms printDocs_card_holds
end Go.Proofs.YtainhmbnbgonhaaGreatDoor
