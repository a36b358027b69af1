/- PrintReads returns true for every input, and its arguments read behind the call as before. The listed package-level variables start as the program's text lays them: the card ties them. No other condition. -/
import Derived.Test.YtainhmbnbgonhaaGreatDoorM9
import Derived.Test.YtainhmbnbgonhaaGreatDoorM10
import Derived.Test.YtainhmbnbgonhaaGreatDoorM12
set_option linter.unusedSimpArgs false
set_option linter.unnecessarySimpa false
namespace GP
open Go Go.Proofs Go.Proofs.YtainhmbnbgonhaaGreatDoor
open Go.ChangeShapes Go.WideShapes Go.ChangeAt Go.RowKit
set_option maxRecDepth 100000
theorem args11 (W : World) : Args Tryz.prog W Tryz.f11.params.toList (fun l=>∃ x0 l0,l = x0 :: l0 /\ (isLs isTB x0) /\ l0 = []):=by
 rw [Tryz.params11]
 exact .cons (argTs W) .nil
theorem lifted11 (os : Os) (started : os.Started) (H : Type) (enc : TypeId × Value -> H) :
  ReturnsInHanded {} Tryz.checked os 11 .any (fun w args=>(Rows.printReadsSpec.pre enc Tryz.prog Tryz.f11 [] false w args /\ laidMetH Tryz.prog laidD w) /\ sizedMet enc Tryz.prog Tryz.f11 (OpenSpec.ofChange Rows.printReadsSpec) false w args)
   (Rows.printReadsSpec.post enc Tryz.prog Tryz.f11 false true false false):=by
 refine returnsInHanded_of_change_and (C:=Tryz.checked) (X:=fun w _=>laidMetH Tryz.prog laidD w) (fun _ _ _ hh h=>h.of_heap hh) own6 started (by kernel_rfl) Tryz.func11
  (ChangeSpec.witness_shaped (enc:=enc) (C:=Tryz.checked) (os:=os) (X:=fun w _=>laidMetH Tryz.prog laidD w) false (World.laidAll Tryz.prog os laidD) #[.slice none 0 0] 8 (World.laidAll_os _ _ _)
   (World.shaped_of_ZipB (by kernel_rfl) (by kernel_rfl)) (by kernel_rfl) (by kernel_rfl) (by kernel_rfl)
   (by rw [MakeChecks.laidMetH_plain _ _ _ (by kernel_rfl)];exact laidMet_laidAll _ (by kernel_rfl) (by kernel_rfl))) ?_
 intro W base args ds gs before hval hW hcnd hsz hL _
 refine law_contract (P:=Tryz.prog) laid6 rowed6 full6 ?_ rfl (tb:=4) ?_ Tryz.underlying4 hval hW hsz ?_ (args11 W) fn11 ?_ (vars_of_laid hL) ?_
 ·rw [Tryz.params11];exact of_decide_eq_true (by kernel_rfl)
 ·kernel_rfl
 ·intro l hl
  rw [Tryz.params11] at hl
  match l,hl with
  | [a],_=>rfl
 ·rw [Tryz.params11];decide
 ·rintro xs ⟨x0,l0,rfl,h0,rfl⟩
  obtain ⟨m,xs,rfl,ht,hl⟩:=isTB_all h0;exact main11 ht hl [] []
theorem k11_0 : (Rows.printReadsRow.wf (OpenSpec.ofChange Rows.printReadsSpec)) = true:=by kernel_rfl
theorem k11_3 : (Tryz.f11.params.all (Tryz.prog.readableRec ·)) = true:=by kernel_rfl
theorem k11_4 : (namedTie Tryz.prog Rows.printReadsRow.named (Rows.printReadsSpec).vars) = true:=by kernel_rfl
theorem k11_9 : ((Rows.printReadsRow.inPlace == Tryz.prog.inPlace 11)) = true:=by kernel_rfl
theorem k11_10 : ((Rows.printReadsRow.unfollowed == Tryz.prog.unfollowed 11)) = true:=by kernel_rfl
theorem k11_11 : ((Rows.printReadsRow.recurses == Tryz.prog.recurses 11)) = true:=by kernel_rfl
theorem k11_12 : ((Rows.printReadsRow.named == Tryz.prog.varsNamed 11)) = true:=by kernel_rfl
theorem k11_17 : ((Rows.printReadsRow.wideKeys == (Tryz.f11.params.toList ++ (Rows.printReadsSpec).plain.varTypes Tryz.prog ++ Tryz.f11.resultTypes.toList).any (Tryz.prog.wideKeysFrom ·))) = true:=by kernel_rfl
theorem k11_27 : ((Tryz.prog.make == some Rows.printReadsRow.make)) = true:=by kernel_rfl
theorem k11_31 : (Rows.printReadsRow.veiledFits Tryz.prog Tryz.f11.params.toList (Tryz.f11.params.toList ++ (Rows.printReadsSpec).plain.varTypes Tryz.prog ++ Tryz.f11.resultTypes.toList)) = true:=by kernel_rfl
theorem fnd11 : Tryz.prog.funcNamed "gatepost/gatepostlaw10.PrintReads" = some 11 := by kernel_rfl
theorem joined11 : joinedFacts Tryz.pinned.checked.prog 11 Tryz.f11 Rows.printReadsSpec Rows.printReadsRow = true:=andT (andT (andT (andT (andT (andT (andT (andT (andT (andT (andT (andT (andT (andT (andT (andT (andT (andT (andT (andT (andT (andT (andT (andT (andT (andT (andT (andT (andT (andT (andT (k11_0) laid6) rowed6) k11_3) k11_4) (show ((Rows.printReadsRow.stops == [])) = true by kernel_rfl)) (show ((Tryz.prog.stops == [])) = true by kernel_rfl)) (show ((Rows.printReadsRow.knobs == [])) = true by kernel_rfl)) (show ((Tryz.prog.stopKnobs == [])) = true by kernel_rfl)) k11_9) k11_10) k11_11) k11_12) (show ((Rows.printReadsRow.maps == (Tryz.f11.params.toList ++ (Rows.printReadsSpec).plain.varTypes Tryz.prog).any (Tryz.prog.mapsRec ·))) = true by kernel_rfl)) (show ((Rows.printReadsRow.ifaces == (Tryz.f11.params.toList ++ (Rows.printReadsSpec).plain.varTypes Tryz.prog).any (Tryz.prog.ifacesRec ·))) = true by kernel_rfl)) (show ((Rows.printReadsRow.mapsOut == Tryz.prog.mapsAmong Tryz.f11.resultTypes.toList)) = true by kernel_rfl)) (show ((Rows.printReadsRow.loops == (Tryz.f11.params.toList ++ (Rows.printReadsSpec).plain.varTypes Tryz.prog).any (Tryz.prog.loopsFrom ·))) = true by kernel_rfl)) k11_17) (show ((Rows.printReadsSpec).vars.all (Tryz.prog.varReadable ·)) = true by kernel_rfl)) (show (Tryz.f11.resultTypes.all (fun t=>Tryz.prog.readableRec t && decide (t < Tryz.prog.types.size))) = true by kernel_rfl)) (show ((Rows.printReadsRow.ifacesOut == Tryz.f11.resultTypes.toList.any (Tryz.prog.ifacesRec ·))) = true by kernel_rfl)) (show ((Rows.printReadsRow.loopsOut == Tryz.f11.resultTypes.toList.any (Tryz.prog.loopsFrom ·))) = true by kernel_rfl)) hKeys) (show (Rows.printReadsRow.shortTexts.isNone) = true by kernel_rfl)) hHeard) hMay) hLift) k11_27) (show ((Rows.printReadsRow.kinds == (if Rows.printReadsRow.domain.isEmpty then [] else Tryz.f11.params.toList.map fun t=>match Tryz.prog.underlying t with | some (.int k)=>some k | _=>none))) = true by kernel_rfl)) (show ((Rows.printReadsRow.pinned == Rows.printReadsRow.pinnedBy)) = true by kernel_rfl)) (show ((Rows.printReadsRow.veiled == (Tryz.f11.params.toList ++ (Rows.printReadsSpec).plain.varTypes Tryz.prog ++ Tryz.f11.resultTypes.toList).any (Tryz.prog.veiledRec ·))) = true by kernel_rfl)) k11_31
theorem over11 : Rows.PrintReadsSaid :=
 OpenClaim.holds_of_wide 11 Tryz.f11 rfl rfl rfl rfl rfl rfl rfl ⟨rfl,rfl,rfl,rfl,rfl⟩ rfl rfl rfl rfl rfl fnd11 Tryz.func11 joined11
  (of_decide_eq_true (by kernel_rfl)) (by unfold Func.isWrapper;first | (rw [if_pos (by decide +kernel)];kernel_rfl) | (rw [if_neg (by decide +kernel)];exact ⟨rfl,rfl⟩))
  (fun os started H enc _=>lifted11 os started H enc)
theorem byText11 : Rows.printReadsRow.wfByText (OpenSpec.ofChange Rows.printReadsSpec) = true:=by kernel_rfl
theorem goes11 : false = Rows.printReadsRow.goesBy Tryz.prog:=by kernel_rfl
theorem standIn11 (j : Nat) (t : TypeId) (ht : Tryz.f11.params[j]? = some t) : Tryz.prog.wantsStandIn t = false:=by
 have h : (Tryz.f11.params.toList.all fun t=>!(Tryz.prog.wantsStandIn t)) = true:=by kernel_rfl
 have:=List.all_eq_true.1 h t (List.mem_of_getElem? (i:=j) (by simpa using ht))
 simpa using this
theorem card11 : Rows.PrintReadsCardSaid :=
 Claim7.holds_tied_plain_at .later [] [.data, .data, .data] true (true, "80a834c457ab35883543603980dd7f217c45191a846bf96d7f461e86fb45756a") true
  over11 (fun _ h=>by cases h) byText11 (fun _ h=>by cases h) printReads_row_tie rfl ⟨rfl,rfl⟩ hMain rfl
  (fun f fn hf hfn=>by
   obtain rfl : f = 11:=Option.some.inj (fnd11.symm.trans hf) |>.symm
   obtain rfl : fn = Tryz.f11:=(Option.some.inj (Tryz.func11.symm.trans hfn)).symm
   exact ⟨hLooks,fun j t ht=>standIn11 j t ht⟩)
  goes11
end GP
namespace Go.Proofs.YtainhmbnbgonhaaGreatDoor
theorem printReads_card_holds : Rows.PrintReadsCardSaid:=GP.card11
#print axioms printReads_card_holds
end Go.Proofs.YtainhmbnbgonhaaGreatDoor
