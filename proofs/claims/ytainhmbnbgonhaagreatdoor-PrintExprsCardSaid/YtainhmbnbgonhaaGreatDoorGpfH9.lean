/- PrintExprs returns true for every input, and its arguments read behind the call as before. The listed package-level variables start as the program's text lays them: the card ties them. No other condition. -/
import Derived.Test.YtainhmbnbgonhaaGreatDoorM8
import Derived.Test.YtainhmbnbgonhaaGreatDoorM10
set_option linter.unusedSimpArgs false
set_option linter.unnecessarySimpa false
namespace GP
open Go Go.Proofs Go.Proofs.YtainhmbnbgonhaaGreatDoor
open Go.ChangeShapes Go.WideShapes Go.ChangeAt Go.RowKit
set_option maxRecDepth 100000
theorem args9 (W : World) : Args Tryz.prog W Tryz.f9.params.toList (fun l=>∃ x0 l0,l = x0 :: l0 /\ (∃ n,isE n x0 /\ rgE n x0) /\ l0 = []):=by
 rw [Tryz.params9]
 exact .cons (argE W) .nil
theorem lifted9 (os : Os) (started : os.Started) (H : Type) (enc : TypeId × Value -> H) :
  ReturnsInHanded {} Tryz.checked os 9 .any (fun w args=>(Rows.printExprsSpec.pre enc Tryz.prog Tryz.f9 [] false w args /\ laidMetH Tryz.prog laidD w) /\ sizedMet enc Tryz.prog Tryz.f9 (OpenSpec.ofChange Rows.printExprsSpec) false w args)
   (Rows.printExprsSpec.post enc Tryz.prog Tryz.f9 false true false false):=by
 refine returnsInHanded_of_change_and (C:=Tryz.checked) (X:=fun w _=>laidMetH Tryz.prog laidD w) (fun _ _ _ hh h=>h.of_heap hh) own6 started (by kernel_rfl) Tryz.func9
  (ChangeSpec.witness_shaped (enc:=enc) (C:=Tryz.checked) (os:=os) (X:=fun w _=>laidMetH Tryz.prog laidD w) false (World.laidAll Tryz.prog os laidD) #[.agg #[.string ⟨#[]⟩,.int .i64 0,.int .i64 0,.string ⟨#[]⟩,.slice none 0 0,.string ⟨#[]⟩,.string ⟨#[]⟩,.slice none 0 0]] 8 (World.laidAll_os _ _ _)
   (World.shaped_of_ZipB (by kernel_rfl) (by kernel_rfl)) (by kernel_rfl) (by kernel_rfl) (by kernel_rfl)
   (by rw [MakeChecks.laidMetH_plain _ _ _ (by kernel_rfl)];exact laidMet_laidAll _ (by kernel_rfl) (by kernel_rfl))) ?_
 intro W base args ds gs before hval hW hcnd hsz hL _
 refine law_contract (P:=Tryz.prog) laid6 rowed6 full6 ?_ rfl (tb:=4) ?_ Tryz.underlying4 hval hW hsz ?_ (args9 W) fn9 ?_ (vars_of_laid hL) ?_
 ·rw [Tryz.params9];exact of_decide_eq_true (by kernel_rfl)
 ·kernel_rfl
 ·intro l hl
  rw [Tryz.params9] at hl
  match l,hl with
  | [a],_=>rfl
 ·rw [Tryz.params9];decide
 ·rintro xs ⟨x0,l0,rfl,h0,rfl⟩
  obtain ⟨n,he,hr⟩:=h0;exact main9 he hr [] []
theorem k9_0 : (Rows.printExprsRow.wf (OpenSpec.ofChange Rows.printExprsSpec)) = true:=by kernel_rfl
theorem k9_3 : (Tryz.f9.params.all (Tryz.prog.readableRec ·)) = true:=by kernel_rfl
theorem k9_4 : (namedTie Tryz.prog Rows.printExprsRow.named (Rows.printExprsSpec).vars) = true:=by kernel_rfl
theorem k9_9 : ((Rows.printExprsRow.inPlace == Tryz.prog.inPlace 9)) = true:=by kernel_rfl
theorem k9_10 : ((Rows.printExprsRow.unfollowed == Tryz.prog.unfollowed 9)) = true:=by kernel_rfl
theorem k9_11 : ((Rows.printExprsRow.recurses == Tryz.prog.recurses 9)) = true:=by kernel_rfl
theorem k9_12 : ((Rows.printExprsRow.named == Tryz.prog.varsNamed 9)) = true:=by kernel_rfl
theorem k9_17 : ((Rows.printExprsRow.wideKeys == (Tryz.f9.params.toList ++ (Rows.printExprsSpec).plain.varTypes Tryz.prog ++ Tryz.f9.resultTypes.toList).any (Tryz.prog.wideKeysFrom ·))) = true:=by kernel_rfl
theorem k9_27 : ((Tryz.prog.make == some Rows.printExprsRow.make)) = true:=by kernel_rfl
theorem k9_31 : (Rows.printExprsRow.veiledFits Tryz.prog Tryz.f9.params.toList (Tryz.f9.params.toList ++ (Rows.printExprsSpec).plain.varTypes Tryz.prog ++ Tryz.f9.resultTypes.toList)) = true:=by kernel_rfl
theorem fnd9 : Tryz.prog.funcNamed "gatepost/gatepostlaw10.PrintExprs" = some 9 := by kernel_rfl
theorem joined9 : joinedFacts Tryz.pinned.checked.prog 9 Tryz.f9 Rows.printExprsSpec Rows.printExprsRow = true:=andT (andT (andT (andT (andT (andT (andT (andT (andT (andT (andT (andT (andT (andT (andT (andT (andT (andT (andT (andT (andT (andT (andT (andT (andT (andT (andT (andT (andT (andT (andT (k9_0) laid6) rowed6) k9_3) k9_4) (show ((Rows.printExprsRow.stops == [])) = true by kernel_rfl)) (show ((Tryz.prog.stops == [])) = true by kernel_rfl)) (show ((Rows.printExprsRow.knobs == [])) = true by kernel_rfl)) (show ((Tryz.prog.stopKnobs == [])) = true by kernel_rfl)) k9_9) k9_10) k9_11) k9_12) (show ((Rows.printExprsRow.maps == (Tryz.f9.params.toList ++ (Rows.printExprsSpec).plain.varTypes Tryz.prog).any (Tryz.prog.mapsRec ·))) = true by kernel_rfl)) (show ((Rows.printExprsRow.ifaces == (Tryz.f9.params.toList ++ (Rows.printExprsSpec).plain.varTypes Tryz.prog).any (Tryz.prog.ifacesRec ·))) = true by kernel_rfl)) (show ((Rows.printExprsRow.mapsOut == Tryz.prog.mapsAmong Tryz.f9.resultTypes.toList)) = true by kernel_rfl)) (show ((Rows.printExprsRow.loops == (Tryz.f9.params.toList ++ (Rows.printExprsSpec).plain.varTypes Tryz.prog).any (Tryz.prog.loopsFrom ·))) = true by kernel_rfl)) k9_17) (show ((Rows.printExprsSpec).vars.all (Tryz.prog.varReadable ·)) = true by kernel_rfl)) (show (Tryz.f9.resultTypes.all (fun t=>Tryz.prog.readableRec t && decide (t < Tryz.prog.types.size))) = true by kernel_rfl)) (show ((Rows.printExprsRow.ifacesOut == Tryz.f9.resultTypes.toList.any (Tryz.prog.ifacesRec ·))) = true by kernel_rfl)) (show ((Rows.printExprsRow.loopsOut == Tryz.f9.resultTypes.toList.any (Tryz.prog.loopsFrom ·))) = true by kernel_rfl)) hKeys) (show (Rows.printExprsRow.shortTexts.isNone) = true by kernel_rfl)) hHeard) hMay) hLift) k9_27) (show ((Rows.printExprsRow.kinds == (if Rows.printExprsRow.domain.isEmpty then [] else Tryz.f9.params.toList.map fun t=>match Tryz.prog.underlying t with | some (.int k)=>some k | _=>none))) = true by kernel_rfl)) (show ((Rows.printExprsRow.pinned == Rows.printExprsRow.pinnedBy)) = true by kernel_rfl)) (show ((Rows.printExprsRow.veiled == (Tryz.f9.params.toList ++ (Rows.printExprsSpec).plain.varTypes Tryz.prog ++ Tryz.f9.resultTypes.toList).any (Tryz.prog.veiledRec ·))) = true by kernel_rfl)) k9_31
theorem over9 : Rows.PrintExprsSaid :=
 OpenClaim.holds_of_wide 9 Tryz.f9 rfl rfl rfl rfl rfl rfl rfl ⟨rfl,rfl,rfl,rfl,rfl⟩ rfl rfl rfl rfl rfl fnd9 Tryz.func9 joined9
  (of_decide_eq_true (by kernel_rfl)) (by unfold Func.isWrapper;first | (rw [if_pos (by decide +kernel)];kernel_rfl) | (rw [if_neg (by decide +kernel)];exact ⟨rfl,rfl⟩))
  (fun os started H enc _=>lifted9 os started H enc)
theorem byText9 : Rows.printExprsRow.wfByText (OpenSpec.ofChange Rows.printExprsSpec) = true:=by kernel_rfl
theorem goes9 : false = Rows.printExprsRow.goesBy Tryz.prog:=by kernel_rfl
theorem standIn9 (j : Nat) (t : TypeId) (ht : Tryz.f9.params[j]? = some t) : Tryz.prog.wantsStandIn t = false:=by
 have h : (Tryz.f9.params.toList.all fun t=>!(Tryz.prog.wantsStandIn t)) = true:=by kernel_rfl
 have:=List.all_eq_true.1 h t (List.mem_of_getElem? (i:=j) (by simpa using ht))
 simpa using this
theorem card9 : Rows.PrintExprsCardSaid :=
 Claim7.holds_tied_plain_at .later [] [.data, .data, .data] true (true, "80a834c457ab35883543603980dd7f217c45191a846bf96d7f461e86fb45756a") true
  over9 (fun _ h=>by cases h) byText9 (fun _ h=>by cases h) printExprs_row_tie rfl ⟨rfl,rfl⟩ hMain rfl
  (fun f fn hf hfn=>by
   obtain rfl : f = 9:=Option.some.inj (fnd9.symm.trans hf) |>.symm
   obtain rfl : fn = Tryz.f9:=(Option.some.inj (Tryz.func9.symm.trans hfn)).symm
   exact ⟨hLooks,fun j t ht=>standIn9 j t ht⟩)
  goes9
end GP
namespace Go.Proofs.YtainhmbnbgonhaaGreatDoor
theorem printExprs_card_holds : Rows.PrintExprsCardSaid:=GP.card9
#print axioms printExprs_card_holds
end Go.Proofs.YtainhmbnbgonhaaGreatDoor
