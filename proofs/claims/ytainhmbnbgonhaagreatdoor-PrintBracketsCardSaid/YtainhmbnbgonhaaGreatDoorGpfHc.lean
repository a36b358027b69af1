/- PrintBrackets returns true for every input, and its arguments read behind the call as before. The listed package-level variables start as the program's text lays them: the card ties them. No other condition. -/
import Derived.Test.YtainhmbnbgonhaaGreatDoorM11
import Derived.Test.YtainhmbnbgonhaaGreatDoorM14
set_option linter.unusedSimpArgs false
set_option linter.unnecessarySimpa false
namespace GP
open Go Go.Proofs Go.Proofs.YtainhmbnbgonhaaGreatDoor
open Go.ChangeShapes Go.WideShapes Go.ChangeAt Go.RowKit
set_option maxRecDepth 100000
theorem args12 (W : World) : Args Tryz.prog W Tryz.f12.params.toList (fun l=>∃ x0 l0,l = x0 :: l0 /\ (∃ n,isE n x0 /\ rgE n x0) /\ ∃ x1 l1,l0 = x1 :: l1 /\ (∃ a : Nat,x1 = .int .u8 (a : Int) /\ a < 256) /\ l1 = []):=by
 rw [Tryz.params12]
 exact .cons (argE W) (.cons (argU8 W) .nil)
theorem lifted12 (os : Os) (started : os.Started) (H : Type) (enc : TypeId × Value -> H) :
  ReturnsInHanded {} Tryz.checked os 12 .any (fun w args=>(Rows.printBracketsSpec.pre enc Tryz.prog Tryz.f12 [] false w args /\ laidMetH Tryz.prog laidD w) /\ sizedMet enc Tryz.prog Tryz.f12 (OpenSpec.ofChange Rows.printBracketsSpec) false w args)
   (Rows.printBracketsSpec.post enc Tryz.prog Tryz.f12 false true false false):=by
 refine returnsInHanded_of_change_and (C:=Tryz.checked) (X:=fun w _=>laidMetH Tryz.prog laidD w) (fun _ _ _ hh h=>h.of_heap hh) own6 started (by kernel_rfl) Tryz.func12
  (ChangeSpec.witness_shaped (enc:=enc) (C:=Tryz.checked) (os:=os) (X:=fun w _=>laidMetH Tryz.prog laidD w) false (World.laidAll Tryz.prog os laidD) #[.agg #[.string ⟨#[]⟩,.int .i64 0,.int .i64 0,.string ⟨#[]⟩,.slice none 0 0,.string ⟨#[]⟩,.string ⟨#[]⟩,.slice none 0 0],.int .u8 0] 8 (World.laidAll_os _ _ _)
   (World.shaped_of_ZipB (by kernel_rfl) (by kernel_rfl)) (by kernel_rfl) (by kernel_rfl) (by kernel_rfl)
   (by rw [MakeChecks.laidMetH_plain _ _ _ (by kernel_rfl)];exact laidMet_laidAll _ (by kernel_rfl) (by kernel_rfl))) ?_
 intro W base args ds gs before hval hW hcnd hsz hL _
 refine law_contract (P:=Tryz.prog) laid6 rowed6 full6 ?_ rfl (tb:=4) ?_ Tryz.underlying4 hval hW hsz ?_ (args12 W) fn12 ?_ (vars_of_laid hL) ?_
 ·rw [Tryz.params12];exact of_decide_eq_true (by kernel_rfl)
 ·kernel_rfl
 ·intro l hl
  rw [Tryz.params12] at hl
  match l,hl with
  | [a,b],_=>rfl
 ·rw [Tryz.params12];decide
 ·rintro xs ⟨x0,l0,rfl,h0,x1,l1,rfl,h1,rfl⟩
  obtain ⟨n,he,hr⟩:=h0;obtain ⟨a,rfl,ha⟩:=h1;exact main12 he hr a ha [] []
theorem k12_0 : (Rows.printBracketsRow.wf (OpenSpec.ofChange Rows.printBracketsSpec)) = true:=by kernel_rfl
theorem k12_3 : (Tryz.f12.params.all (Tryz.prog.readableRec ·)) = true:=by kernel_rfl
theorem k12_4 : (namedTie Tryz.prog Rows.printBracketsRow.named (Rows.printBracketsSpec).vars) = true:=by kernel_rfl
theorem k12_9 : ((Rows.printBracketsRow.inPlace == Tryz.prog.inPlace 12)) = true:=by kernel_rfl
theorem k12_10 : ((Rows.printBracketsRow.unfollowed == Tryz.prog.unfollowed 12)) = true:=by kernel_rfl
theorem k12_11 : ((Rows.printBracketsRow.recurses == Tryz.prog.recurses 12)) = true:=by kernel_rfl
theorem k12_12 : ((Rows.printBracketsRow.named == Tryz.prog.varsNamed 12)) = true:=by kernel_rfl
theorem k12_17 : ((Rows.printBracketsRow.wideKeys == (Tryz.f12.params.toList ++ (Rows.printBracketsSpec).plain.varTypes Tryz.prog ++ Tryz.f12.resultTypes.toList).any (Tryz.prog.wideKeysFrom ·))) = true:=by kernel_rfl
theorem k12_27 : ((Tryz.prog.make == some Rows.printBracketsRow.make)) = true:=by kernel_rfl
theorem k12_31 : (Rows.printBracketsRow.veiledFits Tryz.prog Tryz.f12.params.toList (Tryz.f12.params.toList ++ (Rows.printBracketsSpec).plain.varTypes Tryz.prog ++ Tryz.f12.resultTypes.toList)) = true:=by kernel_rfl
theorem fnd12 : Tryz.prog.funcNamed "gatepost/gatepostlaw10.PrintBrackets" = some 12 := by kernel_rfl
theorem joined12 : joinedFacts Tryz.pinned.checked.prog 12 Tryz.f12 Rows.printBracketsSpec Rows.printBracketsRow = true:=andT (andT (andT (andT (andT (andT (andT (andT (andT (andT (andT (andT (andT (andT (andT (andT (andT (andT (andT (andT (andT (andT (andT (andT (andT (andT (andT (andT (andT (andT (andT (k12_0) laid6) rowed6) k12_3) k12_4) (show ((Rows.printBracketsRow.stops == [])) = true by kernel_rfl)) (show ((Tryz.prog.stops == [])) = true by kernel_rfl)) (show ((Rows.printBracketsRow.knobs == [])) = true by kernel_rfl)) (show ((Tryz.prog.stopKnobs == [])) = true by kernel_rfl)) k12_9) k12_10) k12_11) k12_12) (show ((Rows.printBracketsRow.maps == (Tryz.f12.params.toList ++ (Rows.printBracketsSpec).plain.varTypes Tryz.prog).any (Tryz.prog.mapsRec ·))) = true by kernel_rfl)) (show ((Rows.printBracketsRow.ifaces == (Tryz.f12.params.toList ++ (Rows.printBracketsSpec).plain.varTypes Tryz.prog).any (Tryz.prog.ifacesRec ·))) = true by kernel_rfl)) (show ((Rows.printBracketsRow.mapsOut == Tryz.prog.mapsAmong Tryz.f12.resultTypes.toList)) = true by kernel_rfl)) (show ((Rows.printBracketsRow.loops == (Tryz.f12.params.toList ++ (Rows.printBracketsSpec).plain.varTypes Tryz.prog).any (Tryz.prog.loopsFrom ·))) = true by kernel_rfl)) k12_17) (show ((Rows.printBracketsSpec).vars.all (Tryz.prog.varReadable ·)) = true by kernel_rfl)) (show (Tryz.f12.resultTypes.all (fun t=>Tryz.prog.readableRec t && decide (t < Tryz.prog.types.size))) = true by kernel_rfl)) (show ((Rows.printBracketsRow.ifacesOut == Tryz.f12.resultTypes.toList.any (Tryz.prog.ifacesRec ·))) = true by kernel_rfl)) (show ((Rows.printBracketsRow.loopsOut == Tryz.f12.resultTypes.toList.any (Tryz.prog.loopsFrom ·))) = true by kernel_rfl)) hKeys) (show (Rows.printBracketsRow.shortTexts.isNone) = true by kernel_rfl)) hHeard) hMay) hLift) k12_27) (show ((Rows.printBracketsRow.kinds == (if Rows.printBracketsRow.domain.isEmpty then [] else Tryz.f12.params.toList.map fun t=>match Tryz.prog.underlying t with | some (.int k)=>some k | _=>none))) = true by kernel_rfl)) (show ((Rows.printBracketsRow.pinned == Rows.printBracketsRow.pinnedBy)) = true by kernel_rfl)) (show ((Rows.printBracketsRow.veiled == (Tryz.f12.params.toList ++ (Rows.printBracketsSpec).plain.varTypes Tryz.prog ++ Tryz.f12.resultTypes.toList).any (Tryz.prog.veiledRec ·))) = true by kernel_rfl)) k12_31
theorem over12 : Rows.PrintBracketsSaid :=
 OpenClaim.holds_of_wide 12 Tryz.f12 rfl rfl rfl rfl rfl rfl rfl ⟨rfl,rfl,rfl,rfl,rfl⟩ rfl rfl rfl rfl rfl fnd12 Tryz.func12 joined12
  (of_decide_eq_true (by kernel_rfl)) (by unfold Func.isWrapper;first | (rw [if_pos (by decide +kernel)];kernel_rfl) | (rw [if_neg (by decide +kernel)];exact ⟨rfl,rfl⟩))
  (fun os started H enc _=>lifted12 os started H enc)
theorem byText12 : Rows.printBracketsRow.wfByText (OpenSpec.ofChange Rows.printBracketsSpec) = true:=by kernel_rfl
theorem goes12 : false = Rows.printBracketsRow.goesBy Tryz.prog:=by kernel_rfl
theorem standIn12 (j : Nat) (t : TypeId) (ht : Tryz.f12.params[j]? = some t) : Tryz.prog.wantsStandIn t = false:=by
 have h : (Tryz.f12.params.toList.all fun t=>!(Tryz.prog.wantsStandIn t)) = true:=by kernel_rfl
 have:=List.all_eq_true.1 h t (List.mem_of_getElem? (i:=j) (by simpa using ht))
 simpa using this
theorem card12 : Rows.PrintBracketsCardSaid :=
 Claim7.holds_tied_plain_at .later [] [.data, .data, .data] true (true, "80a834c457ab35883543603980dd7f217c45191a846bf96d7f461e86fb45756a") true
  over12 (fun _ h=>by cases h) byText12 (fun _ h=>by cases h) printBrackets_row_tie rfl ⟨rfl,rfl⟩ hMain rfl
  (fun f fn hf hfn=>by
   obtain rfl : f = 12:=Option.some.inj (fnd12.symm.trans hf) |>.symm
   obtain rfl : fn = Tryz.f12:=(Option.some.inj (Tryz.func12.symm.trans hfn)).symm
   exact ⟨hLooks,fun j t ht=>standIn12 j t ht⟩)
  goes12
end GP
namespace Go.Proofs.YtainhmbnbgonhaaGreatDoor
theorem printBrackets_card_holds : Rows.PrintBracketsCardSaid:=GP.card12
#print axioms printBrackets_card_holds
end Go.Proofs.YtainhmbnbgonhaaGreatDoor
