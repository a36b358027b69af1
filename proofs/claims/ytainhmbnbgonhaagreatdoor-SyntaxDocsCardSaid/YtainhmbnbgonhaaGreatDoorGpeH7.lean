/- SyntaxDocs returns true for every input, and its arguments read behind the call as before. The listed package-level variables start as the program's text lays them: the card ties them. No other condition. -/
import Derived.Test.YtainhmbnbgonhaaGreatDoorM16
set_option linter.unusedSimpArgs false
namespace GP
open Go Go.Proofs Go.Proofs.YtainhmbnbgonhaaGreatDoor
open Go.ChangeShapes Go.WideShapes Go.ChangeAt Go.RowKit
set_option maxRecDepth 100000
theorem args7 (W : World) : Args Tryz.prog W Tryz.f7.params.toList (fun l=>∃ x0 l0,l = x0 :: l0 /\ (∃ n,isDoc n x0 /\ rgD x0) /\ ∃ x1 l1,l0 = x1 :: l1 /\ (∃ b,x1 = .bool b) /\ l1 = []):=by
 rw [Tryz.params7]
 exact .cons (argDoc W) (.cons (argB W) .nil)
theorem lifted7 (os : Os) (started : os.Started) (H : Type) (enc : TypeId × Value -> H) :
  ReturnsInHanded {} Tryz.checked os 7 .any (fun w args=>(Rows.syntaxDocsSpec.pre enc Tryz.prog Tryz.f7 [] false w args /\ laidMetH Tryz.prog laidD w) /\ sizedMet enc Tryz.prog Tryz.f7 (OpenSpec.ofChange Rows.syntaxDocsSpec) false w args)
   (Rows.syntaxDocsSpec.post enc Tryz.prog Tryz.f7 false true false false):=by
 refine returnsInHanded_of_change_and (C:=Tryz.checked) (X:=fun w _=>laidMetH Tryz.prog laidD w) (fun _ _ _ hh h=>h.of_heap hh) own6 started (by kernel_rfl) Tryz.func7
  (ChangeSpec.witness_shaped (enc:=enc) (C:=Tryz.checked) (os:=os) (X:=fun w _=>laidMetH Tryz.prog laidD w) false (World.laidAll Tryz.prog os laidD) #[.agg #[.slice none 0 0,.string ⟨#[]⟩,.slice none 0 0],.bool false] 8 (World.laidAll_os _ _ _)
   (World.shaped_of_ZipB (by kernel_rfl) (by kernel_rfl)) (by kernel_rfl) (by kernel_rfl) (by kernel_rfl)
   (by rw [MakeChecks.laidMetH_plain _ _ _ (by kernel_rfl)];exact laidMet_laidAll _ (by kernel_rfl) (by kernel_rfl))) ?_
 intro W base args ds gs before hval hW hcnd hsz hL _
 refine law_contract (P:=Tryz.prog) laid6 rowed6 full6 ?_ rfl (tb:=4) ?_ Tryz.underlying4 hval hW hsz ?_ (args7 W) fn7 ?_ (vars_of_laid hL) ?_
 ·rw [Tryz.params7];exact of_decide_eq_true (by kernel_rfl)
 ·kernel_rfl
 ·intro l hl
  rw [Tryz.params7] at hl
  match l,hl with
  | [a,b],_=>rfl
 ·rw [Tryz.params7];decide
 ·rintro xs ⟨x0,l0,rfl,h0,x1,l1,rfl,h1,rfl⟩
  obtain ⟨n,he,hr⟩:=h0;obtain ⟨b,rfl⟩:=h1;exact main7 he hr b [] []
theorem k7_0 : (Rows.syntaxDocsRow.wf (OpenSpec.ofChange Rows.syntaxDocsSpec)) = true:=by kernel_rfl
theorem k7_3 : (Tryz.f7.params.all (Tryz.prog.readableRec ·)) = true:=by kernel_rfl
theorem k7_4 : (namedTie Tryz.prog Rows.syntaxDocsRow.named (Rows.syntaxDocsSpec).vars) = true:=by kernel_rfl
theorem k7_9 : ((Rows.syntaxDocsRow.inPlace == Tryz.prog.inPlace 7)) = true:=by kernel_rfl
theorem k7_10 : ((Rows.syntaxDocsRow.unfollowed == Tryz.prog.unfollowed 7)) = true:=by kernel_rfl
theorem k7_11 : ((Rows.syntaxDocsRow.recurses == Tryz.prog.recurses 7)) = true:=by kernel_rfl
theorem k7_12 : ((Rows.syntaxDocsRow.named == Tryz.prog.varsNamed 7)) = true:=by kernel_rfl
theorem k7_17 : ((Rows.syntaxDocsRow.wideKeys == (Tryz.f7.params.toList ++ (Rows.syntaxDocsSpec).plain.varTypes Tryz.prog ++ Tryz.f7.resultTypes.toList).any (Tryz.prog.wideKeysFrom ·))) = true:=by kernel_rfl
theorem k7_27 : ((Tryz.prog.make == some Rows.syntaxDocsRow.make)) = true:=by kernel_rfl
theorem k7_31 : (Rows.syntaxDocsRow.veiledFits Tryz.prog Tryz.f7.params.toList (Tryz.f7.params.toList ++ (Rows.syntaxDocsSpec).plain.varTypes Tryz.prog ++ Tryz.f7.resultTypes.toList)) = true:=by kernel_rfl
theorem fnd7 : Tryz.prog.funcNamed "gatepost/gatepostlaw08.SyntaxDocs" = some 7 := by kernel_rfl
theorem joined7 : joinedFacts Tryz.pinned.checked.prog 7 Tryz.f7 Rows.syntaxDocsSpec Rows.syntaxDocsRow = true:=andT (andT (andT (andT (andT (andT (andT (andT (andT (andT (andT (andT (andT (andT (andT (andT (andT (andT (andT (andT (andT (andT (andT (andT (andT (andT (andT (andT (andT (andT (andT (k7_0) laid6) rowed6) k7_3) k7_4) (show ((Rows.syntaxDocsRow.stops == [])) = true by kernel_rfl)) (show ((Tryz.prog.stops == [])) = true by kernel_rfl)) (show ((Rows.syntaxDocsRow.knobs == [])) = true by kernel_rfl)) (show ((Tryz.prog.stopKnobs == [])) = true by kernel_rfl)) k7_9) k7_10) k7_11) k7_12) (show ((Rows.syntaxDocsRow.maps == (Tryz.f7.params.toList ++ (Rows.syntaxDocsSpec).plain.varTypes Tryz.prog).any (Tryz.prog.mapsRec ·))) = true by kernel_rfl)) (show ((Rows.syntaxDocsRow.ifaces == (Tryz.f7.params.toList ++ (Rows.syntaxDocsSpec).plain.varTypes Tryz.prog).any (Tryz.prog.ifacesRec ·))) = true by kernel_rfl)) (show ((Rows.syntaxDocsRow.mapsOut == Tryz.prog.mapsAmong Tryz.f7.resultTypes.toList)) = true by kernel_rfl)) (show ((Rows.syntaxDocsRow.loops == (Tryz.f7.params.toList ++ (Rows.syntaxDocsSpec).plain.varTypes Tryz.prog).any (Tryz.prog.loopsFrom ·))) = true by kernel_rfl)) k7_17) (show ((Rows.syntaxDocsSpec).vars.all (Tryz.prog.varReadable ·)) = true by kernel_rfl)) (show (Tryz.f7.resultTypes.all (fun t=>Tryz.prog.readableRec t && decide (t < Tryz.prog.types.size))) = true by kernel_rfl)) (show ((Rows.syntaxDocsRow.ifacesOut == Tryz.f7.resultTypes.toList.any (Tryz.prog.ifacesRec ·))) = true by kernel_rfl)) (show ((Rows.syntaxDocsRow.loopsOut == Tryz.f7.resultTypes.toList.any (Tryz.prog.loopsFrom ·))) = true by kernel_rfl)) hKeys) (show (Rows.syntaxDocsRow.shortTexts.isNone) = true by kernel_rfl)) hHeard) hMay) hLift) k7_27) (show ((Rows.syntaxDocsRow.kinds == (if Rows.syntaxDocsRow.domain.isEmpty then [] else Tryz.f7.params.toList.map fun t=>match Tryz.prog.underlying t with | some (.int k)=>some k | _=>none))) = true by kernel_rfl)) (show ((Rows.syntaxDocsRow.pinned == Rows.syntaxDocsRow.pinnedBy)) = true by kernel_rfl)) (show ((Rows.syntaxDocsRow.veiled == (Tryz.f7.params.toList ++ (Rows.syntaxDocsSpec).plain.varTypes Tryz.prog ++ Tryz.f7.resultTypes.toList).any (Tryz.prog.veiledRec ·))) = true by kernel_rfl)) k7_31
theorem over7 : Rows.SyntaxDocsSaid :=
 OpenClaim.holds_of_wide 7 Tryz.f7 rfl rfl rfl rfl rfl rfl rfl ⟨rfl,rfl,rfl,rfl,rfl⟩ rfl rfl rfl rfl rfl fnd7 Tryz.func7 joined7
  (of_decide_eq_true (by kernel_rfl)) (by unfold Func.isWrapper;first | (rw [if_pos (by decide +kernel)];kernel_rfl) | (rw [if_neg (by decide +kernel)];exact ⟨rfl,rfl⟩))
  (fun os started H enc _=>lifted7 os started H enc)
theorem byText7 : Rows.syntaxDocsRow.wfByText (OpenSpec.ofChange Rows.syntaxDocsSpec) = true:=by kernel_rfl
theorem goes7 : false = Rows.syntaxDocsRow.goesBy Tryz.prog:=by kernel_rfl
theorem standIn7 (j : Nat) (t : TypeId) (ht : Tryz.f7.params[j]? = some t) : Tryz.prog.wantsStandIn t = false:=by
 have h : (Tryz.f7.params.toList.all fun t=>!(Tryz.prog.wantsStandIn t)) = true:=by kernel_rfl
 have:=List.all_eq_true.1 h t (List.mem_of_getElem? (i:=j) (by simpa using ht))
 simpa using this
theorem card7 : Rows.SyntaxDocsCardSaid :=
 Claim7.holds_tied_plain_at .later [] [.data, .data, .data, .sentinel, .sentinel] true (true, "80a834c457ab35883543603980dd7f217c45191a846bf96d7f461e86fb45756a") true
  over7 (fun _ h=>by cases h) byText7 (fun _ h=>by cases h) syntaxDocs_row_tie rfl ⟨rfl,rfl⟩ hMain rfl
  (fun f fn hf hfn=>by
   obtain rfl : f = 7:=Option.some.inj (fnd7.symm.trans hf) |>.symm
   obtain rfl : fn = Tryz.f7:=(Option.some.inj (Tryz.func7.symm.trans hfn)).symm
   exact ⟨hLooks,fun j t ht=>standIn7 j t ht⟩)
  goes7
end GP
namespace Go.Proofs.YtainhmbnbgonhaaGreatDoor
theorem syntaxDocs_card_holds : Rows.SyntaxDocsCardSaid:=GP.card7
#print axioms syntaxDocs_card_holds
end Go.Proofs.YtainhmbnbgonhaaGreatDoor
