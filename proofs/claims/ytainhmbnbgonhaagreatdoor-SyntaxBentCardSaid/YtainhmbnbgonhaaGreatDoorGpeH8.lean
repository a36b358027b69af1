/- SyntaxBent returns true for every input, and its arguments read behind the call as before. The listed package-level variables start as the program's text lays them: the card ties them. No other condition. -/
import Derived.Test.YtainhmbnbgonhaaGreatDoorM17
set_option linter.unusedSimpArgs false
namespace GP
open Go Go.Proofs Go.Proofs.YtainhmbnbgonhaaGreatDoor
open Go.ChangeShapes Go.WideShapes Go.ChangeAt Go.RowKit
set_option maxRecDepth 100000
theorem args8 (W : World) : Args Tryz.prog W Tryz.f8.params.toList (fun l=>∃ x0 l0,l = x0 :: l0 /\ (∃ n,isDoc n x0 /\ rgD x0) /\ ∃ x1 l1,l0 = x1 :: l1 /\ (tokB x1 = true) /\ ∃ x2 l2,l1 = x2 :: l2 /\ (∃ a : Nat,x2 = .int .u16 (a : Int) /\ a < 65536) /\ l2 = []):=by
 rw [Tryz.params8]
 exact .cons (argDoc W) (.cons (argTok W) (.cons (argU16 W) .nil))
theorem lifted8 (os : Os) (started : os.Started) (H : Type) (enc : TypeId × Value -> H) :
  ReturnsInHanded {} Tryz.checked os 8 .any (fun w args=>(Rows.syntaxBentSpec.pre enc Tryz.prog Tryz.f8 [] false w args /\ laidMetH Tryz.prog laidD w) /\ sizedMet enc Tryz.prog Tryz.f8 (OpenSpec.ofChange Rows.syntaxBentSpec) false w args)
   (Rows.syntaxBentSpec.post enc Tryz.prog Tryz.f8 false true false false):=by
 refine returnsInHanded_of_change_and (C:=Tryz.checked) (X:=fun w _=>laidMetH Tryz.prog laidD w) (fun _ _ _ hh h=>h.of_heap hh) own6 started (by kernel_rfl) Tryz.func8
  (ChangeSpec.witness_shaped (enc:=enc) (C:=Tryz.checked) (os:=os) (X:=fun w _=>laidMetH Tryz.prog laidD w) false (World.laidAll Tryz.prog os laidD) #[.agg #[.slice none 0 0,.string ⟨#[]⟩,.slice none 0 0],.agg #[.int .i64 0,.string ⟨#[]⟩,.int .i64 0],.int .u16 0] 8 (World.laidAll_os _ _ _)
   (World.shaped_of_ZipB (by kernel_rfl) (by kernel_rfl)) (by kernel_rfl) (by kernel_rfl) (by kernel_rfl)
   (by rw [MakeChecks.laidMetH_plain _ _ _ (by kernel_rfl)];exact laidMet_laidAll _ (by kernel_rfl) (by kernel_rfl))) ?_
 intro W base args ds gs before hval hW hcnd hsz hL _
 refine law_contract (P:=Tryz.prog) laid6 rowed6 full6 ?_ rfl (tb:=4) ?_ Tryz.underlying4 hval hW hsz ?_ (args8 W) fn8 ?_ (vars_of_laid hL) ?_
 ·rw [Tryz.params8];exact of_decide_eq_true (by kernel_rfl)
 ·kernel_rfl
 ·intro l hl
  rw [Tryz.params8] at hl
  match l,hl with
  | [a,b,c],_=>rfl
 ·rw [Tryz.params8];decide
 ·rintro xs ⟨x0,l0,rfl,h0,x1,l1,rfl,h1,x2,l2,rfl,h2,rfl⟩
  obtain ⟨n,he,hr⟩:=h0;obtain ⟨a,rfl,ha⟩:=h2;exact main8 he hr h1 a ha [] []
theorem k8_0 : (Rows.syntaxBentRow.wf (OpenSpec.ofChange Rows.syntaxBentSpec)) = true:=by kernel_rfl
theorem k8_3 : (Tryz.f8.params.all (Tryz.prog.readableRec ·)) = true:=by kernel_rfl
theorem k8_4 : (namedTie Tryz.prog Rows.syntaxBentRow.named (Rows.syntaxBentSpec).vars) = true:=by kernel_rfl
theorem k8_9 : ((Rows.syntaxBentRow.inPlace == Tryz.prog.inPlace 8)) = true:=by kernel_rfl
theorem k8_10 : ((Rows.syntaxBentRow.unfollowed == Tryz.prog.unfollowed 8)) = true:=by kernel_rfl
theorem k8_11 : ((Rows.syntaxBentRow.recurses == Tryz.prog.recurses 8)) = true:=by kernel_rfl
theorem k8_12 : ((Rows.syntaxBentRow.named == Tryz.prog.varsNamed 8)) = true:=by kernel_rfl
theorem k8_17 : ((Rows.syntaxBentRow.wideKeys == (Tryz.f8.params.toList ++ (Rows.syntaxBentSpec).plain.varTypes Tryz.prog ++ Tryz.f8.resultTypes.toList).any (Tryz.prog.wideKeysFrom ·))) = true:=by kernel_rfl
theorem k8_27 : ((Tryz.prog.make == some Rows.syntaxBentRow.make)) = true:=by kernel_rfl
theorem k8_31 : (Rows.syntaxBentRow.veiledFits Tryz.prog Tryz.f8.params.toList (Tryz.f8.params.toList ++ (Rows.syntaxBentSpec).plain.varTypes Tryz.prog ++ Tryz.f8.resultTypes.toList)) = true:=by kernel_rfl
theorem fnd8 : Tryz.prog.funcNamed "gatepost/gatepostlaw08.SyntaxBent" = some 8 := by kernel_rfl
theorem joined8 : joinedFacts Tryz.pinned.checked.prog 8 Tryz.f8 Rows.syntaxBentSpec Rows.syntaxBentRow = true:=andT (andT (andT (andT (andT (andT (andT (andT (andT (andT (andT (andT (andT (andT (andT (andT (andT (andT (andT (andT (andT (andT (andT (andT (andT (andT (andT (andT (andT (andT (andT (k8_0) laid6) rowed6) k8_3) k8_4) (show ((Rows.syntaxBentRow.stops == [])) = true by kernel_rfl)) (show ((Tryz.prog.stops == [])) = true by kernel_rfl)) (show ((Rows.syntaxBentRow.knobs == [])) = true by kernel_rfl)) (show ((Tryz.prog.stopKnobs == [])) = true by kernel_rfl)) k8_9) k8_10) k8_11) k8_12) (show ((Rows.syntaxBentRow.maps == (Tryz.f8.params.toList ++ (Rows.syntaxBentSpec).plain.varTypes Tryz.prog).any (Tryz.prog.mapsRec ·))) = true by kernel_rfl)) (show ((Rows.syntaxBentRow.ifaces == (Tryz.f8.params.toList ++ (Rows.syntaxBentSpec).plain.varTypes Tryz.prog).any (Tryz.prog.ifacesRec ·))) = true by kernel_rfl)) (show ((Rows.syntaxBentRow.mapsOut == Tryz.prog.mapsAmong Tryz.f8.resultTypes.toList)) = true by kernel_rfl)) (show ((Rows.syntaxBentRow.loops == (Tryz.f8.params.toList ++ (Rows.syntaxBentSpec).plain.varTypes Tryz.prog).any (Tryz.prog.loopsFrom ·))) = true by kernel_rfl)) k8_17) (show ((Rows.syntaxBentSpec).vars.all (Tryz.prog.varReadable ·)) = true by kernel_rfl)) (show (Tryz.f8.resultTypes.all (fun t=>Tryz.prog.readableRec t && decide (t < Tryz.prog.types.size))) = true by kernel_rfl)) (show ((Rows.syntaxBentRow.ifacesOut == Tryz.f8.resultTypes.toList.any (Tryz.prog.ifacesRec ·))) = true by kernel_rfl)) (show ((Rows.syntaxBentRow.loopsOut == Tryz.f8.resultTypes.toList.any (Tryz.prog.loopsFrom ·))) = true by kernel_rfl)) hKeys) (show (Rows.syntaxBentRow.shortTexts.isNone) = true by kernel_rfl)) hHeard) hMay) hLift) k8_27) (show ((Rows.syntaxBentRow.kinds == (if Rows.syntaxBentRow.domain.isEmpty then [] else Tryz.f8.params.toList.map fun t=>match Tryz.prog.underlying t with | some (.int k)=>some k | _=>none))) = true by kernel_rfl)) (show ((Rows.syntaxBentRow.pinned == Rows.syntaxBentRow.pinnedBy)) = true by kernel_rfl)) (show ((Rows.syntaxBentRow.veiled == (Tryz.f8.params.toList ++ (Rows.syntaxBentSpec).plain.varTypes Tryz.prog ++ Tryz.f8.resultTypes.toList).any (Tryz.prog.veiledRec ·))) = true by kernel_rfl)) k8_31
theorem over8 : Rows.SyntaxBentSaid :=
 OpenClaim.holds_of_wide 8 Tryz.f8 rfl rfl rfl rfl rfl rfl rfl ⟨rfl,rfl,rfl,rfl,rfl⟩ rfl rfl rfl rfl rfl fnd8 Tryz.func8 joined8
  (of_decide_eq_true (by kernel_rfl)) (by unfold Func.isWrapper;first | (rw [if_pos (by decide +kernel)];kernel_rfl) | (rw [if_neg (by decide +kernel)];exact ⟨rfl,rfl⟩))
  (fun os started H enc _=>lifted8 os started H enc)
theorem byText8 : Rows.syntaxBentRow.wfByText (OpenSpec.ofChange Rows.syntaxBentSpec) = true:=by kernel_rfl
theorem goes8 : false = Rows.syntaxBentRow.goesBy Tryz.prog:=by kernel_rfl
theorem standIn8 (j : Nat) (t : TypeId) (ht : Tryz.f8.params[j]? = some t) : Tryz.prog.wantsStandIn t = false:=by
 have h : (Tryz.f8.params.toList.all fun t=>!(Tryz.prog.wantsStandIn t)) = true:=by kernel_rfl
 have:=List.all_eq_true.1 h t (List.mem_of_getElem? (i:=j) (by simpa using ht))
 simpa using this
theorem card8 : Rows.SyntaxBentCardSaid :=
 Claim7.holds_tied_plain_at .later [] [.data, .data, .data, .sentinel, .sentinel] true (true, "80a834c457ab35883543603980dd7f217c45191a846bf96d7f461e86fb45756a") true
  over8 (fun _ h=>by cases h) byText8 (fun _ h=>by cases h) syntaxBent_row_tie rfl ⟨rfl,rfl⟩ hMain rfl
  (fun f fn hf hfn=>by
   obtain rfl : f = 8:=Option.some.inj (fnd8.symm.trans hf) |>.symm
   obtain rfl : fn = Tryz.f8:=(Option.some.inj (Tryz.func8.symm.trans hfn)).symm
   exact ⟨hLooks,fun j t ht=>standIn8 j t ht⟩)
  goes8
end GP
namespace Go.Proofs.YtainhmbnbgonhaaGreatDoor
theorem syntaxBent_card_holds : Rows.SyntaxBentCardSaid:=GP.card8
#print axioms syntaxBent_card_holds
end Go.Proofs.YtainhmbnbgonhaaGreatDoor
