/- CheckTexts returns true for every input, and its arguments read behind the call as before. The listed package-level variables start as the program's text lays them: the card ties them. No other condition. -/
import Derived.Test.YtainhmbnbgonhaaGreatDoorM8
import Derived.Test.YtainhmbnbgonhaaGreatDoorM19
set_option linter.unusedSimpArgs false
set_option linter.unnecessarySimpa false
namespace GP
open Go Go.Proofs Go.Proofs.YtainhmbnbgonhaaGreatDoor
open Go.ChangeShapes Go.WideShapes Go.ChangeAt Go.RowKit
set_option maxRecDepth 100000
theorem RG (W : World) : Args Tryz.prog W Tryz.f14.params.toList (fun l=>∃ x0 l0,l = x0 :: l0 /\ (∃ l,[x0] = [.str l] /\ l.length <= 2 ^ 47) /\ l0 = []):=by
 rw [Tryz.params14]
 exact .cons (OY Tryz.underlying9 rfl fun f=>HW Tryz.underlying9 f) .nil
theorem LO (os : Os) (started : os.Started) (H : Type) (enc : TypeId × Value -> H) :
  ReturnsInHanded {} Tryz.checked os 14 .any (fun w args=>(Rows.checkTextsSpec.pre enc Tryz.prog Tryz.f14 [] false w args /\ laidMetH Tryz.prog vX w) /\ sizedMet enc Tryz.prog Tryz.f14 (OpenSpec.ofChange Rows.checkTextsSpec) false w args)
   (Rows.checkTextsSpec.post enc Tryz.prog Tryz.f14 false true false false):=by
 refine returnsInHanded_of_change_and (C:=Tryz.checked) (X:=fun w _=>laidMetH Tryz.prog vX w) (fun _ _ _ hh h=>h.of_heap hh) Zq started (by kernel_rfl) Tryz.func14
  (ChangeSpec.witness_shaped (enc:=enc) (C:=Tryz.checked) (os:=os) (X:=fun w _=>laidMetH Tryz.prog vX w) false (World.laidAll Tryz.prog os vX) #[.string ⟨#[]⟩] 8 (World.laidAll_os _ _ _)
   (World.shaped_of_ZipB (by kernel_rfl) (by kernel_rfl)) (by kernel_rfl) (by kernel_rfl) (by kernel_rfl)
   (by rw [MakeChecks.laidMetH_plain _ _ _ (by kernel_rfl)];exact laidMet_laidAll _ (by kernel_rfl) (by kernel_rfl))) ?_
 intro W base args ds gs before hval hW hcnd hsz hL _
 refine E8 (P:=Tryz.prog) Pm L8 Vg ?_ rfl (tb:=4) ?_ Tryz.underlying4 hval hW hsz ?_ (RG W) A0B ?_ (Dn hL) ?_
 ·rw [Tryz.params14];exact of_decide_eq_true (by kernel_rfl)
 ·kernel_rfl
 ·intro l hl
  rw [Tryz.params14] at hl
  match l,hl with
  | [a],_=>rfl
 ·rw [Tryz.params14];decide
 ·rintro xs ⟨x0,l0,rfl,h0,rfl⟩
  obtain ⟨l,e,hl⟩:=h0;injection e with e;subst e;exact RZ l hl [] []
theorem U3 : (Rows.checkTextsRow.wf (OpenSpec.ofChange Rows.checkTextsSpec)) = true:=by kernel_rfl
theorem Tp : (Tryz.f14.params.all (Tryz.prog.readableRec ·)) = true:=by kernel_rfl
theorem Su : (namedTie Tryz.prog Rows.checkTextsRow.named (Rows.checkTextsSpec).vars) = true:=by kernel_rfl
theorem UI : ((Rows.checkTextsRow.inPlace == Tryz.prog.inPlace 14)) = true:=by kernel_rfl
theorem RI : ((Rows.checkTextsRow.unfollowed == Tryz.prog.unfollowed 14)) = true:=by kernel_rfl
theorem Qq : ((Rows.checkTextsRow.recurses == Tryz.prog.recurses 14)) = true:=by kernel_rfl
theorem Qh : ((Rows.checkTextsRow.named == Tryz.prog.varsNamed 14)) = true:=by kernel_rfl
theorem Qe : ((Rows.checkTextsRow.wideKeys == (Tryz.f14.params.toList ++ (Rows.checkTextsSpec).plain.varTypes Tryz.prog ++ Tryz.f14.resultTypes.toList).any (Tryz.prog.wideKeysFrom ·))) = true:=by kernel_rfl
theorem Rv : ((Tryz.prog.make == some Rows.checkTextsRow.make)) = true:=by kernel_rfl
theorem Qz : (Rows.checkTextsRow.veiledFits Tryz.prog Tryz.f14.params.toList (Tryz.f14.params.toList ++ (Rows.checkTextsSpec).plain.varTypes Tryz.prog ++ Tryz.f14.resultTypes.toList)) = true:=by kernel_rfl
theorem Pk : Tryz.prog.funcNamed "gatepost/gatepostlaw09.CheckTexts" = some 14 := by kernel_rfl
theorem N5 : joinedFacts Tryz.pinned.checked.prog 14 Tryz.f14 Rows.checkTextsSpec Rows.checkTextsRow = true:=iI (iI (iI (iI (iI (iI (iI (iI (iI (iI (iI (iI (iI (iI (iI (iI (iI (iI (iI (iI (iI (iI (iI (iI (iI (iI (iI (iI (iI (iI (iI (U3) Pm) L8) Tp) Su) (show ((Rows.checkTextsRow.stops == [])) = true by kernel_rfl)) (show ((Tryz.prog.stops == [])) = true by kernel_rfl)) (show ((Rows.checkTextsRow.knobs == [])) = true by kernel_rfl)) (show ((Tryz.prog.stopKnobs == [])) = true by kernel_rfl)) UI) RI) Qq) Qh) (show ((Rows.checkTextsRow.maps == (Tryz.f14.params.toList ++ (Rows.checkTextsSpec).plain.varTypes Tryz.prog).any (Tryz.prog.mapsRec ·))) = true by kernel_rfl)) (show ((Rows.checkTextsRow.ifaces == (Tryz.f14.params.toList ++ (Rows.checkTextsSpec).plain.varTypes Tryz.prog).any (Tryz.prog.ifacesRec ·))) = true by kernel_rfl)) (show ((Rows.checkTextsRow.mapsOut == Tryz.prog.mapsAmong Tryz.f14.resultTypes.toList)) = true by kernel_rfl)) (show ((Rows.checkTextsRow.loops == (Tryz.f14.params.toList ++ (Rows.checkTextsSpec).plain.varTypes Tryz.prog).any (Tryz.prog.loopsFrom ·))) = true by kernel_rfl)) Qe) (show ((Rows.checkTextsSpec).vars.all (Tryz.prog.varReadable ·)) = true by kernel_rfl)) (show (Tryz.f14.resultTypes.all (fun t=>Tryz.prog.readableRec t && decide (t < Tryz.prog.types.size))) = true by kernel_rfl)) (show ((Rows.checkTextsRow.ifacesOut == Tryz.f14.resultTypes.toList.any (Tryz.prog.ifacesRec ·))) = true by kernel_rfl)) (show ((Rows.checkTextsRow.loopsOut == Tryz.f14.resultTypes.toList.any (Tryz.prog.loopsFrom ·))) = true by kernel_rfl)) WP) (show (Rows.checkTextsRow.shortTexts.isNone) = true by kernel_rfl)) QF) A1E) Xs) Rv) (show ((Rows.checkTextsRow.kinds == (if Rows.checkTextsRow.domain.isEmpty then [] else Tryz.f14.params.toList.map fun t=>match Tryz.prog.underlying t with | some (.int k)=>some k | _=>none))) = true by kernel_rfl)) (show ((Rows.checkTextsRow.pinned == Rows.checkTextsRow.pinnedBy)) = true by kernel_rfl)) (show ((Rows.checkTextsRow.veiled == (Tryz.f14.params.toList ++ (Rows.checkTextsSpec).plain.varTypes Tryz.prog ++ Tryz.f14.resultTypes.toList).any (Tryz.prog.veiledRec ·))) = true by kernel_rfl)) Qz
theorem QD : Rows.CheckTextsSaid :=
 OpenClaim.holds_of_wide 14 Tryz.f14 rfl rfl rfl rfl rfl rfl rfl ⟨rfl,rfl,rfl,rfl,rfl⟩ rfl rfl rfl rfl rfl Pk Tryz.func14 N5
  (of_decide_eq_true (by kernel_rfl)) (by unfold Func.isWrapper;first | (rw [if_pos (by decide +kernel)];kernel_rfl) | (rw [if_neg (by decide +kernel)];exact ⟨rfl,rfl⟩))
  (fun os started H enc _=>LO os started H enc)
theorem LI : Rows.checkTextsRow.wfByText (OpenSpec.ofChange Rows.checkTextsSpec) = true:=by kernel_rfl
theorem RO : false = Rows.checkTextsRow.goesBy Tryz.prog:=by kernel_rfl
theorem KS (j : Nat) (t : TypeId) (ht : Tryz.f14.params[j]? = some t) : Tryz.prog.wantsStandIn t = false:=by
 have h : (Tryz.f14.params.toList.all fun t=>!(Tryz.prog.wantsStandIn t)) = true:=by kernel_rfl
 have:=List.all_eq_true.1 h t (List.mem_of_getElem? (i:=j) (by simpa using ht))
 simpa using this
theorem card14 : Rows.CheckTextsCardSaid :=
 Claim7.holds_tied_plain_at .later [] [.data, .data, .data, .sentinel, .sentinel] true (true, "80a834c457ab35883543603980dd7f217c45191a846bf96d7f461e86fb45756a") true
  QD (fun _ h=>by cases h) LI (fun _ h=>by cases h) checkTexts_row_tie rfl ⟨rfl,rfl⟩ Sf rfl
  (fun f fn hf hfn=>by
   obtain rfl : f = 14:=Option.some.inj (Pk.symm.trans hf) |>.symm
   obtain rfl : fn = Tryz.f14:=(Option.some.inj (Tryz.func14.symm.trans hfn)).symm
   exact ⟨QB,fun j t ht=>KS j t ht⟩)
  RO
end GP
namespace Go.Proofs.YtainhmbnbgonhaaGreatDoor
theorem checkTexts_card_holds : Rows.CheckTextsCardSaid:=GP.card14
#print axioms checkTexts_card_holds
end Go.Proofs.YtainhmbnbgonhaaGreatDoor
