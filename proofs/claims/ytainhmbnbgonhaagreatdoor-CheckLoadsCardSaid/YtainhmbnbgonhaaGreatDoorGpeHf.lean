/- CheckLoads returns true for every input, and its arguments read behind the call as before. The listed package-level variables start as the program's text lays them: the card ties them. No other condition. -/
import Derived.Test.YtainhmbnbgonhaaGreatDoorM10
import Derived.Test.YtainhmbnbgonhaaGreatDoorM11
set_option linter.unusedSimpArgs false
set_option linter.unnecessarySimpa false
namespace GP
open Go Go.Proofs Go.Proofs.YtainhmbnbgonhaaGreatDoor
open Go.ChangeShapes Go.WideShapes Go.ChangeAt Go.RowKit
set_option maxRecDepth 100000
theorem yK(W:World):Args Tryz.prog W Tryz.f15.params.toList (fun l=>∃x0 l0,l=x0::l0/\(∃n,Bi n x0/\rgD x0)/\∃x1 l1,l0=x1::l1/\(∃b,x1= .bool b)/\l1=[]):=by
 rw[Tryz.params15]
 exact .cons (yF W) (.cons (A5o W) .nil)
theorem tE(os:Os)(started:os.Started)(H:Type)(enc:TypeId×Value->H):
  ReturnsInHanded {} Tryz.checked os 15 .any (fun w args=>(Rows.checkLoadsSpec.pre enc Tryz.prog Tryz.f15 [] false w args/\laidMetH Tryz.prog Hl w)/\sizedMet enc Tryz.prog Tryz.f15 (OpenSpec.ofChange Rows.checkLoadsSpec) false w args)
   (Rows.checkLoadsSpec.post enc Tryz.prog Tryz.f15 false true false false):=by
 refine returnsInHanded_of_change_and (C:=Tryz.checked) (X:=fun w _=>laidMetH Tryz.prog Hl w) (fun _ _ _ hh h=>h.of_heap hh) A3v started (by kernel_rfl) Tryz.func15
  (ChangeSpec.witness_shaped (enc:=enc) (C:=Tryz.checked) (os:=os) (X:=fun w _=>laidMetH Tryz.prog Hl w) false (World.laidAll Tryz.prog os Hl) #[.agg #[.slice none 0 0,.string ⟨#[]⟩,.slice none 0 0],.bool false] 8 (World.laidAll_os _ _ _)
   (World.shaped_of_ZipB (by kernel_rfl) (by kernel_rfl)) (by kernel_rfl) (by kernel_rfl) (by kernel_rfl)
   (by rw[MakeChecks.laidMetH_plain _ _ _ (by kernel_rfl)];exact laidMet_laidAll _ (by kernel_rfl) (by kernel_rfl))) ?_
 intro W base args ds gs before hval hW hcnd hsz hL _
 refine kP (P:=Tryz.prog) Ux uZ Yv ?_ rfl (tb:=4) ?_ Tryz.underlying4 hval hW hsz ?_ (yK W) A5L ?_ (lC hL) ?_
 ·rw[Tryz.params15];exact of_decide_eq_true (by kernel_rfl)
 ·kernel_rfl
 ·intro l hl
  rw[Tryz.params15] at hl
  match l,hl with
  | [a,b],_=>rfl
 ·rw[Tryz.params15];decide
 ·rintro xs ⟨x0,l0,rfl,h0,x1,l1,rfl,h1,rfl⟩
  obtain⟨n,he,hr⟩:=h0;obtain⟨b,rfl⟩:=h1;exact yT he hr b [] []
theorem zK:(Rows.checkLoadsRow.wf (OpenSpec.ofChange Rows.checkLoadsSpec))=true:=by kernel_rfl
theorem zL:(Tryz.f15.params.all (Tryz.prog.readableRec ·))=true:=by kernel_rfl
theorem A6:(namedTie Tryz.prog Rows.checkLoadsRow.named (Rows.checkLoadsSpec).vars)=true:=by kernel_rfl
theorem zW:((Rows.checkLoadsRow.inPlace==Tryz.prog.inPlace 15))=true:=by kernel_rfl
theorem xS:((Rows.checkLoadsRow.unfollowed==Tryz.prog.unfollowed 15))=true:=by kernel_rfl
theorem xY:((Rows.checkLoadsRow.recurses==Tryz.prog.recurses 15))=true:=by kernel_rfl
theorem yJ:((Rows.checkLoadsRow.named==Tryz.prog.varsNamed 15))=true:=by kernel_rfl
theorem xO:((Rows.checkLoadsRow.wideKeys==(Tryz.f15.params.toList++(Rows.checkLoadsSpec).plain.varTypes Tryz.prog++Tryz.f15.resultTypes.toList).any (Tryz.prog.wideKeysFrom ·)))=true:=by kernel_rfl
theorem zG:((Tryz.prog.make==some Rows.checkLoadsRow.make))=true:=by kernel_rfl
theorem xN:(Rows.checkLoadsRow.veiledFits Tryz.prog Tryz.f15.params.toList (Tryz.f15.params.toList++(Rows.checkLoadsSpec).plain.varTypes Tryz.prog++Tryz.f15.resultTypes.toList))=true:=by kernel_rfl
theorem xI: Tryz.prog.funcNamed "gatepost/gatepostlaw09.CheckLoads" = some 15 := by kernel_rfl
theorem u9:joinedFacts Tryz.pinned.checked.prog 15 Tryz.f15 Rows.checkLoadsSpec Rows.checkLoadsRow=true:=Cq (Cq (Cq (Cq (Cq (Cq (Cq (Cq (Cq (Cq (Cq (Cq (Cq (Cq (Cq (Cq (Cq (Cq (Cq (Cq (Cq (Cq (Cq (Cq (Cq (Cq (Cq (Cq (Cq (Cq (Cq (zK) Ux) uZ) zL) A6) (show((Rows.checkLoadsRow.stops==[]))=true by kernel_rfl)) (show((Tryz.prog.stops==[]))=true by kernel_rfl)) (show((Rows.checkLoadsRow.knobs==[]))=true by kernel_rfl)) (show((Tryz.prog.stopKnobs==[]))=true by kernel_rfl)) zW) xS) xY) yJ) (show((Rows.checkLoadsRow.maps==(Tryz.f15.params.toList++(Rows.checkLoadsSpec).plain.varTypes Tryz.prog).any (Tryz.prog.mapsRec ·)))=true by kernel_rfl)) (show((Rows.checkLoadsRow.ifaces==(Tryz.f15.params.toList++(Rows.checkLoadsSpec).plain.varTypes Tryz.prog).any (Tryz.prog.ifacesRec ·)))=true by kernel_rfl)) (show((Rows.checkLoadsRow.mapsOut==Tryz.prog.mapsAmong Tryz.f15.resultTypes.toList))=true by kernel_rfl)) (show((Rows.checkLoadsRow.loops==(Tryz.f15.params.toList++(Rows.checkLoadsSpec).plain.varTypes Tryz.prog).any (Tryz.prog.loopsFrom ·)))=true by kernel_rfl)) xO) (show((Rows.checkLoadsSpec).vars.all (Tryz.prog.varReadable ·))=true by kernel_rfl)) (show(Tryz.f15.resultTypes.all (fun t=>Tryz.prog.readableRec t&&decide (t<Tryz.prog.types.size)))=true by kernel_rfl)) (show((Rows.checkLoadsRow.ifacesOut==Tryz.f15.resultTypes.toList.any (Tryz.prog.ifacesRec ·)))=true by kernel_rfl)) (show((Rows.checkLoadsRow.loopsOut==Tryz.f15.resultTypes.toList.any (Tryz.prog.loopsFrom ·)))=true by kernel_rfl)) Xy) (show(Rows.checkLoadsRow.shortTexts.isNone)=true by kernel_rfl)) y8) A3s) A15) zG) (show((Rows.checkLoadsRow.kinds==(if Rows.checkLoadsRow.domain.isEmpty then [] else Tryz.f15.params.toList.map fun t=>match Tryz.prog.underlying t with|some (.int k)=>some k|_=>none)))=true by kernel_rfl)) (show((Rows.checkLoadsRow.pinned==Rows.checkLoadsRow.pinnedBy))=true by kernel_rfl)) (show((Rows.checkLoadsRow.veiled==(Tryz.f15.params.toList++(Rows.checkLoadsSpec).plain.varTypes Tryz.prog++Tryz.f15.resultTypes.toList).any (Tryz.prog.veiledRec ·)))=true by kernel_rfl)) xN
theorem yU:Rows.CheckLoadsSaid :=
 OpenClaim.holds_of_wide 15 Tryz.f15 rfl rfl rfl rfl rfl rfl rfl ⟨rfl,rfl,rfl,rfl,rfl⟩ rfl rfl rfl rfl rfl xI Tryz.func15 u9
  (of_decide_eq_true (by kernel_rfl)) (by unfold Func.isWrapper;first|(rw[if_pos (by decide +kernel)];kernel_rfl)|(rw[if_neg (by decide +kernel)];exact⟨rfl,rfl⟩))
  (fun os started H enc _=>tE os started H enc)
theorem v7:Rows.checkLoadsRow.wfByText (OpenSpec.ofChange Rows.checkLoadsSpec)=true:=by kernel_rfl
theorem yZ:false=Rows.checkLoadsRow.goesBy Tryz.prog:=by kernel_rfl
theorem QF(j:Nat)(t:TypeId)(ht:Tryz.f15.params[j]? =some t):Tryz.prog.wantsStandIn t=false:=by
 have h:(Tryz.f15.params.toList.all fun t=>!(Tryz.prog.wantsStandIn t))=true:=by kernel_rfl
 have:=List.all_eq_true.1 h t (List.mem_of_getElem? (i:=j) (by simpa using ht))
 simpa using this
theorem card15:Rows.CheckLoadsCardSaid :=
 Claim7.holds_tied_plain_at .later [] [.data, .data, .data, .sentinel, .sentinel] true (true, "80a834c457ab35883543603980dd7f217c45191a846bf96d7f461e86fb45756a") true
  yU (fun _ h=>by cases h) v7 (fun _ h=>by cases h) checkLoads_row_tie rfl ⟨rfl,rfl⟩ A13 rfl
  (fun f fn hf hfn=>by
   obtain rfl:f=15:=Option.some.inj (xI.symm.trans hf) |>.symm
   obtain rfl:fn=Tryz.f15:=(Option.some.inj (Tryz.func15.symm.trans hfn)).symm
   exact⟨xV,fun j t ht=>QF j t ht⟩)
  yZ
end GP
namespace Go.Proofs.YtainhmbnbgonhaaGreatDoor
theorem checkLoads_card_holds:Rows.CheckLoadsCardSaid:=GP.card15
#print axioms checkLoads_card_holds
end Go.Proofs.YtainhmbnbgonhaaGreatDoor
