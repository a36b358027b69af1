import Derived.JoinedOf
import Derived.LaidHandle
import Derived.LaidSub
import Derived.Lay
import Derived.MakeChecks
import Derived.SevenTiedAt
import Derived.Stop.LaidErr
import Derived.Test.YtainhmbnbgonhaaGreatDoorCards
import Derived.Test.YtainhmbnbgonhaaGreatDoorTie
import Derived.Test.YtainhmbnbgonhaaGreatDoorM3
set_option linter.unusedSimpArgs false
set_option linter.unnecessarySimpa false
namespace GP
open Go Go.Proofs Go.Proofs.YtainhmbnbgonhaaGreatDoor
open Go.ChangeShapes Go.WideShapes Go.ChangeAt Go.RowKit
set_option maxRecDepth 100000
def Hl:List (String×DataW Unit):=Rows.syntaxKeptRow.laid
theorem uE: Tryz.prog.globalNamed "strconv.ErrRange" = some 3 := by kernel_rfl
theorem A3v:ownKnob Tryz.prog.godebug=none:=by kernel_rfl
theorem Ux:laidOutB Tryz.prog=true:=by kernel_rfl
theorem uZ:mapsRowed Tryz.prog=true:=by kernel_rfl
theorem Yv:((List.range Tryz.prog.types.size).all fun t=>match Tryz.prog.underlying t with|some (.slice e)=>decide (0<Tryz.prog.cellsOf e)|_=>true)=true:=by kernel_rfl
theorem gE(n:String){W:World}{l:List (String×DataW Unit)}(h:laidMetH Tryz.prog Hl W)(e:Hl.filter (fun x=>x.1==n)=l):laidMet Tryz.prog l W:=by
 rw[MakeChecks.laidMetH_plain _ _ _ (by kernel_rfl)] at h
 rw[<- e]
 exact h.filter _
theorem mM{W : World}(h : laidMetH Tryz.prog Hl W): Lib.TabIs Tryz.prog W "internal/strconv.uint64pow10" .u64 Lib.pow10Tab :=
 Lib.tabIs_of_head (g:=1) (t:=225) (e:=202) (n:=20) (rest:=[]) A1Q (by kernel_rfl) Tryz.underlying225 Tryz.underlying202 (by kernel_rfl) (by kernel_rfl)
  (gE "internal/strconv.uint64pow10" h (by kernel_rfl))
theorem YF: "*" ++ "errors.errorString" = "*errors.errorString" := by decide
theorem yW(u : TypeId)(h : Tryz.prog.typeName? 3 u = some "*errors.errorString"): u = 234 :=
 typeName_ptr_named (nm := "errors.errorString") (by rw [YF]; kernel_rfl) (by kernel_rfl) (by decide) u (by rw [YF]; exact h)
theorem j6{W:World}(h:laidMetH Tryz.prog Hl W):∃te pe,W.cell? ⟨3,0,none⟩=some (.iface te pe):=by
 obtain ⟨a, s, hv, _⟩ := laid_sentinel (g := 3) (ti := 163) (tp := 234) (te := 236) (ts := 9) (r := []) (nm := "*errors.errorString") (text := [118, 97, 108, 117, 101, 32, 111, 117, 116, 32, 111, 102, 32, 114, 97, 110, 103, 101])
  (gE "strconv.ErrRange" h (by kernel_rfl)) uE (by kernel_rfl) Tryz.underlying163 yW Tryz.underlying234 Tryz.underlying236 rfl rfl Tryz.underlying9 (by kernel_rfl) (by kernel_rfl)
 exact⟨_,_,by simpa using World.var?_cell uE hv 0⟩
theorem lC{W:World}(h:laidMetH Tryz.prog Hl W):HasG.G Tryz.prog (Cx0 W) W:=by
 obtain⟨te,pe,hc⟩:=j6 h
 refine⟨rfl,?_,mM h,te,pe,hc⟩
 show 4<=W.heap.size
 rcases Nat.lt_or_ge 3 W.heap.size with h'|h'
 ·omega
 ·simp[World.cell?,Array.getElem?_eq_none h'] at hc
theorem A3s:Tryz.prog.mayEnter=true:=by kernel_rfl
theorem A15:(false==Tryz.prog.liftsFinal)=true:=by kernel_rfl
theorem y8:Tryz.prog.stopsHeard=true:=by kernel_rfl
theorem Xy:(false==Tryz.prog.plainKeys)=true:=by kernel_rfl
theorem xV:true=Tryz.prog.looks []:=by kernel_rfl
theorem A13: Tryz.prog.mainIs = some (true, "80a834c457ab35883543603980dd7f217c45191a846bf96d7f461e86fb45756a".toList) := by kernel_rfl
theorem Cq{a b:Bool}(ha:a=true)(hb:b=true):(a&&b)=true:=by rw[ha,hb];rfl
end GP
