import Derived.JoinedOf
import Derived.LaidHandle
import Derived.LaidSub
import Derived.Lay
import Derived.MakeChecks
import Derived.SevenTiedAt
import Derived.Stop.LaidErr
import Derived.Test.YtainhmbnbgonhaaGreatDoorCards
import Derived.Test.YtainhmbnbgonhaaGreatDoorTie
import Derived.Test.YtainhmbnbgonhaaGreatDoorM7
set_option linter.unusedSimpArgs false
set_option linter.unnecessarySimpa false
namespace GP
open Go Go.Proofs Go.Proofs.YtainhmbnbgonhaaGreatDoor
open Go.ChangeShapes Go.WideShapes Go.ChangeAt Go.RowKit
set_option maxRecDepth 100000
def vX : List (String × DataW Unit):=Rows.syntaxKeptRow.laid
theorem Ly : Tryz.prog.globalNamed "strconv.ErrRange" = some 3 := by kernel_rfl
theorem Zq : ownKnob Tryz.prog.godebug = none:=by kernel_rfl
theorem Pm : laidOutB Tryz.prog = true:=by kernel_rfl
theorem L8 : mapsRowed Tryz.prog = true:=by kernel_rfl
theorem Vg : ((List.range Tryz.prog.types.size).all fun t=>match Tryz.prog.underlying t with | some (.slice e)=>decide (0 < Tryz.prog.cellsOf e) | _=>true) = true:=by kernel_rfl
theorem yT (n : String) {W : World} {l : List (String × DataW Unit)} (h : laidMetH Tryz.prog vX W) (e : vX.filter (fun x=>x.1 == n) = l) : laidMet Tryz.prog l W:=by
 rw [MakeChecks.laidMetH_plain _ _ _ (by kernel_rfl)] at h
 rw [<- e]
 exact h.filter _
theorem FV {W : World} (h : laidMetH Tryz.prog vX W) : Lib.TabIs Tryz.prog W "internal/strconv.uint64pow10" .u64 Lib.pow10Tab :=
 Lib.tabIs_of_head (g:=1) (t:=225) (e:=202) (n:=20) (rest:=[]) VN (by kernel_rfl) Tryz.underlying225 Tryz.underlying202 (by kernel_rfl) (by kernel_rfl)
  (yT "internal/strconv.uint64pow10" h (by kernel_rfl))
theorem WW : "*" ++ "errors.errorString" = "*errors.errorString" := by decide
theorem Qd (u : TypeId) (h : Tryz.prog.typeName? 3 u = some "*errors.errorString") : u = 234 :=
 typeName_ptr_named (nm := "errors.errorString") (by rw [WW]; kernel_rfl) (by kernel_rfl) (by decide) u (by rw [WW]; exact h)
theorem C8 {W : World} (h : laidMetH Tryz.prog vX W) : ∃ te pe,W.cell? ⟨3,0,none⟩ = some (.iface te pe):=by
 obtain ⟨a, s, hv, _⟩ := laid_sentinel (g := 3) (ti := 163) (tp := 234) (te := 236) (ts := 9) (r := []) (nm := "*errors.errorString") (text := [118, 97, 108, 117, 101, 32, 111, 117, 116, 32, 111, 102, 32, 114, 97, 110, 103, 101])
  (yT "strconv.ErrRange" h (by kernel_rfl)) Ly (by kernel_rfl) Tryz.underlying163 Qd Tryz.underlying234 Tryz.underlying236 rfl rfl Tryz.underlying9 (by kernel_rfl) (by kernel_rfl)
 exact ⟨_,_,by simpa using World.var?_cell Ly hv 0⟩
theorem Dn {W : World} (h : laidMetH Tryz.prog vX W) : HasG.G Tryz.prog (Cx0 W) W:=by
 obtain ⟨te,pe,hc⟩:=C8 h
 refine ⟨rfl,?_,FV h,te,pe,hc⟩
 show 4 <= W.heap.size
 rcases Nat.lt_or_ge 3 W.heap.size with h' | h'
 ·omega
 ·simp [World.cell?,Array.getElem?_eq_none h'] at hc
theorem A1E : Tryz.prog.mayEnter = true:=by kernel_rfl
theorem Xs : (false == Tryz.prog.liftsFinal) = true:=by kernel_rfl
theorem QF : Tryz.prog.stopsHeard = true:=by kernel_rfl
theorem WP : (false == Tryz.prog.plainKeys) = true:=by kernel_rfl
theorem QB : true = Tryz.prog.looks []:=by kernel_rfl
theorem Sf : Tryz.prog.mainIs = some (true, "80a834c457ab35883543603980dd7f217c45191a846bf96d7f461e86fb45756a".toList) := by kernel_rfl
theorem iI {a b : Bool} (ha : a = true) (hb : b = true) : (a && b) = true:=by rw [ha,hb];rfl
end GP
