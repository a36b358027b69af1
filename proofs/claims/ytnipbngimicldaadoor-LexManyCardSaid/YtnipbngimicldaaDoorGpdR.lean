import Derived.Test.YtnipbngimicldaaDoorGpdX
import Derived.Test.YtnipbngimicldaaDoorTie
import Derived.Test.YtnipbngimicldaaDoorCards
import Derived.JoinedOf
import Derived.LaidSub
import Derived.LaidHandle
import Derived.Lay
import Derived.MakeChecks
import Derived.Stop.LaidErr
import Derived.SevenTiedAt
set_option linter.unusedSimpArgs false
/- What the rows of this seat ask of the package variables, and what it gives. -/
namespace GP
open Go Go.Proofs Go.Proofs.YtnipbngimicldaaDoor
open Go.ChangeShapes Go.WideShapes Go.ChangeAt Go.RowKit
set_option maxRecDepth 100000

/-- The rows' listed variables. -/
def laidD : List (String × DataW Unit) := Rows.lexTellsRow.laid
theorem gRange : Tryd.prog.globalNamed "strconv.ErrRange" = some 3 := by kernel_rfl
theorem own6 : ownKnob Tryd.prog.godebug = none := by kernel_rfl
theorem laid6 : laidOutB Tryd.prog = true := by kernel_rfl
theorem rowed6 : mapsRowed Tryd.prog = true := by kernel_rfl
theorem full6 : ((List.range Tryd.prog.types.size).all fun t => match Tryd.prog.underlying t with | some (.slice e) => decide (0 < Tryd.prog.cellsOf e) | _ => true) = true := by kernel_rfl
theorem laid_filter (n : String) {W : World} {l : List (String × DataW Unit)} (h : laidMetH Tryd.prog laidD W) (e : laidD.filter (fun x => x.1 == n) = l) : laidMet Tryd.prog l W := by
  rw [MakeChecks.laidMetH_plain _ _ _ (by kernel_rfl)] at h
  rw [← e]
  exact h.filter _
theorem pow_of_laid {W : World} (h : laidMetH Tryd.prog laidD W) : Lib.TabIs Tryd.prog W "internal/strconv.uint64pow10" .u64 Lib.pow10Tab :=
  Lib.tabIs_of_head (g := 0) (t := 88) (e := 77) (n := 20) (rest := []) gPow (by kernel_rfl) Tryd.underlying88 Tryd.underlying77 (by kernel_rfl) (by kernel_rfl)
    (laid_filter "internal/strconv.uint64pow10" h (by kernel_rfl))
theorem star : "*" ++ "errors.errorString" = "*errors.errorString" := by decide
theorem row110 (u : TypeId) (h : Tryd.prog.typeName? 3 u = some "*errors.errorString") : u = 110 :=
  typeName_ptr_named (nm := "errors.errorString") (by rw [star]; kernel_rfl) (by kernel_rfl) (by decide) u (by rw [star]; exact h)
theorem range_of_laid {W : World} (h : laidMetH Tryd.prog laidD W) : ∃ te pe, W.cell? ⟨3, 0, none⟩ = some (.iface te pe) := by
  obtain ⟨a, s, hv, _⟩ := laid_sentinel (g := 3) (ti := 71) (tp := 110) (te := 112) (ts := 9) (r := []) (nm := "*errors.errorString") (text := [118, 97, 108, 117, 101, 32, 111, 117, 116, 32, 111, 102, 32, 114, 97, 110, 103, 101])
    (laid_filter "strconv.ErrRange" h (by kernel_rfl)) gRange (by kernel_rfl) Tryd.underlying71 row110 Tryd.underlying110 Tryd.underlying112 rfl rfl Tryd.underlying9 (by kernel_rfl) (by kernel_rfl)
  exact ⟨_, _, by simpa using World.var?_cell gRange hv 0⟩
theorem vars_of_laid {W : World} (h : laidMetH Tryd.prog laidD W) : HasG.G Tryd.prog (Cx0 W) W := by
  obtain ⟨te, pe, hc⟩ := range_of_laid h
  refine ⟨?_, pow_of_laid h, te, pe, hc⟩
  show 4 ≤ W.heap.size
  rcases Nat.lt_or_ge 3 W.heap.size with h' | h'
  · omega
  · simp [World.cell?, Array.getElem?_eq_none h'] at hc
end GP
