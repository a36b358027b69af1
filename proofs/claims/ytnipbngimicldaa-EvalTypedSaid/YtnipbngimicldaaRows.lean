/-
  NARROWER THAN 'FOR EVERY INPUT', by the rows' own cells (each row's printed sentence says how): EvalTyped: loops · EvalMore: loops · EvalTells: loops · EvalLogic: loops.
  DERIVED. THE GIVEN ROWS OF THIS SEAT. 5 by the template 'for every input the law returns true; each argument reads behind the call as it read before'; 0 by the template 'total and deterministic' (their statements: YtnipbngimicldaaTotals.lean).
  GIVEN WITH THE SEED: the statements are not yours to turn. If you find one false, say at which input.
  Laid BY PROGRAM, IN A SANDBOX (cutbox-rows.mjs): the forced cells as the released guide's own fill.sh prints them over the translation 0884f89434a04382… (all of the seat's roots in one cut). By AI agents, Wed Nov 11 2026. No macro, syntax, notation, axiom, sorry.
-/
import Derived.Test.YtnipbngimicldaaChecked
import GoSem.Claim
import GoSem.ClaimJoined
import GoSem.ClaimMapViews
import Derived.JoinedTies
import Derived.KernelRfl
namespace Go.Proofs.Ytnipbngimicldaa
/- THE CELL 'sum', in the pinned program and in every row, IS THE sha256 OF THE DUMP (.gsa) THAT YtnipbngimicldaaProg.lean LOADS. Nothing in Lean hashes anything: it is a label: what it is worth is what the hold of that sum in a sandbox is worth. -/
noncomputable def Try.pinned : Pinned := { name := "ytnipbngimicldaa", sum := "0884f89434a04382e7507505e3130a4777c63071c4e755b4708ed67578a9c70c", checked := Try.checked }
namespace Rows
def none {H : Type} : Left H := { results := [], args := [] }

/-- 'gatepostlaw09.CheckUses': WHATEVER THE INPUT: true; the input reads as it did. -/
def checkUsesSpec : ChangeSpec := { name := "checkUses", fn := fun _ => fun
  | [d] => { results := [.lit (.bool true)], args := [d] }
  | _ => none }
def checkUsesRow : OpenClaim := { program := "ytnipbngimicldaa", sum := "0884f89434a04382e7507505e3130a4777c63071c4e755b4708ed67578a9c70c", func := "gatepost/gatepostlaw09.CheckUses", spec := "checkUses", inPlace := ["internal/bytealg.abigen_runtime_cmpstring"], unfollowed := true, recurses := true, apart := false }
def CheckUsesSaid : Prop := checkUsesRow.holds Try.pinned (OpenSpec.ofChange checkUsesSpec)

/-- ITS FALSE NEIGHBOUR: 'it returns false'. Refute it at one input. -/
def checkUsesWrong : ChangeSpec := { name := "checkUses", fn := fun _ => fun
  | [d] => { results := [.lit (.bool false)], args := [d] }
  | _ => none }
def CheckUsesWrongFalsely : Prop := checkUsesRow.holds Try.pinned (OpenSpec.ofChange checkUsesWrong)

/-- 'gatepostlaw11.EvalTyped': WHATEVER THE INPUT: true; the input reads as it did. -/
def evalTypedSpec : ChangeSpec := { name := "evalTyped", fn := fun _ => fun
  | [d1, d2, d3] => { results := [.lit (.bool true)], args := [d1, d2, d3] }
  | _ => none }
def evalTypedRow : OpenClaim := { program := "ytnipbngimicldaa", sum := "0884f89434a04382e7507505e3130a4777c63071c4e755b4708ed67578a9c70c", func := "gatepost/gatepostlaw11.EvalTyped", spec := "evalTyped", inPlace := ["internal/bytealg.abigen_runtime_cmpstring"], unfollowed := true, recurses := true, loops := true, apart := false }
def EvalTypedSaid : Prop := evalTypedRow.holds Try.pinned (OpenSpec.ofChange evalTypedSpec)

/-- ITS FALSE NEIGHBOUR: 'it returns false'. Refute it at one input. -/
def evalTypedWrong : ChangeSpec := { name := "evalTyped", fn := fun _ => fun
  | [d1, d2, d3] => { results := [.lit (.bool false)], args := [d1, d2, d3] }
  | _ => none }
def EvalTypedWrongFalsely : Prop := evalTypedRow.holds Try.pinned (OpenSpec.ofChange evalTypedWrong)

/-- 'gatepostlaw11.EvalMore': WHATEVER THE INPUT: true; the input reads as it did. -/
def evalMoreSpec : ChangeSpec := { name := "evalMore", fn := fun _ => fun
  | [d1, d2, d3] => { results := [.lit (.bool true)], args := [d1, d2, d3] }
  | _ => none }
def evalMoreRow : OpenClaim := { program := "ytnipbngimicldaa", sum := "0884f89434a04382e7507505e3130a4777c63071c4e755b4708ed67578a9c70c", func := "gatepost/gatepostlaw11.EvalMore", spec := "evalMore", inPlace := ["internal/bytealg.abigen_runtime_cmpstring"], unfollowed := true, recurses := true, loops := true, apart := false }
def EvalMoreSaid : Prop := evalMoreRow.holds Try.pinned (OpenSpec.ofChange evalMoreSpec)

/-- ITS FALSE NEIGHBOUR: 'it returns false'. Refute it at one input. -/
def evalMoreWrong : ChangeSpec := { name := "evalMore", fn := fun _ => fun
  | [d1, d2, d3] => { results := [.lit (.bool false)], args := [d1, d2, d3] }
  | _ => none }
def EvalMoreWrongFalsely : Prop := evalMoreRow.holds Try.pinned (OpenSpec.ofChange evalMoreWrong)

/-- 'gatepostlaw11.EvalTells': WHATEVER THE INPUT: true; the input reads as it did. -/
def evalTellsSpec : ChangeSpec := { name := "evalTells", fn := fun _ => fun
  | [d1, d2] => { results := [.lit (.bool true)], args := [d1, d2] }
  | _ => none }
def evalTellsRow : OpenClaim := { program := "ytnipbngimicldaa", sum := "0884f89434a04382e7507505e3130a4777c63071c4e755b4708ed67578a9c70c", func := "gatepost/gatepostlaw11.EvalTells", spec := "evalTells", inPlace := ["internal/bytealg.abigen_runtime_cmpstring"], unfollowed := true, recurses := true, loops := true, apart := false }
def EvalTellsSaid : Prop := evalTellsRow.holds Try.pinned (OpenSpec.ofChange evalTellsSpec)

/-- ITS FALSE NEIGHBOUR: 'it returns false'. Refute it at one input. -/
def evalTellsWrong : ChangeSpec := { name := "evalTells", fn := fun _ => fun
  | [d1, d2] => { results := [.lit (.bool false)], args := [d1, d2] }
  | _ => none }
def EvalTellsWrongFalsely : Prop := evalTellsRow.holds Try.pinned (OpenSpec.ofChange evalTellsWrong)

/-- 'gatepostlaw11.EvalLogic': WHATEVER THE INPUT: true; the input reads as it did. -/
def evalLogicSpec : ChangeSpec := { name := "evalLogic", fn := fun _ => fun
  | [d1, d2, d3] => { results := [.lit (.bool true)], args := [d1, d2, d3] }
  | _ => none }
def evalLogicRow : OpenClaim := { program := "ytnipbngimicldaa", sum := "0884f89434a04382e7507505e3130a4777c63071c4e755b4708ed67578a9c70c", func := "gatepost/gatepostlaw11.EvalLogic", spec := "evalLogic", inPlace := ["internal/bytealg.abigen_runtime_cmpstring"], unfollowed := true, recurses := true, loops := true, apart := false }
def EvalLogicSaid : Prop := evalLogicRow.holds Try.pinned (OpenSpec.ofChange evalLogicSpec)

/-- ITS FALSE NEIGHBOUR: 'it returns false'. Refute it at one input. -/
def evalLogicWrong : ChangeSpec := { name := "evalLogic", fn := fun _ => fun
  | [d1, d2, d3] => { results := [.lit (.bool false)], args := [d1, d2, d3] }
  | _ => none }
def EvalLogicWrongFalsely : Prop := evalLogicRow.holds Try.pinned (OpenSpec.ofChange evalLogicWrong)

/- THE SECOND FORM. 'bulk': how many values and letters a reading holds, each counted each time it is reached (what is shared counts as often as it is met; a slice's spare places count too). A statement '..UptoSaid' is the law's where the arguments, and the package variables that the reading takes, are together of bulk at most 1048576: NARROWER than '..Said'. Prove '..Said' where nothing that the law and all that it calls make is longer than what came in: it says more and counts as full. Else prove '..UptoSaid'. A law counts once. -/
mutual
def uptoBulk {H : Type} : DataW H → Nat
  | .lit (.string bytes) => bytes.length + 1
  | .lit _ => 1
  | .nil => 1
  | .ptr d => uptoBulk d + 1
  | .slice elems spare => uptoBulkAll elems + uptoBulkAll spare + 1
  | .agg parts => uptoBulkAll parts + 1
  | .iface _ d => uptoBulk d + 1
  | .map entries => uptoBulkEntries entries + 1
  | .held _ => 1
def uptoBulkAll {H : Type} : List (DataW H) → Nat
  | [] => 0
  | d :: r => uptoBulk d + uptoBulkAll r
def uptoBulkEntries {H : Type} : List (Lit × DataW H) → Nat
  | [] => 0
  | x :: r => uptoBulkEntry x + uptoBulkEntries r
def uptoBulkEntry {H : Type} : Lit × DataW H → Nat
  | (.string bytes, d) => bytes.length + uptoBulk d + 1
  | (_, d) => uptoBulk d + 1
 end
def uptoSmall : (H : Type) → List (DataW H) → Bool := fun _ ds => decide (uptoBulkAll ds ≤ 1048576)
def OpenSpec.upto (s : _root_.Go.ChangeSpec) : _root_.Go.OpenSpec := { _root_.Go.OpenSpec.ofChange s with cond := some uptoSmall }

/-- 'gatepostlaw09.CheckUses', WHERE WHAT IT READS IS OF BULK AT MOST 1048576: true; the input reads as it did. -/
def checkUsesUptoRow : OpenClaim := { program := "ytnipbngimicldaa", sum := "0884f89434a04382e7507505e3130a4777c63071c4e755b4708ed67578a9c70c", func := "gatepost/gatepostlaw09.CheckUses", spec := "checkUses", inPlace := ["internal/bytealg.abigen_runtime_cmpstring"], unfollowed := true, recurses := true, apart := false, narrowed := true }
def CheckUsesUptoSaid : Prop := checkUsesUptoRow.holds Try.pinned (OpenSpec.upto checkUsesSpec)

/-- 'gatepostlaw11.EvalTyped', WHERE WHAT IT READS IS OF BULK AT MOST 1048576: true; the input reads as it did. -/
def evalTypedUptoRow : OpenClaim := { program := "ytnipbngimicldaa", sum := "0884f89434a04382e7507505e3130a4777c63071c4e755b4708ed67578a9c70c", func := "gatepost/gatepostlaw11.EvalTyped", spec := "evalTyped", inPlace := ["internal/bytealg.abigen_runtime_cmpstring"], unfollowed := true, recurses := true, loops := true, apart := false, narrowed := true }
def EvalTypedUptoSaid : Prop := evalTypedUptoRow.holds Try.pinned (OpenSpec.upto evalTypedSpec)

/-- 'gatepostlaw11.EvalMore', WHERE WHAT IT READS IS OF BULK AT MOST 1048576: true; the input reads as it did. -/
def evalMoreUptoRow : OpenClaim := { program := "ytnipbngimicldaa", sum := "0884f89434a04382e7507505e3130a4777c63071c4e755b4708ed67578a9c70c", func := "gatepost/gatepostlaw11.EvalMore", spec := "evalMore", inPlace := ["internal/bytealg.abigen_runtime_cmpstring"], unfollowed := true, recurses := true, loops := true, apart := false, narrowed := true }
def EvalMoreUptoSaid : Prop := evalMoreUptoRow.holds Try.pinned (OpenSpec.upto evalMoreSpec)

/-- 'gatepostlaw11.EvalTells', WHERE WHAT IT READS IS OF BULK AT MOST 1048576: true; the input reads as it did. -/
def evalTellsUptoRow : OpenClaim := { program := "ytnipbngimicldaa", sum := "0884f89434a04382e7507505e3130a4777c63071c4e755b4708ed67578a9c70c", func := "gatepost/gatepostlaw11.EvalTells", spec := "evalTells", inPlace := ["internal/bytealg.abigen_runtime_cmpstring"], unfollowed := true, recurses := true, loops := true, apart := false, narrowed := true }
def EvalTellsUptoSaid : Prop := evalTellsUptoRow.holds Try.pinned (OpenSpec.upto evalTellsSpec)

/-- 'gatepostlaw11.EvalLogic', WHERE WHAT IT READS IS OF BULK AT MOST 1048576: true; the input reads as it did. -/
def evalLogicUptoRow : OpenClaim := { program := "ytnipbngimicldaa", sum := "0884f89434a04382e7507505e3130a4777c63071c4e755b4708ed67578a9c70c", func := "gatepost/gatepostlaw11.EvalLogic", spec := "evalLogic", inPlace := ["internal/bytealg.abigen_runtime_cmpstring"], unfollowed := true, recurses := true, loops := true, apart := false, narrowed := true }
def EvalLogicUptoSaid : Prop := evalLogicUptoRow.holds Try.pinned (OpenSpec.upto evalLogicSpec)

end Rows
end Go.Proofs.Ytnipbngimicldaa
