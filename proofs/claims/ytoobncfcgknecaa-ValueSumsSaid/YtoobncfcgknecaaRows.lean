/-
  NARROWER THAN 'FOR EVERY INPUT', by the rows' own cells (each row's printed sentence says how): ValueForms: loops · ValueIn: loops · ValueCompares: loops · ValueSums: loops · ValueBags: loops.
  DERIVED. THE GIVEN ROWS OF THIS SEAT. 6 by the template 'for every input the law returns true; each argument reads behind the call as it read before'; 0 by the template 'total and deterministic' (their statements: YtoobncfcgknecaaTotals.lean).
  GIVEN WITH THE SEED: the statements are not yours to turn. If you find one false, say at which input.
  Laid BY PROGRAM, IN A SANDBOX (cutbox-rows.mjs): the forced cells as the released guide's own fill.sh prints them over the translation 5b38c2c651276500… (all of the seat's roots in one cut). By AI agents, Wed Nov 11 2026. No macro, syntax, notation, axiom, sorry.
-/
import Derived.Test.YtoobncfcgknecaaChecked
import GoSem.Claim
import GoSem.ClaimJoined
import GoSem.ClaimMapViews
import Derived.JoinedTies
import Derived.KernelRfl
namespace Go.Proofs.Ytoobncfcgknecaa
/- THE CELL 'sum', in the pinned program and in every row, IS THE sha256 OF THE DUMP (.gsa) THAT YtoobncfcgknecaaProg.lean LOADS. Nothing in Lean hashes anything: it is a label: what it is worth is what the hold of that sum in a sandbox is worth. -/
noncomputable def Try.pinned : Pinned := { name := "ytoobncfcgknecaa", sum := "5b38c2c651276500d93db62cda91843e30bc51d34cc6f98f2552857d7e1ae8b3", checked := Try.checked }
namespace Rows
def none {H : Type} : Left H := { results := [], args := [] }

/-- 'gatepostlaw02.ValueForms': WHATEVER THE INPUT: true; the input reads as it did. -/
def valueFormsSpec : ChangeSpec := { name := "valueForms", fn := fun _ => fun
  | [d1, d2, d3] => { results := [.lit (.bool true)], args := [d1, d2, d3] }
  | _ => none }
def valueFormsRow : OpenClaim := { program := "ytoobncfcgknecaa", sum := "5b38c2c651276500d93db62cda91843e30bc51d34cc6f98f2552857d7e1ae8b3", func := "gatepost/gatepostlaw02.ValueForms", spec := "valueForms", inPlace := ["internal/bytealg.abigen_runtime_cmpstring"], unfollowed := true, recurses := true, loops := true, apart := false }
def ValueFormsSaid : Prop := valueFormsRow.holds Try.pinned (OpenSpec.ofChange valueFormsSpec)

/-- ITS FALSE NEIGHBOUR: 'it returns false'. Refute it at one input. -/
def valueFormsWrong : ChangeSpec := { name := "valueForms", fn := fun _ => fun
  | [d1, d2, d3] => { results := [.lit (.bool false)], args := [d1, d2, d3] }
  | _ => none }
def ValueFormsWrongFalsely : Prop := valueFormsRow.holds Try.pinned (OpenSpec.ofChange valueFormsWrong)

/-- 'gatepostlaw02.ValueMakes': WHATEVER THE INPUT: true; the input reads as it did. -/
def valueMakesSpec : ChangeSpec := { name := "valueMakes", fn := fun _ => fun
  | [d1, d2, d3] => { results := [.lit (.bool true)], args := [d1, d2, d3] }
  | _ => none }
def valueMakesRow : OpenClaim := { program := "ytoobncfcgknecaa", sum := "5b38c2c651276500d93db62cda91843e30bc51d34cc6f98f2552857d7e1ae8b3", func := "gatepost/gatepostlaw02.ValueMakes", spec := "valueMakes", inPlace := ["internal/bytealg.abigen_runtime_cmpstring"], unfollowed := true, recurses := true, apart := false }
def ValueMakesSaid : Prop := valueMakesRow.holds Try.pinned (OpenSpec.ofChange valueMakesSpec)

/-- ITS FALSE NEIGHBOUR: 'it returns false'. Refute it at one input. -/
def valueMakesWrong : ChangeSpec := { name := "valueMakes", fn := fun _ => fun
  | [d1, d2, d3] => { results := [.lit (.bool false)], args := [d1, d2, d3] }
  | _ => none }
def ValueMakesWrongFalsely : Prop := valueMakesRow.holds Try.pinned (OpenSpec.ofChange valueMakesWrong)

/-- 'gatepostlaw02.ValueIn': WHATEVER THE INPUT: true; the input reads as it did. -/
def valueInSpec : ChangeSpec := { name := "valueIn", fn := fun _ => fun
  | [d1, d2] => { results := [.lit (.bool true)], args := [d1, d2] }
  | _ => none }
def valueInRow : OpenClaim := { program := "ytoobncfcgknecaa", sum := "5b38c2c651276500d93db62cda91843e30bc51d34cc6f98f2552857d7e1ae8b3", func := "gatepost/gatepostlaw02.ValueIn", spec := "valueIn", inPlace := ["internal/bytealg.abigen_runtime_cmpstring"], unfollowed := true, recurses := true, loops := true, apart := false }
def ValueInSaid : Prop := valueInRow.holds Try.pinned (OpenSpec.ofChange valueInSpec)

/-- ITS FALSE NEIGHBOUR: 'it returns false'. Refute it at one input. -/
def valueInWrong : ChangeSpec := { name := "valueIn", fn := fun _ => fun
  | [d1, d2] => { results := [.lit (.bool false)], args := [d1, d2] }
  | _ => none }
def ValueInWrongFalsely : Prop := valueInRow.holds Try.pinned (OpenSpec.ofChange valueInWrong)

/-- 'gatepostlaw02.ValueCompares': WHATEVER THE INPUT: true; the input reads as it did. -/
def valueComparesSpec : ChangeSpec := { name := "valueCompares", fn := fun _ => fun
  | [d1, d2, d3] => { results := [.lit (.bool true)], args := [d1, d2, d3] }
  | _ => none }
def valueComparesRow : OpenClaim := { program := "ytoobncfcgknecaa", sum := "5b38c2c651276500d93db62cda91843e30bc51d34cc6f98f2552857d7e1ae8b3", func := "gatepost/gatepostlaw02.ValueCompares", spec := "valueCompares", inPlace := ["internal/bytealg.abigen_runtime_cmpstring"], unfollowed := true, recurses := true, loops := true, apart := false }
def ValueComparesSaid : Prop := valueComparesRow.holds Try.pinned (OpenSpec.ofChange valueComparesSpec)

/-- ITS FALSE NEIGHBOUR: 'it returns false'. Refute it at one input. -/
def valueComparesWrong : ChangeSpec := { name := "valueCompares", fn := fun _ => fun
  | [d1, d2, d3] => { results := [.lit (.bool false)], args := [d1, d2, d3] }
  | _ => none }
def ValueComparesWrongFalsely : Prop := valueComparesRow.holds Try.pinned (OpenSpec.ofChange valueComparesWrong)

/-- 'gatepostlaw02.ValueSums': WHATEVER THE INPUT: true; the input reads as it did. -/
def valueSumsSpec : ChangeSpec := { name := "valueSums", fn := fun _ => fun
  | [d1, d2] => { results := [.lit (.bool true)], args := [d1, d2] }
  | _ => none }
def valueSumsRow : OpenClaim := { program := "ytoobncfcgknecaa", sum := "5b38c2c651276500d93db62cda91843e30bc51d34cc6f98f2552857d7e1ae8b3", func := "gatepost/gatepostlaw02.ValueSums", spec := "valueSums", inPlace := ["internal/bytealg.abigen_runtime_cmpstring"], unfollowed := true, recurses := true, loops := true, apart := false }
def ValueSumsSaid : Prop := valueSumsRow.holds Try.pinned (OpenSpec.ofChange valueSumsSpec)

/-- ITS FALSE NEIGHBOUR: 'it returns false'. Refute it at one input. -/
def valueSumsWrong : ChangeSpec := { name := "valueSums", fn := fun _ => fun
  | [d1, d2] => { results := [.lit (.bool false)], args := [d1, d2] }
  | _ => none }
def ValueSumsWrongFalsely : Prop := valueSumsRow.holds Try.pinned (OpenSpec.ofChange valueSumsWrong)

/-- 'gatepostlaw02.ValueBags': WHATEVER THE INPUT: true; the input reads as it did. -/
def valueBagsSpec : ChangeSpec := { name := "valueBags", fn := fun _ => fun
  | [d] => { results := [.lit (.bool true)], args := [d] }
  | _ => none }
def valueBagsRow : OpenClaim := { program := "ytoobncfcgknecaa", sum := "5b38c2c651276500d93db62cda91843e30bc51d34cc6f98f2552857d7e1ae8b3", func := "gatepost/gatepostlaw02.ValueBags", spec := "valueBags", inPlace := ["internal/bytealg.abigen_runtime_cmpstring"], unfollowed := true, recurses := true, loops := true, apart := false }
def ValueBagsSaid : Prop := valueBagsRow.holds Try.pinned (OpenSpec.ofChange valueBagsSpec)

/-- ITS FALSE NEIGHBOUR: 'it returns false'. Refute it at one input. -/
def valueBagsWrong : ChangeSpec := { name := "valueBags", fn := fun _ => fun
  | [d] => { results := [.lit (.bool false)], args := [d] }
  | _ => none }
def ValueBagsWrongFalsely : Prop := valueBagsRow.holds Try.pinned (OpenSpec.ofChange valueBagsWrong)

/- THE SECOND FORM. 'bulk': how many values and letters a reading holds, each counted each time it is reached (what is shared counts as often as it is met; a slice's spare places count too). A statement '..UptoSaid' is the law's where the arguments, and the package variables that the reading takes, are together of bulk at most 1048576: NARROWER than '..Said'. Prove '..Said' where nothing that the law and all that it calls make is longer than what came in: it says more and counts as full. Else prove '..UptoSaid'. A law counts once. -/
mutual
def uptoBulk {H : Type} : DataW H → Nat
  | .lit (.string bytes) => bytes.length + 1
  | .lit _ => 1
  | .nil => 1
  | .ptr d => uptoBulk d + 1
  | .slice elems spare => uptoBulkAll elems + uptoBulkAll spare + 1
  | .agg parts => uptoBulkAll parts + 1
  | .iface _ d => uptoBulk d + 1
  | .map entries => uptoBulkEntries entries + 1
  | .held _ => 1
def uptoBulkAll {H : Type} : List (DataW H) → Nat
  | [] => 0
  | d :: r => uptoBulk d + uptoBulkAll r
def uptoBulkEntries {H : Type} : List (Lit × DataW H) → Nat
  | [] => 0
  | x :: r => uptoBulkEntry x + uptoBulkEntries r
def uptoBulkEntry {H : Type} : Lit × DataW H → Nat
  | (.string bytes, d) => bytes.length + uptoBulk d + 1
  | (_, d) => uptoBulk d + 1
 end
def uptoSmall : (H : Type) → List (DataW H) → Bool := fun _ ds => decide (uptoBulkAll ds ≤ 1048576)
def OpenSpec.upto (s : _root_.Go.ChangeSpec) : _root_.Go.OpenSpec := { _root_.Go.OpenSpec.ofChange s with cond := some uptoSmall }

/-- 'gatepostlaw02.ValueForms', WHERE WHAT IT READS IS OF BULK AT MOST 1048576: true; the input reads as it did. -/
def valueFormsUptoRow : OpenClaim := { program := "ytoobncfcgknecaa", sum := "5b38c2c651276500d93db62cda91843e30bc51d34cc6f98f2552857d7e1ae8b3", func := "gatepost/gatepostlaw02.ValueForms", spec := "valueForms", inPlace := ["internal/bytealg.abigen_runtime_cmpstring"], unfollowed := true, recurses := true, loops := true, apart := false, narrowed := true }
def ValueFormsUptoSaid : Prop := valueFormsUptoRow.holds Try.pinned (OpenSpec.upto valueFormsSpec)

/-- 'gatepostlaw02.ValueMakes', WHERE WHAT IT READS IS OF BULK AT MOST 1048576: true; the input reads as it did. -/
def valueMakesUptoRow : OpenClaim := { program := "ytoobncfcgknecaa", sum := "5b38c2c651276500d93db62cda91843e30bc51d34cc6f98f2552857d7e1ae8b3", func := "gatepost/gatepostlaw02.ValueMakes", spec := "valueMakes", inPlace := ["internal/bytealg.abigen_runtime_cmpstring"], unfollowed := true, recurses := true, apart := false, narrowed := true }
def ValueMakesUptoSaid : Prop := valueMakesUptoRow.holds Try.pinned (OpenSpec.upto valueMakesSpec)

/-- 'gatepostlaw02.ValueIn', WHERE WHAT IT READS IS OF BULK AT MOST 1048576: true; the input reads as it did. -/
def valueInUptoRow : OpenClaim := { program := "ytoobncfcgknecaa", sum := "5b38c2c651276500d93db62cda91843e30bc51d34cc6f98f2552857d7e1ae8b3", func := "gatepost/gatepostlaw02.ValueIn", spec := "valueIn", inPlace := ["internal/bytealg.abigen_runtime_cmpstring"], unfollowed := true, recurses := true, loops := true, apart := false, narrowed := true }
def ValueInUptoSaid : Prop := valueInUptoRow.holds Try.pinned (OpenSpec.upto valueInSpec)

/-- 'gatepostlaw02.ValueCompares', WHERE WHAT IT READS IS OF BULK AT MOST 1048576: true; the input reads as it did. -/
def valueComparesUptoRow : OpenClaim := { program := "ytoobncfcgknecaa", sum := "5b38c2c651276500d93db62cda91843e30bc51d34cc6f98f2552857d7e1ae8b3", func := "gatepost/gatepostlaw02.ValueCompares", spec := "valueCompares", inPlace := ["internal/bytealg.abigen_runtime_cmpstring"], unfollowed := true, recurses := true, loops := true, apart := false, narrowed := true }
def ValueComparesUptoSaid : Prop := valueComparesUptoRow.holds Try.pinned (OpenSpec.upto valueComparesSpec)

/-- 'gatepostlaw02.ValueSums', WHERE WHAT IT READS IS OF BULK AT MOST 1048576: true; the input reads as it did. -/
def valueSumsUptoRow : OpenClaim := { program := "ytoobncfcgknecaa", sum := "5b38c2c651276500d93db62cda91843e30bc51d34cc6f98f2552857d7e1ae8b3", func := "gatepost/gatepostlaw02.ValueSums", spec := "valueSums", inPlace := ["internal/bytealg.abigen_runtime_cmpstring"], unfollowed := true, recurses := true, loops := true, apart := false, narrowed := true }
def ValueSumsUptoSaid : Prop := valueSumsUptoRow.holds Try.pinned (OpenSpec.upto valueSumsSpec)

/-- 'gatepostlaw02.ValueBags', WHERE WHAT IT READS IS OF BULK AT MOST 1048576: true; the input reads as it did. -/
def valueBagsUptoRow : OpenClaim := { program := "ytoobncfcgknecaa", sum := "5b38c2c651276500d93db62cda91843e30bc51d34cc6f98f2552857d7e1ae8b3", func := "gatepost/gatepostlaw02.ValueBags", spec := "valueBags", inPlace := ["internal/bytealg.abigen_runtime_cmpstring"], unfollowed := true, recurses := true, loops := true, apart := false, narrowed := true }
def ValueBagsUptoSaid : Prop := valueBagsUptoRow.holds Try.pinned (OpenSpec.upto valueBagsSpec)

end Rows
end Go.Proofs.Ytoobncfcgknecaa
