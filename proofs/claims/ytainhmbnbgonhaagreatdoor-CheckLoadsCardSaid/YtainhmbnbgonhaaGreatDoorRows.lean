/-
  NARROWER THAN 'FOR EVERY INPUT', by the rows' own cells (each row's printed sentence says how): SyntaxKept: laid · SyntaxReads: laid · SyntaxFirst: laid · SyntaxExprs: loops, laid · SyntaxDocs: loops, laid · SyntaxBent: loops, laid · PrintExprs: loops, laid · PrintDocs: loops, laid · PrintReads: laid · PrintBrackets: loops, laid · PrintBack: loops, laid · CheckTexts: laid · CheckLoads: loops, laid.
  DERIVED. THE GIVEN ROWS OF THIS SEAT. 13 by the template 'for every input the law returns true; each argument reads behind the call as it read before'; 0 by the template 'total and deterministic' (their statements: YtainhmbnbgonhaaGreatDoorTotals.lean).
  GIVEN WITH THE SEED: the statements are not yours to turn. If you find one false, say at which input.
  Laid BY PROGRAM, IN A SANDBOX (cutbox-rows.mjs): the forced cells as the released guide's own fill.sh prints them over the translation 1dec0e33f2b4e3e7… (all of the seat's roots in one cut). By AI agents, Wed Nov 11 2026. No macro, syntax, notation, axiom, sorry.
-/
import Derived.Test.YtainhmbnbgonhaaGreatDoorChecked
import GoSem.Claim
import GoSem.ClaimJoined
import GoSem.ClaimMapViews
import Derived.JoinedTies
import Derived.KernelRfl
namespace Go.Proofs.YtainhmbnbgonhaaGreatDoor
/- THE CELL 'sum', in the pinned program and in every row, IS THE sha256 OF THE DUMP (.gsa) THAT YtainhmbnbgonhaaGreatDoorProg.lean LOADS. Nothing in Lean hashes anything: it is a label: what it is worth is what the hold of that sum in a sandbox is worth. -/
noncomputable def Tryz.pinned : Pinned := { name := "ytainhmbnbgonhaagreatdoor", sum := "1dec0e33f2b4e3e714932c4dd59a4853feeb674ed15d895bd87ca56a51d28833", checked := Tryz.checked }
namespace Rows
def none {H : Type} : Left H := { results := [], args := [] }

/- WHAT THE LISTED PACKAGE-LEVEL VARIABLES READ AS WHEN THE CALL BEGINS. Each datum BY PROGRAM (the guide's laid-datum.mjs) off the statement by which the dump's own 'gosem.cut.vars' lays the variable. In a bare row this is a premise. The card (YtainhmbnbgonhaaGreatDoorCards.lean) ties it to the program's text. -/
def laid_math_bits_deBruijn32tab {H : Type} : DataW H := .agg [.lit (.int .u8 0), .lit (.int .u8 1), .lit (.int .u8 28), .lit (.int .u8 2), .lit (.int .u8 29), .lit (.int .u8 14), .lit (.int .u8 24), .lit (.int .u8 3), .lit (.int .u8 30), .lit (.int .u8 22), .lit (.int .u8 20), .lit (.int .u8 15), .lit (.int .u8 25), .lit (.int .u8 17), .lit (.int .u8 4), .lit (.int .u8 8), .lit (.int .u8 31), .lit (.int .u8 27), .lit (.int .u8 13), .lit (.int .u8 23), .lit (.int .u8 21), .lit (.int .u8 19), .lit (.int .u8 16), .lit (.int .u8 7), .lit (.int .u8 26), .lit (.int .u8 12), .lit (.int .u8 18), .lit (.int .u8 6), .lit (.int .u8 11), .lit (.int .u8 5), .lit (.int .u8 10), .lit (.int .u8 9)]
def laid_math_bits_deBruijn64tab {H : Type} : DataW H := .agg [.lit (.int .u8 0), .lit (.int .u8 1), .lit (.int .u8 56), .lit (.int .u8 2), .lit (.int .u8 57), .lit (.int .u8 49), .lit (.int .u8 28), .lit (.int .u8 3), .lit (.int .u8 61), .lit (.int .u8 58), .lit (.int .u8 42), .lit (.int .u8 50), .lit (.int .u8 38), .lit (.int .u8 29), .lit (.int .u8 17), .lit (.int .u8 4), .lit (.int .u8 62), .lit (.int .u8 47), .lit (.int .u8 59), .lit (.int .u8 36), .lit (.int .u8 45), .lit (.int .u8 43), .lit (.int .u8 51), .lit (.int .u8 22), .lit (.int .u8 53), .lit (.int .u8 39), .lit (.int .u8 33), .lit (.int .u8 30), .lit (.int .u8 24), .lit (.int .u8 18), .lit (.int .u8 12), .lit (.int .u8 5), .lit (.int .u8 63), .lit (.int .u8 55), .lit (.int .u8 48), .lit (.int .u8 27), .lit (.int .u8 60), .lit (.int .u8 41), .lit (.int .u8 37), .lit (.int .u8 16), .lit (.int .u8 46), .lit (.int .u8 35), .lit (.int .u8 44), .lit (.int .u8 21), .lit (.int .u8 52), .lit (.int .u8 32), .lit (.int .u8 23), .lit (.int .u8 11), .lit (.int .u8 54), .lit (.int .u8 26), .lit (.int .u8 40), .lit (.int .u8 15), .lit (.int .u8 34), .lit (.int .u8 20), .lit (.int .u8 31), .lit (.int .u8 10), .lit (.int .u8 25), .lit (.int .u8 14), .lit (.int .u8 19), .lit (.int .u8 9), .lit (.int .u8 13), .lit (.int .u8 8), .lit (.int .u8 7), .lit (.int .u8 6)]
def laid_internal_strconv_uint64pow10 {H : Type} : DataW H := .agg [.lit (.int .u64 1), .lit (.int .u64 10), .lit (.int .u64 100), .lit (.int .u64 1000), .lit (.int .u64 10000), .lit (.int .u64 100000), .lit (.int .u64 1000000), .lit (.int .u64 10000000), .lit (.int .u64 100000000), .lit (.int .u64 1000000000), .lit (.int .u64 10000000000), .lit (.int .u64 100000000000), .lit (.int .u64 1000000000000), .lit (.int .u64 10000000000000), .lit (.int .u64 100000000000000), .lit (.int .u64 1000000000000000), .lit (.int .u64 10000000000000000), .lit (.int .u64 100000000000000000), .lit (.int .u64 1000000000000000000), .lit (.int .u64 10000000000000000000)]
def laid_strconv_ErrRange {H : Type} : DataW H := .iface "*errors.errorString" (.ptr (.agg [.lit (.string [118, 97, 108, 117, 101, 32, 111, 117, 116, 32, 111, 102, 32, 114, 97, 110, 103, 101])]))
def laid_strconv_ErrSyntax {H : Type} : DataW H := .iface "*errors.errorString" (.ptr (.agg [.lit (.string [105, 110, 118, 97, 108, 105, 100, 32, 115, 121, 110, 116, 97, 120])]))

/-- 'gatepostlaw08.SyntaxKept': WHATEVER THE INPUT: true; the input reads as it did. -/
def syntaxKeptSpec : ChangeSpec := { name := "syntaxKept", fn := fun _ => fun
  | [d] => { results := [.lit (.bool true)], args := [d] }
  | _ => none }
def syntaxKeptRow : OpenClaim := { program := "ytainhmbnbgonhaagreatdoor", sum := "1dec0e33f2b4e3e714932c4dd59a4853feeb674ed15d895bd87ca56a51d28833", func := "gatepost/gatepostlaw08.SyntaxKept", spec := "syntaxKept", inPlace := ["internal/bytealg.abigen_runtime_cmpstring"], unfollowed := true, recurses := true, named := ["strconv.ErrSyntax", "strconv.ErrRange", "internal/strconv.uint64pow10", "math/bits.deBruijn32tab", "math/bits.deBruijn64tab"], plainKeys := false, apart := false, laid := [("math/bits.deBruijn32tab", laid_math_bits_deBruijn32tab), ("math/bits.deBruijn64tab", laid_math_bits_deBruijn64tab), ("internal/strconv.uint64pow10", laid_internal_strconv_uint64pow10), ("strconv.ErrRange", laid_strconv_ErrRange), ("strconv.ErrSyntax", laid_strconv_ErrSyntax)] }
def SyntaxKeptSaid : Prop := syntaxKeptRow.holds Tryz.pinned (OpenSpec.ofChange syntaxKeptSpec)

/-- ITS FALSE NEIGHBOUR: 'it returns false'. Refute it at one input. -/
def syntaxKeptWrong : ChangeSpec := { name := "syntaxKept", fn := fun _ => fun
  | [d] => { results := [.lit (.bool false)], args := [d] }
  | _ => none }
def SyntaxKeptWrongFalsely : Prop := syntaxKeptRow.holds Tryz.pinned (OpenSpec.ofChange syntaxKeptWrong)

/-- 'gatepostlaw08.SyntaxReads': WHATEVER THE INPUT: true; the input reads as it did. -/
def syntaxReadsSpec : ChangeSpec := { name := "syntaxReads", fn := fun _ => fun
  | [d] => { results := [.lit (.bool true)], args := [d] }
  | _ => none }
def syntaxReadsRow : OpenClaim := { program := "ytainhmbnbgonhaagreatdoor", sum := "1dec0e33f2b4e3e714932c4dd59a4853feeb674ed15d895bd87ca56a51d28833", func := "gatepost/gatepostlaw08.SyntaxReads", spec := "syntaxReads", inPlace := ["internal/bytealg.abigen_runtime_cmpstring"], unfollowed := true, recurses := true, named := ["strconv.ErrSyntax", "strconv.ErrRange", "internal/strconv.uint64pow10", "math/bits.deBruijn32tab", "math/bits.deBruijn64tab"], plainKeys := false, apart := false, laid := [("math/bits.deBruijn32tab", laid_math_bits_deBruijn32tab), ("math/bits.deBruijn64tab", laid_math_bits_deBruijn64tab), ("internal/strconv.uint64pow10", laid_internal_strconv_uint64pow10), ("strconv.ErrRange", laid_strconv_ErrRange), ("strconv.ErrSyntax", laid_strconv_ErrSyntax)] }
def SyntaxReadsSaid : Prop := syntaxReadsRow.holds Tryz.pinned (OpenSpec.ofChange syntaxReadsSpec)

/-- ITS FALSE NEIGHBOUR: 'it returns false'. Refute it at one input. -/
def syntaxReadsWrong : ChangeSpec := { name := "syntaxReads", fn := fun _ => fun
  | [d] => { results := [.lit (.bool false)], args := [d] }
  | _ => none }
def SyntaxReadsWrongFalsely : Prop := syntaxReadsRow.holds Tryz.pinned (OpenSpec.ofChange syntaxReadsWrong)

/-- 'gatepostlaw08.SyntaxFirst': WHATEVER THE INPUT: true; the input reads as it did. -/
def syntaxFirstSpec : ChangeSpec := { name := "syntaxFirst", fn := fun _ => fun
  | [d] => { results := [.lit (.bool true)], args := [d] }
  | _ => none }
def syntaxFirstRow : OpenClaim := { program := "ytainhmbnbgonhaagreatdoor", sum := "1dec0e33f2b4e3e714932c4dd59a4853feeb674ed15d895bd87ca56a51d28833", func := "gatepost/gatepostlaw08.SyntaxFirst", spec := "syntaxFirst", inPlace := ["internal/bytealg.abigen_runtime_cmpstring"], unfollowed := true, recurses := true, named := ["strconv.ErrSyntax", "strconv.ErrRange", "internal/strconv.uint64pow10", "math/bits.deBruijn32tab", "math/bits.deBruijn64tab"], plainKeys := false, apart := false, laid := [("math/bits.deBruijn32tab", laid_math_bits_deBruijn32tab), ("math/bits.deBruijn64tab", laid_math_bits_deBruijn64tab), ("internal/strconv.uint64pow10", laid_internal_strconv_uint64pow10), ("strconv.ErrRange", laid_strconv_ErrRange), ("strconv.ErrSyntax", laid_strconv_ErrSyntax)] }
def SyntaxFirstSaid : Prop := syntaxFirstRow.holds Tryz.pinned (OpenSpec.ofChange syntaxFirstSpec)

/-- ITS FALSE NEIGHBOUR: 'it returns false'. Refute it at one input. -/
def syntaxFirstWrong : ChangeSpec := { name := "syntaxFirst", fn := fun _ => fun
  | [d] => { results := [.lit (.bool false)], args := [d] }
  | _ => none }
def SyntaxFirstWrongFalsely : Prop := syntaxFirstRow.holds Tryz.pinned (OpenSpec.ofChange syntaxFirstWrong)

/-- 'gatepostlaw08.SyntaxExprs': WHATEVER THE INPUT: true; the input reads as it did. -/
def syntaxExprsSpec : ChangeSpec := { name := "syntaxExprs", fn := fun _ => fun
  | [d1, d2] => { results := [.lit (.bool true)], args := [d1, d2] }
  | _ => none }
def syntaxExprsRow : OpenClaim := { program := "ytainhmbnbgonhaagreatdoor", sum := "1dec0e33f2b4e3e714932c4dd59a4853feeb674ed15d895bd87ca56a51d28833", func := "gatepost/gatepostlaw08.SyntaxExprs", spec := "syntaxExprs", inPlace := ["internal/bytealg.abigen_runtime_cmpstring"], unfollowed := true, recurses := true, named := ["strconv.ErrSyntax", "strconv.ErrRange", "internal/strconv.uint64pow10", "math/bits.deBruijn32tab", "math/bits.deBruijn64tab"], loops := true, plainKeys := false, apart := false, laid := [("math/bits.deBruijn32tab", laid_math_bits_deBruijn32tab), ("math/bits.deBruijn64tab", laid_math_bits_deBruijn64tab), ("internal/strconv.uint64pow10", laid_internal_strconv_uint64pow10), ("strconv.ErrRange", laid_strconv_ErrRange), ("strconv.ErrSyntax", laid_strconv_ErrSyntax)] }
def SyntaxExprsSaid : Prop := syntaxExprsRow.holds Tryz.pinned (OpenSpec.ofChange syntaxExprsSpec)

/-- ITS FALSE NEIGHBOUR: 'it returns false'. Refute it at one input. -/
def syntaxExprsWrong : ChangeSpec := { name := "syntaxExprs", fn := fun _ => fun
  | [d1, d2] => { results := [.lit (.bool false)], args := [d1, d2] }
  | _ => none }
def SyntaxExprsWrongFalsely : Prop := syntaxExprsRow.holds Tryz.pinned (OpenSpec.ofChange syntaxExprsWrong)

/-- 'gatepostlaw08.SyntaxDocs': WHATEVER THE INPUT: true; the input reads as it did. -/
def syntaxDocsSpec : ChangeSpec := { name := "syntaxDocs", fn := fun _ => fun
  | [d1, d2] => { results := [.lit (.bool true)], args := [d1, d2] }
  | _ => none }
def syntaxDocsRow : OpenClaim := { program := "ytainhmbnbgonhaagreatdoor", sum := "1dec0e33f2b4e3e714932c4dd59a4853feeb674ed15d895bd87ca56a51d28833", func := "gatepost/gatepostlaw08.SyntaxDocs", spec := "syntaxDocs", inPlace := ["internal/bytealg.abigen_runtime_cmpstring"], unfollowed := true, recurses := true, named := ["strconv.ErrSyntax", "strconv.ErrRange", "internal/strconv.uint64pow10", "math/bits.deBruijn32tab", "math/bits.deBruijn64tab"], loops := true, plainKeys := false, apart := false, laid := [("math/bits.deBruijn32tab", laid_math_bits_deBruijn32tab), ("math/bits.deBruijn64tab", laid_math_bits_deBruijn64tab), ("internal/strconv.uint64pow10", laid_internal_strconv_uint64pow10), ("strconv.ErrRange", laid_strconv_ErrRange), ("strconv.ErrSyntax", laid_strconv_ErrSyntax)] }
def SyntaxDocsSaid : Prop := syntaxDocsRow.holds Tryz.pinned (OpenSpec.ofChange syntaxDocsSpec)

/-- ITS FALSE NEIGHBOUR: 'it returns false'. Refute it at one input. -/
def syntaxDocsWrong : ChangeSpec := { name := "syntaxDocs", fn := fun _ => fun
  | [d1, d2] => { results := [.lit (.bool false)], args := [d1, d2] }
  | _ => none }
def SyntaxDocsWrongFalsely : Prop := syntaxDocsRow.holds Tryz.pinned (OpenSpec.ofChange syntaxDocsWrong)

/-- 'gatepostlaw08.SyntaxBent': WHATEVER THE INPUT: true; the input reads as it did. -/
def syntaxBentSpec : ChangeSpec := { name := "syntaxBent", fn := fun _ => fun
  | [d1, d2, d3] => { results := [.lit (.bool true)], args := [d1, d2, d3] }
  | _ => none }
def syntaxBentRow : OpenClaim := { program := "ytainhmbnbgonhaagreatdoor", sum := "1dec0e33f2b4e3e714932c4dd59a4853feeb674ed15d895bd87ca56a51d28833", func := "gatepost/gatepostlaw08.SyntaxBent", spec := "syntaxBent", inPlace := ["internal/bytealg.abigen_runtime_cmpstring"], unfollowed := true, recurses := true, named := ["strconv.ErrSyntax", "strconv.ErrRange", "internal/strconv.uint64pow10", "math/bits.deBruijn32tab", "math/bits.deBruijn64tab"], loops := true, plainKeys := false, apart := false, laid := [("math/bits.deBruijn32tab", laid_math_bits_deBruijn32tab), ("math/bits.deBruijn64tab", laid_math_bits_deBruijn64tab), ("internal/strconv.uint64pow10", laid_internal_strconv_uint64pow10), ("strconv.ErrRange", laid_strconv_ErrRange), ("strconv.ErrSyntax", laid_strconv_ErrSyntax)] }
def SyntaxBentSaid : Prop := syntaxBentRow.holds Tryz.pinned (OpenSpec.ofChange syntaxBentSpec)

/-- ITS FALSE NEIGHBOUR: 'it returns false'. Refute it at one input. -/
def syntaxBentWrong : ChangeSpec := { name := "syntaxBent", fn := fun _ => fun
  | [d1, d2, d3] => { results := [.lit (.bool false)], args := [d1, d2, d3] }
  | _ => none }
def SyntaxBentWrongFalsely : Prop := syntaxBentRow.holds Tryz.pinned (OpenSpec.ofChange syntaxBentWrong)

/-- 'gatepostlaw10.PrintExprs': WHATEVER THE INPUT: true; the input reads as it did. -/
def printExprsSpec : ChangeSpec := { name := "printExprs", fn := fun _ => fun
  | [d] => { results := [.lit (.bool true)], args := [d] }
  | _ => none }
def printExprsRow : OpenClaim := { program := "ytainhmbnbgonhaagreatdoor", sum := "1dec0e33f2b4e3e714932c4dd59a4853feeb674ed15d895bd87ca56a51d28833", func := "gatepost/gatepostlaw10.PrintExprs", spec := "printExprs", inPlace := ["internal/bytealg.abigen_runtime_cmpstring", "internal/abi.NoEscape", "internal/bytealg.MakeNoZero"], unfollowed := true, recurses := true, named := ["internal/strconv.uint64pow10", "math/bits.deBruijn32tab", "math/bits.deBruijn64tab"], loops := true, plainKeys := false, apart := false, laid := [("math/bits.deBruijn32tab", laid_math_bits_deBruijn32tab), ("math/bits.deBruijn64tab", laid_math_bits_deBruijn64tab), ("internal/strconv.uint64pow10", laid_internal_strconv_uint64pow10)] }
def PrintExprsSaid : Prop := printExprsRow.holds Tryz.pinned (OpenSpec.ofChange printExprsSpec)

/-- ITS FALSE NEIGHBOUR: 'it returns false'. Refute it at one input. -/
def printExprsWrong : ChangeSpec := { name := "printExprs", fn := fun _ => fun
  | [d] => { results := [.lit (.bool false)], args := [d] }
  | _ => none }
def PrintExprsWrongFalsely : Prop := printExprsRow.holds Tryz.pinned (OpenSpec.ofChange printExprsWrong)

/-- 'gatepostlaw10.PrintDocs': WHATEVER THE INPUT: true; the input reads as it did. -/
def printDocsSpec : ChangeSpec := { name := "printDocs", fn := fun _ => fun
  | [d] => { results := [.lit (.bool true)], args := [d] }
  | _ => none }
def printDocsRow : OpenClaim := { program := "ytainhmbnbgonhaagreatdoor", sum := "1dec0e33f2b4e3e714932c4dd59a4853feeb674ed15d895bd87ca56a51d28833", func := "gatepost/gatepostlaw10.PrintDocs", spec := "printDocs", inPlace := ["internal/bytealg.abigen_runtime_cmpstring", "internal/abi.NoEscape", "internal/bytealg.MakeNoZero"], unfollowed := true, recurses := true, named := ["internal/strconv.uint64pow10", "math/bits.deBruijn32tab", "math/bits.deBruijn64tab"], loops := true, plainKeys := false, apart := false, laid := [("math/bits.deBruijn32tab", laid_math_bits_deBruijn32tab), ("math/bits.deBruijn64tab", laid_math_bits_deBruijn64tab), ("internal/strconv.uint64pow10", laid_internal_strconv_uint64pow10)] }
def PrintDocsSaid : Prop := printDocsRow.holds Tryz.pinned (OpenSpec.ofChange printDocsSpec)

/-- ITS FALSE NEIGHBOUR: 'it returns false'. Refute it at one input. -/
def printDocsWrong : ChangeSpec := { name := "printDocs", fn := fun _ => fun
  | [d] => { results := [.lit (.bool false)], args := [d] }
  | _ => none }
def PrintDocsWrongFalsely : Prop := printDocsRow.holds Tryz.pinned (OpenSpec.ofChange printDocsWrong)

/-- 'gatepostlaw10.PrintReads': WHATEVER THE INPUT: true; the input reads as it did. -/
def printReadsSpec : ChangeSpec := { name := "printReads", fn := fun _ => fun
  | [d] => { results := [.lit (.bool true)], args := [d] }
  | _ => none }
def printReadsRow : OpenClaim := { program := "ytainhmbnbgonhaagreatdoor", sum := "1dec0e33f2b4e3e714932c4dd59a4853feeb674ed15d895bd87ca56a51d28833", func := "gatepost/gatepostlaw10.PrintReads", spec := "printReads", inPlace := ["internal/bytealg.abigen_runtime_cmpstring", "internal/abi.NoEscape", "internal/bytealg.MakeNoZero"], unfollowed := true, recurses := true, named := ["internal/strconv.uint64pow10", "math/bits.deBruijn32tab", "math/bits.deBruijn64tab"], plainKeys := false, apart := false, laid := [("math/bits.deBruijn32tab", laid_math_bits_deBruijn32tab), ("math/bits.deBruijn64tab", laid_math_bits_deBruijn64tab), ("internal/strconv.uint64pow10", laid_internal_strconv_uint64pow10)] }
def PrintReadsSaid : Prop := printReadsRow.holds Tryz.pinned (OpenSpec.ofChange printReadsSpec)

/-- ITS FALSE NEIGHBOUR: 'it returns false'. Refute it at one input. -/
def printReadsWrong : ChangeSpec := { name := "printReads", fn := fun _ => fun
  | [d] => { results := [.lit (.bool false)], args := [d] }
  | _ => none }
def PrintReadsWrongFalsely : Prop := printReadsRow.holds Tryz.pinned (OpenSpec.ofChange printReadsWrong)

/-- 'gatepostlaw10.PrintBrackets': WHATEVER THE INPUT: true; the input reads as it did. -/
def printBracketsSpec : ChangeSpec := { name := "printBrackets", fn := fun _ => fun
  | [d1, d2] => { results := [.lit (.bool true)], args := [d1, d2] }
  | _ => none }
def printBracketsRow : OpenClaim := { program := "ytainhmbnbgonhaagreatdoor", sum := "1dec0e33f2b4e3e714932c4dd59a4853feeb674ed15d895bd87ca56a51d28833", func := "gatepost/gatepostlaw10.PrintBrackets", spec := "printBrackets", inPlace := ["internal/bytealg.abigen_runtime_cmpstring", "internal/abi.NoEscape", "internal/bytealg.MakeNoZero"], unfollowed := true, recurses := true, named := ["internal/strconv.uint64pow10", "math/bits.deBruijn32tab", "math/bits.deBruijn64tab"], loops := true, plainKeys := false, apart := false, laid := [("math/bits.deBruijn32tab", laid_math_bits_deBruijn32tab), ("math/bits.deBruijn64tab", laid_math_bits_deBruijn64tab), ("internal/strconv.uint64pow10", laid_internal_strconv_uint64pow10)] }
def PrintBracketsSaid : Prop := printBracketsRow.holds Tryz.pinned (OpenSpec.ofChange printBracketsSpec)

/-- ITS FALSE NEIGHBOUR: 'it returns false'. Refute it at one input. -/
def printBracketsWrong : ChangeSpec := { name := "printBrackets", fn := fun _ => fun
  | [d1, d2] => { results := [.lit (.bool false)], args := [d1, d2] }
  | _ => none }
def PrintBracketsWrongFalsely : Prop := printBracketsRow.holds Tryz.pinned (OpenSpec.ofChange printBracketsWrong)

/-- 'gatepostlaw10.PrintBack': WHATEVER THE INPUT: true; the input reads as it did. -/
def printBackSpec : ChangeSpec := { name := "printBack", fn := fun _ => fun
  | [d] => { results := [.lit (.bool true)], args := [d] }
  | _ => none }
def printBackRow : OpenClaim := { program := "ytainhmbnbgonhaagreatdoor", sum := "1dec0e33f2b4e3e714932c4dd59a4853feeb674ed15d895bd87ca56a51d28833", func := "gatepost/gatepostlaw10.PrintBack", spec := "printBack", inPlace := ["internal/bytealg.abigen_runtime_cmpstring", "internal/abi.NoEscape", "internal/bytealg.MakeNoZero"], unfollowed := true, recurses := true, named := ["internal/strconv.uint64pow10", "math/bits.deBruijn32tab", "math/bits.deBruijn64tab", "strconv.ErrSyntax", "strconv.ErrRange"], loops := true, plainKeys := false, apart := false, laid := [("math/bits.deBruijn32tab", laid_math_bits_deBruijn32tab), ("math/bits.deBruijn64tab", laid_math_bits_deBruijn64tab), ("internal/strconv.uint64pow10", laid_internal_strconv_uint64pow10), ("strconv.ErrRange", laid_strconv_ErrRange), ("strconv.ErrSyntax", laid_strconv_ErrSyntax)] }
def PrintBackSaid : Prop := printBackRow.holds Tryz.pinned (OpenSpec.ofChange printBackSpec)

/-- ITS FALSE NEIGHBOUR: 'it returns false'. Refute it at one input. -/
def printBackWrong : ChangeSpec := { name := "printBack", fn := fun _ => fun
  | [d] => { results := [.lit (.bool false)], args := [d] }
  | _ => none }
def PrintBackWrongFalsely : Prop := printBackRow.holds Tryz.pinned (OpenSpec.ofChange printBackWrong)

/-- 'gatepostlaw09.CheckTexts': WHATEVER THE INPUT: true; the input reads as it did. -/
def checkTextsSpec : ChangeSpec := { name := "checkTexts", fn := fun _ => fun
  | [d] => { results := [.lit (.bool true)], args := [d] }
  | _ => none }
def checkTextsRow : OpenClaim := { program := "ytainhmbnbgonhaagreatdoor", sum := "1dec0e33f2b4e3e714932c4dd59a4853feeb674ed15d895bd87ca56a51d28833", func := "gatepost/gatepostlaw09.CheckTexts", spec := "checkTexts", inPlace := ["internal/bytealg.abigen_runtime_cmpstring"], unfollowed := true, recurses := true, named := ["strconv.ErrSyntax", "strconv.ErrRange", "internal/strconv.uint64pow10", "math/bits.deBruijn32tab", "math/bits.deBruijn64tab"], plainKeys := false, apart := false, laid := [("math/bits.deBruijn32tab", laid_math_bits_deBruijn32tab), ("math/bits.deBruijn64tab", laid_math_bits_deBruijn64tab), ("internal/strconv.uint64pow10", laid_internal_strconv_uint64pow10), ("strconv.ErrRange", laid_strconv_ErrRange), ("strconv.ErrSyntax", laid_strconv_ErrSyntax)] }
def CheckTextsSaid : Prop := checkTextsRow.holds Tryz.pinned (OpenSpec.ofChange checkTextsSpec)

/-- ITS FALSE NEIGHBOUR: 'it returns false'. Refute it at one input. -/
def checkTextsWrong : ChangeSpec := { name := "checkTexts", fn := fun _ => fun
  | [d] => { results := [.lit (.bool false)], args := [d] }
  | _ => none }
def CheckTextsWrongFalsely : Prop := checkTextsRow.holds Tryz.pinned (OpenSpec.ofChange checkTextsWrong)

/-- 'gatepostlaw09.CheckLoads': WHATEVER THE INPUT: true; the input reads as it did. -/
def checkLoadsSpec : ChangeSpec := { name := "checkLoads", fn := fun _ => fun
  | [d1, d2] => { results := [.lit (.bool true)], args := [d1, d2] }
  | _ => none }
def checkLoadsRow : OpenClaim := { program := "ytainhmbnbgonhaagreatdoor", sum := "1dec0e33f2b4e3e714932c4dd59a4853feeb674ed15d895bd87ca56a51d28833", func := "gatepost/gatepostlaw09.CheckLoads", spec := "checkLoads", inPlace := ["internal/bytealg.abigen_runtime_cmpstring", "internal/abi.NoEscape", "internal/bytealg.MakeNoZero"], unfollowed := true, recurses := true, named := ["internal/strconv.uint64pow10", "math/bits.deBruijn32tab", "math/bits.deBruijn64tab", "strconv.ErrSyntax", "strconv.ErrRange"], loops := true, plainKeys := false, apart := false, laid := [("math/bits.deBruijn32tab", laid_math_bits_deBruijn32tab), ("math/bits.deBruijn64tab", laid_math_bits_deBruijn64tab), ("internal/strconv.uint64pow10", laid_internal_strconv_uint64pow10), ("strconv.ErrRange", laid_strconv_ErrRange), ("strconv.ErrSyntax", laid_strconv_ErrSyntax)] }
def CheckLoadsSaid : Prop := checkLoadsRow.holds Tryz.pinned (OpenSpec.ofChange checkLoadsSpec)

/-- ITS FALSE NEIGHBOUR: 'it returns false'. Refute it at one input. -/
def checkLoadsWrong : ChangeSpec := { name := "checkLoads", fn := fun _ => fun
  | [d1, d2] => { results := [.lit (.bool false)], args := [d1, d2] }
  | _ => none }
def CheckLoadsWrongFalsely : Prop := checkLoadsRow.holds Tryz.pinned (OpenSpec.ofChange checkLoadsWrong)

/- THE SECOND FORM. 'bulk': how many values and letters a reading holds, each counted each time it is reached (what is shared counts as often as it is met; a slice's spare places count too). A statement '..UptoSaid' is the law's where the arguments, and the package variables that the reading takes, are together of bulk at most 1048576: NARROWER than '..Said'. Prove '..Said' where nothing that the law and all that it calls make is longer than what came in: it says more and counts as full. Else prove '..UptoSaid'. A law counts once. -/
mutual
def uptoBulk {H : Type} : DataW H → Nat
  | .lit (.string bytes) => bytes.length + 1
  | .lit _ => 1
  | .nil => 1
  | .ptr d => uptoBulk d + 1
  | .slice elems spare => uptoBulkAll elems + uptoBulkAll spare + 1
  | .agg parts => uptoBulkAll parts + 1
  | .iface _ d => uptoBulk d + 1
  | .map entries => uptoBulkEntries entries + 1
  | .held _ => 1
def uptoBulkAll {H : Type} : List (DataW H) → Nat
  | [] => 0
  | d :: r => uptoBulk d + uptoBulkAll r
def uptoBulkEntries {H : Type} : List (Lit × DataW H) → Nat
  | [] => 0
  | x :: r => uptoBulkEntry x + uptoBulkEntries r
def uptoBulkEntry {H : Type} : Lit × DataW H → Nat
  | (.string bytes, d) => bytes.length + uptoBulk d + 1
  | (_, d) => uptoBulk d + 1
 end
def uptoSmall : (H : Type) → List (DataW H) → Bool := fun _ ds => decide (uptoBulkAll ds ≤ 1048576)
def OpenSpec.upto (s : _root_.Go.ChangeSpec) : _root_.Go.OpenSpec := { _root_.Go.OpenSpec.ofChange s with cond := some uptoSmall }

/-- 'gatepostlaw08.SyntaxKept', WHERE WHAT IT READS IS OF BULK AT MOST 1048576: true; the input reads as it did. -/
def syntaxKeptUptoRow : OpenClaim := { program := "ytainhmbnbgonhaagreatdoor", sum := "1dec0e33f2b4e3e714932c4dd59a4853feeb674ed15d895bd87ca56a51d28833", func := "gatepost/gatepostlaw08.SyntaxKept", spec := "syntaxKept", inPlace := ["internal/bytealg.abigen_runtime_cmpstring"], unfollowed := true, recurses := true, named := ["strconv.ErrSyntax", "strconv.ErrRange", "internal/strconv.uint64pow10", "math/bits.deBruijn32tab", "math/bits.deBruijn64tab"], plainKeys := false, apart := false, laid := [("math/bits.deBruijn32tab", laid_math_bits_deBruijn32tab), ("math/bits.deBruijn64tab", laid_math_bits_deBruijn64tab), ("internal/strconv.uint64pow10", laid_internal_strconv_uint64pow10), ("strconv.ErrRange", laid_strconv_ErrRange), ("strconv.ErrSyntax", laid_strconv_ErrSyntax)], narrowed := true }
def SyntaxKeptUptoSaid : Prop := syntaxKeptUptoRow.holds Tryz.pinned (OpenSpec.upto syntaxKeptSpec)

/-- 'gatepostlaw08.SyntaxReads', WHERE WHAT IT READS IS OF BULK AT MOST 1048576: true; the input reads as it did. -/
def syntaxReadsUptoRow : OpenClaim := { program := "ytainhmbnbgonhaagreatdoor", sum := "1dec0e33f2b4e3e714932c4dd59a4853feeb674ed15d895bd87ca56a51d28833", func := "gatepost/gatepostlaw08.SyntaxReads", spec := "syntaxReads", inPlace := ["internal/bytealg.abigen_runtime_cmpstring"], unfollowed := true, recurses := true, named := ["strconv.ErrSyntax", "strconv.ErrRange", "internal/strconv.uint64pow10", "math/bits.deBruijn32tab", "math/bits.deBruijn64tab"], plainKeys := false, apart := false, laid := [("math/bits.deBruijn32tab", laid_math_bits_deBruijn32tab), ("math/bits.deBruijn64tab", laid_math_bits_deBruijn64tab), ("internal/strconv.uint64pow10", laid_internal_strconv_uint64pow10), ("strconv.ErrRange", laid_strconv_ErrRange), ("strconv.ErrSyntax", laid_strconv_ErrSyntax)], narrowed := true }
def SyntaxReadsUptoSaid : Prop := syntaxReadsUptoRow.holds Tryz.pinned (OpenSpec.upto syntaxReadsSpec)

/-- 'gatepostlaw08.SyntaxFirst', WHERE WHAT IT READS IS OF BULK AT MOST 1048576: true; the input reads as it did. -/
def syntaxFirstUptoRow : OpenClaim := { program := "ytainhmbnbgonhaagreatdoor", sum := "1dec0e33f2b4e3e714932c4dd59a4853feeb674ed15d895bd87ca56a51d28833", func := "gatepost/gatepostlaw08.SyntaxFirst", spec := "syntaxFirst", inPlace := ["internal/bytealg.abigen_runtime_cmpstring"], unfollowed := true, recurses := true, named := ["strconv.ErrSyntax", "strconv.ErrRange", "internal/strconv.uint64pow10", "math/bits.deBruijn32tab", "math/bits.deBruijn64tab"], plainKeys := false, apart := false, laid := [("math/bits.deBruijn32tab", laid_math_bits_deBruijn32tab), ("math/bits.deBruijn64tab", laid_math_bits_deBruijn64tab), ("internal/strconv.uint64pow10", laid_internal_strconv_uint64pow10), ("strconv.ErrRange", laid_strconv_ErrRange), ("strconv.ErrSyntax", laid_strconv_ErrSyntax)], narrowed := true }
def SyntaxFirstUptoSaid : Prop := syntaxFirstUptoRow.holds Tryz.pinned (OpenSpec.upto syntaxFirstSpec)

/-- 'gatepostlaw08.SyntaxExprs', WHERE WHAT IT READS IS OF BULK AT MOST 1048576: true; the input reads as it did. -/
def syntaxExprsUptoRow : OpenClaim := { program := "ytainhmbnbgonhaagreatdoor", sum := "1dec0e33f2b4e3e714932c4dd59a4853feeb674ed15d895bd87ca56a51d28833", func := "gatepost/gatepostlaw08.SyntaxExprs", spec := "syntaxExprs", inPlace := ["internal/bytealg.abigen_runtime_cmpstring"], unfollowed := true, recurses := true, named := ["strconv.ErrSyntax", "strconv.ErrRange", "internal/strconv.uint64pow10", "math/bits.deBruijn32tab", "math/bits.deBruijn64tab"], loops := true, plainKeys := false, apart := false, laid := [("math/bits.deBruijn32tab", laid_math_bits_deBruijn32tab), ("math/bits.deBruijn64tab", laid_math_bits_deBruijn64tab), ("internal/strconv.uint64pow10", laid_internal_strconv_uint64pow10), ("strconv.ErrRange", laid_strconv_ErrRange), ("strconv.ErrSyntax", laid_strconv_ErrSyntax)], narrowed := true }
def SyntaxExprsUptoSaid : Prop := syntaxExprsUptoRow.holds Tryz.pinned (OpenSpec.upto syntaxExprsSpec)

/-- 'gatepostlaw08.SyntaxDocs', WHERE WHAT IT READS IS OF BULK AT MOST 1048576: true; the input reads as it did. -/
def syntaxDocsUptoRow : OpenClaim := { program := "ytainhmbnbgonhaagreatdoor", sum := "1dec0e33f2b4e3e714932c4dd59a4853feeb674ed15d895bd87ca56a51d28833", func := "gatepost/gatepostlaw08.SyntaxDocs", spec := "syntaxDocs", inPlace := ["internal/bytealg.abigen_runtime_cmpstring"], unfollowed := true, recurses := true, named := ["strconv.ErrSyntax", "strconv.ErrRange", "internal/strconv.uint64pow10", "math/bits.deBruijn32tab", "math/bits.deBruijn64tab"], loops := true, plainKeys := false, apart := false, laid := [("math/bits.deBruijn32tab", laid_math_bits_deBruijn32tab), ("math/bits.deBruijn64tab", laid_math_bits_deBruijn64tab), ("internal/strconv.uint64pow10", laid_internal_strconv_uint64pow10), ("strconv.ErrRange", laid_strconv_ErrRange), ("strconv.ErrSyntax", laid_strconv_ErrSyntax)], narrowed := true }
def SyntaxDocsUptoSaid : Prop := syntaxDocsUptoRow.holds Tryz.pinned (OpenSpec.upto syntaxDocsSpec)

/-- 'gatepostlaw08.SyntaxBent', WHERE WHAT IT READS IS OF BULK AT MOST 1048576: true; the input reads as it did. -/
def syntaxBentUptoRow : OpenClaim := { program := "ytainhmbnbgonhaagreatdoor", sum := "1dec0e33f2b4e3e714932c4dd59a4853feeb674ed15d895bd87ca56a51d28833", func := "gatepost/gatepostlaw08.SyntaxBent", spec := "syntaxBent", inPlace := ["internal/bytealg.abigen_runtime_cmpstring"], unfollowed := true, recurses := true, named := ["strconv.ErrSyntax", "strconv.ErrRange", "internal/strconv.uint64pow10", "math/bits.deBruijn32tab", "math/bits.deBruijn64tab"], loops := true, plainKeys := false, apart := false, laid := [("math/bits.deBruijn32tab", laid_math_bits_deBruijn32tab), ("math/bits.deBruijn64tab", laid_math_bits_deBruijn64tab), ("internal/strconv.uint64pow10", laid_internal_strconv_uint64pow10), ("strconv.ErrRange", laid_strconv_ErrRange), ("strconv.ErrSyntax", laid_strconv_ErrSyntax)], narrowed := true }
def SyntaxBentUptoSaid : Prop := syntaxBentUptoRow.holds Tryz.pinned (OpenSpec.upto syntaxBentSpec)

/-- 'gatepostlaw10.PrintExprs', WHERE WHAT IT READS IS OF BULK AT MOST 1048576: true; the input reads as it did. -/
def printExprsUptoRow : OpenClaim := { program := "ytainhmbnbgonhaagreatdoor", sum := "1dec0e33f2b4e3e714932c4dd59a4853feeb674ed15d895bd87ca56a51d28833", func := "gatepost/gatepostlaw10.PrintExprs", spec := "printExprs", inPlace := ["internal/bytealg.abigen_runtime_cmpstring", "internal/abi.NoEscape", "internal/bytealg.MakeNoZero"], unfollowed := true, recurses := true, named := ["internal/strconv.uint64pow10", "math/bits.deBruijn32tab", "math/bits.deBruijn64tab"], loops := true, plainKeys := false, apart := false, laid := [("math/bits.deBruijn32tab", laid_math_bits_deBruijn32tab), ("math/bits.deBruijn64tab", laid_math_bits_deBruijn64tab), ("internal/strconv.uint64pow10", laid_internal_strconv_uint64pow10)], narrowed := true }
def PrintExprsUptoSaid : Prop := printExprsUptoRow.holds Tryz.pinned (OpenSpec.upto printExprsSpec)

/-- 'gatepostlaw10.PrintDocs', WHERE WHAT IT READS IS OF BULK AT MOST 1048576: true; the input reads as it did. -/
def printDocsUptoRow : OpenClaim := { program := "ytainhmbnbgonhaagreatdoor", sum := "1dec0e33f2b4e3e714932c4dd59a4853feeb674ed15d895bd87ca56a51d28833", func := "gatepost/gatepostlaw10.PrintDocs", spec := "printDocs", inPlace := ["internal/bytealg.abigen_runtime_cmpstring", "internal/abi.NoEscape", "internal/bytealg.MakeNoZero"], unfollowed := true, recurses := true, named := ["internal/strconv.uint64pow10", "math/bits.deBruijn32tab", "math/bits.deBruijn64tab"], loops := true, plainKeys := false, apart := false, laid := [("math/bits.deBruijn32tab", laid_math_bits_deBruijn32tab), ("math/bits.deBruijn64tab", laid_math_bits_deBruijn64tab), ("internal/strconv.uint64pow10", laid_internal_strconv_uint64pow10)], narrowed := true }
def PrintDocsUptoSaid : Prop := printDocsUptoRow.holds Tryz.pinned (OpenSpec.upto printDocsSpec)

/-- 'gatepostlaw10.PrintReads', WHERE WHAT IT READS IS OF BULK AT MOST 1048576: true; the input reads as it did. -/
def printReadsUptoRow : OpenClaim := { program := "ytainhmbnbgonhaagreatdoor", sum := "1dec0e33f2b4e3e714932c4dd59a4853feeb674ed15d895bd87ca56a51d28833", func := "gatepost/gatepostlaw10.PrintReads", spec := "printReads", inPlace := ["internal/bytealg.abigen_runtime_cmpstring", "internal/abi.NoEscape", "internal/bytealg.MakeNoZero"], unfollowed := true, recurses := true, named := ["internal/strconv.uint64pow10", "math/bits.deBruijn32tab", "math/bits.deBruijn64tab"], plainKeys := false, apart := false, laid := [("math/bits.deBruijn32tab", laid_math_bits_deBruijn32tab), ("math/bits.deBruijn64tab", laid_math_bits_deBruijn64tab), ("internal/strconv.uint64pow10", laid_internal_strconv_uint64pow10)], narrowed := true }
def PrintReadsUptoSaid : Prop := printReadsUptoRow.holds Tryz.pinned (OpenSpec.upto printReadsSpec)

/-- 'gatepostlaw10.PrintBrackets', WHERE WHAT IT READS IS OF BULK AT MOST 1048576: true; the input reads as it did. -/
def printBracketsUptoRow : OpenClaim := { program := "ytainhmbnbgonhaagreatdoor", sum := "1dec0e33f2b4e3e714932c4dd59a4853feeb674ed15d895bd87ca56a51d28833", func := "gatepost/gatepostlaw10.PrintBrackets", spec := "printBrackets", inPlace := ["internal/bytealg.abigen_runtime_cmpstring", "internal/abi.NoEscape", "internal/bytealg.MakeNoZero"], unfollowed := true, recurses := true, named := ["internal/strconv.uint64pow10", "math/bits.deBruijn32tab", "math/bits.deBruijn64tab"], loops := true, plainKeys := false, apart := false, laid := [("math/bits.deBruijn32tab", laid_math_bits_deBruijn32tab), ("math/bits.deBruijn64tab", laid_math_bits_deBruijn64tab), ("internal/strconv.uint64pow10", laid_internal_strconv_uint64pow10)], narrowed := true }
def PrintBracketsUptoSaid : Prop := printBracketsUptoRow.holds Tryz.pinned (OpenSpec.upto printBracketsSpec)

/-- 'gatepostlaw10.PrintBack', WHERE WHAT IT READS IS OF BULK AT MOST 1048576: true; the input reads as it did. -/
def printBackUptoRow : OpenClaim := { program := "ytainhmbnbgonhaagreatdoor", sum := "1dec0e33f2b4e3e714932c4dd59a4853feeb674ed15d895bd87ca56a51d28833", func := "gatepost/gatepostlaw10.PrintBack", spec := "printBack", inPlace := ["internal/bytealg.abigen_runtime_cmpstring", "internal/abi.NoEscape", "internal/bytealg.MakeNoZero"], unfollowed := true, recurses := true, named := ["internal/strconv.uint64pow10", "math/bits.deBruijn32tab", "math/bits.deBruijn64tab", "strconv.ErrSyntax", "strconv.ErrRange"], loops := true, plainKeys := false, apart := false, laid := [("math/bits.deBruijn32tab", laid_math_bits_deBruijn32tab), ("math/bits.deBruijn64tab", laid_math_bits_deBruijn64tab), ("internal/strconv.uint64pow10", laid_internal_strconv_uint64pow10), ("strconv.ErrRange", laid_strconv_ErrRange), ("strconv.ErrSyntax", laid_strconv_ErrSyntax)], narrowed := true }
def PrintBackUptoSaid : Prop := printBackUptoRow.holds Tryz.pinned (OpenSpec.upto printBackSpec)

/-- 'gatepostlaw09.CheckTexts', WHERE WHAT IT READS IS OF BULK AT MOST 1048576: true; the input reads as it did. -/
def checkTextsUptoRow : OpenClaim := { program := "ytainhmbnbgonhaagreatdoor", sum := "1dec0e33f2b4e3e714932c4dd59a4853feeb674ed15d895bd87ca56a51d28833", func := "gatepost/gatepostlaw09.CheckTexts", spec := "checkTexts", inPlace := ["internal/bytealg.abigen_runtime_cmpstring"], unfollowed := true, recurses := true, named := ["strconv.ErrSyntax", "strconv.ErrRange", "internal/strconv.uint64pow10", "math/bits.deBruijn32tab", "math/bits.deBruijn64tab"], plainKeys := false, apart := false, laid := [("math/bits.deBruijn32tab", laid_math_bits_deBruijn32tab), ("math/bits.deBruijn64tab", laid_math_bits_deBruijn64tab), ("internal/strconv.uint64pow10", laid_internal_strconv_uint64pow10), ("strconv.ErrRange", laid_strconv_ErrRange), ("strconv.ErrSyntax", laid_strconv_ErrSyntax)], narrowed := true }
def CheckTextsUptoSaid : Prop := checkTextsUptoRow.holds Tryz.pinned (OpenSpec.upto checkTextsSpec)

/-- 'gatepostlaw09.CheckLoads', WHERE WHAT IT READS IS OF BULK AT MOST 1048576: true; the input reads as it did. -/
def checkLoadsUptoRow : OpenClaim := { program := "ytainhmbnbgonhaagreatdoor", sum := "1dec0e33f2b4e3e714932c4dd59a4853feeb674ed15d895bd87ca56a51d28833", func := "gatepost/gatepostlaw09.CheckLoads", spec := "checkLoads", inPlace := ["internal/bytealg.abigen_runtime_cmpstring", "internal/abi.NoEscape", "internal/bytealg.MakeNoZero"], unfollowed := true, recurses := true, named := ["internal/strconv.uint64pow10", "math/bits.deBruijn32tab", "math/bits.deBruijn64tab", "strconv.ErrSyntax", "strconv.ErrRange"], loops := true, plainKeys := false, apart := false, laid := [("math/bits.deBruijn32tab", laid_math_bits_deBruijn32tab), ("math/bits.deBruijn64tab", laid_math_bits_deBruijn64tab), ("internal/strconv.uint64pow10", laid_internal_strconv_uint64pow10), ("strconv.ErrRange", laid_strconv_ErrRange), ("strconv.ErrSyntax", laid_strconv_ErrSyntax)], narrowed := true }
def CheckLoadsUptoSaid : Prop := checkLoadsUptoRow.holds Tryz.pinned (OpenSpec.upto checkLoadsSpec)

end Rows
end Go.Proofs.YtainhmbnbgonhaaGreatDoor
