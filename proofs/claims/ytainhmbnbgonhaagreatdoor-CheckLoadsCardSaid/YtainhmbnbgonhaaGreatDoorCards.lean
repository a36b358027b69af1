/-
  DERIVED. GIVEN WITH THE SEED: THE CARDS: each row of YtainhmbnbgonhaaGreatDoorRows.lean that lists a variable, with what it lists TIED to the program's text (the seventh form; the later family's looks); each row that meets fmt, with fmt's text TOLD by the authors' own Lean function (tested against real Go, not proved from fmt's source: count such statements apart). THE CARD IS WHAT COUNTS. Prove the row's statement (the work); the ties are given (YtainhmbnbgonhaaGreatDoorTie.lean); close each card by the builder's one call (the guide's Derived/Test/ToyasCard.lean, 'card_holds'). Laid BY PROGRAM, IN A SANDBOX (cutbox-door.mjs). By AI agents, Wed Nov 11 2026. No macro, syntax, notation, axiom, sorry.
-/
import Derived.Test.YtainhmbnbgonhaaGreatDoorRows
import GoSem.ClaimSeven
namespace Go.Proofs.YtainhmbnbgonhaaGreatDoor
namespace Rows

/-- THE TIED CARD OF 'gatepostlaw08.SyntaxKept'. -/
def syntaxKeptCard : Claim7 := { stood := { row := syntaxKeptRow, standIns := [], harness := (true, "80a834c457ab35883543603980dd7f217c45191a846bf96d7f461e86fb45756a"), looks := true }, kinds := [], alts := [], laidByText := true, laidKinds := [.data, .data, .data, .sentinel, .sentinel], laidTests := true, laidLooks := .later }
def SyntaxKeptCardSaid : Prop := Claim7.holds Tryz.pinned (.plain (OpenSpec.ofChange syntaxKeptSpec)) syntaxKeptCard

/-- THE TIED CARD OF 'gatepostlaw08.SyntaxReads'. -/
def syntaxReadsCard : Claim7 := { stood := { row := syntaxReadsRow, standIns := [], harness := (true, "80a834c457ab35883543603980dd7f217c45191a846bf96d7f461e86fb45756a"), looks := true }, kinds := [], alts := [], laidByText := true, laidKinds := [.data, .data, .data, .sentinel, .sentinel], laidTests := true, laidLooks := .later }
def SyntaxReadsCardSaid : Prop := Claim7.holds Tryz.pinned (.plain (OpenSpec.ofChange syntaxReadsSpec)) syntaxReadsCard

/-- THE TIED CARD OF 'gatepostlaw08.SyntaxFirst'. -/
def syntaxFirstCard : Claim7 := { stood := { row := syntaxFirstRow, standIns := [], harness := (true, "80a834c457ab35883543603980dd7f217c45191a846bf96d7f461e86fb45756a"), looks := true }, kinds := [], alts := [], laidByText := true, laidKinds := [.data, .data, .data, .sentinel, .sentinel], laidTests := true, laidLooks := .later }
def SyntaxFirstCardSaid : Prop := Claim7.holds Tryz.pinned (.plain (OpenSpec.ofChange syntaxFirstSpec)) syntaxFirstCard

/-- THE TIED CARD OF 'gatepostlaw08.SyntaxExprs'. -/
def syntaxExprsCard : Claim7 := { stood := { row := syntaxExprsRow, standIns := [], harness := (true, "80a834c457ab35883543603980dd7f217c45191a846bf96d7f461e86fb45756a"), looks := true }, kinds := [], alts := [], laidByText := true, laidKinds := [.data, .data, .data, .sentinel, .sentinel], laidTests := true, laidLooks := .later }
def SyntaxExprsCardSaid : Prop := Claim7.holds Tryz.pinned (.plain (OpenSpec.ofChange syntaxExprsSpec)) syntaxExprsCard

/-- THE TIED CARD OF 'gatepostlaw08.SyntaxDocs'. -/
def syntaxDocsCard : Claim7 := { stood := { row := syntaxDocsRow, standIns := [], harness := (true, "80a834c457ab35883543603980dd7f217c45191a846bf96d7f461e86fb45756a"), looks := true }, kinds := [], alts := [], laidByText := true, laidKinds := [.data, .data, .data, .sentinel, .sentinel], laidTests := true, laidLooks := .later }
def SyntaxDocsCardSaid : Prop := Claim7.holds Tryz.pinned (.plain (OpenSpec.ofChange syntaxDocsSpec)) syntaxDocsCard

/-- THE TIED CARD OF 'gatepostlaw08.SyntaxBent'. -/
def syntaxBentCard : Claim7 := { stood := { row := syntaxBentRow, standIns := [], harness := (true, "80a834c457ab35883543603980dd7f217c45191a846bf96d7f461e86fb45756a"), looks := true }, kinds := [], alts := [], laidByText := true, laidKinds := [.data, .data, .data, .sentinel, .sentinel], laidTests := true, laidLooks := .later }
def SyntaxBentCardSaid : Prop := Claim7.holds Tryz.pinned (.plain (OpenSpec.ofChange syntaxBentSpec)) syntaxBentCard

/-- THE TIED CARD OF 'gatepostlaw10.PrintExprs'. -/
def printExprsCard : Claim7 := { stood := { row := printExprsRow, standIns := [], harness := (true, "80a834c457ab35883543603980dd7f217c45191a846bf96d7f461e86fb45756a"), looks := true }, kinds := [], alts := [], laidByText := true, laidKinds := [.data, .data, .data], laidTests := true, laidLooks := .later }
def PrintExprsCardSaid : Prop := Claim7.holds Tryz.pinned (.plain (OpenSpec.ofChange printExprsSpec)) printExprsCard

/-- THE TIED CARD OF 'gatepostlaw10.PrintDocs'. -/
def printDocsCard : Claim7 := { stood := { row := printDocsRow, standIns := [], harness := (true, "80a834c457ab35883543603980dd7f217c45191a846bf96d7f461e86fb45756a"), looks := true }, kinds := [], alts := [], laidByText := true, laidKinds := [.data, .data, .data], laidTests := true, laidLooks := .later }
def PrintDocsCardSaid : Prop := Claim7.holds Tryz.pinned (.plain (OpenSpec.ofChange printDocsSpec)) printDocsCard

/-- THE TIED CARD OF 'gatepostlaw10.PrintReads'. -/
def printReadsCard : Claim7 := { stood := { row := printReadsRow, standIns := [], harness := (true, "80a834c457ab35883543603980dd7f217c45191a846bf96d7f461e86fb45756a"), looks := true }, kinds := [], alts := [], laidByText := true, laidKinds := [.data, .data, .data], laidTests := true, laidLooks := .later }
def PrintReadsCardSaid : Prop := Claim7.holds Tryz.pinned (.plain (OpenSpec.ofChange printReadsSpec)) printReadsCard

/-- THE TIED CARD OF 'gatepostlaw10.PrintBrackets'. -/
def printBracketsCard : Claim7 := { stood := { row := printBracketsRow, standIns := [], harness := (true, "80a834c457ab35883543603980dd7f217c45191a846bf96d7f461e86fb45756a"), looks := true }, kinds := [], alts := [], laidByText := true, laidKinds := [.data, .data, .data], laidTests := true, laidLooks := .later }
def PrintBracketsCardSaid : Prop := Claim7.holds Tryz.pinned (.plain (OpenSpec.ofChange printBracketsSpec)) printBracketsCard

/-- THE TIED CARD OF 'gatepostlaw10.PrintBack'. -/
def printBackCard : Claim7 := { stood := { row := printBackRow, standIns := [], harness := (true, "80a834c457ab35883543603980dd7f217c45191a846bf96d7f461e86fb45756a"), looks := true }, kinds := [], alts := [], laidByText := true, laidKinds := [.data, .data, .data, .sentinel, .sentinel], laidTests := true, laidLooks := .later }
def PrintBackCardSaid : Prop := Claim7.holds Tryz.pinned (.plain (OpenSpec.ofChange printBackSpec)) printBackCard

/-- THE TIED CARD OF 'gatepostlaw09.CheckTexts'. -/
def checkTextsCard : Claim7 := { stood := { row := checkTextsRow, standIns := [], harness := (true, "80a834c457ab35883543603980dd7f217c45191a846bf96d7f461e86fb45756a"), looks := true }, kinds := [], alts := [], laidByText := true, laidKinds := [.data, .data, .data, .sentinel, .sentinel], laidTests := true, laidLooks := .later }
def CheckTextsCardSaid : Prop := Claim7.holds Tryz.pinned (.plain (OpenSpec.ofChange checkTextsSpec)) checkTextsCard

/-- THE TIED CARD OF 'gatepostlaw09.CheckLoads'. -/
def checkLoadsCard : Claim7 := { stood := { row := checkLoadsRow, standIns := [], harness := (true, "80a834c457ab35883543603980dd7f217c45191a846bf96d7f461e86fb45756a"), looks := true }, kinds := [], alts := [], laidByText := true, laidKinds := [.data, .data, .data, .sentinel, .sentinel], laidTests := true, laidLooks := .later }
def CheckLoadsCardSaid : Prop := Claim7.holds Tryz.pinned (.plain (OpenSpec.ofChange checkLoadsSpec)) checkLoadsCard

/-- THE SECOND FORM's CARD OF 'gatepostlaw08.SyntaxKept'. -/
def syntaxKeptUptoCard : Claim7 := { stood := { row := syntaxKeptUptoRow, standIns := [], harness := (true, "80a834c457ab35883543603980dd7f217c45191a846bf96d7f461e86fb45756a"), looks := true }, kinds := [], alts := [], laidByText := true, laidKinds := [.data, .data, .data, .sentinel, .sentinel], laidTests := true, laidLooks := .later }
def SyntaxKeptUptoCardSaid : Prop := Claim7.holds Tryz.pinned (.plain (OpenSpec.upto syntaxKeptSpec)) syntaxKeptUptoCard

/-- THE SECOND FORM's CARD OF 'gatepostlaw08.SyntaxReads'. -/
def syntaxReadsUptoCard : Claim7 := { stood := { row := syntaxReadsUptoRow, standIns := [], harness := (true, "80a834c457ab35883543603980dd7f217c45191a846bf96d7f461e86fb45756a"), looks := true }, kinds := [], alts := [], laidByText := true, laidKinds := [.data, .data, .data, .sentinel, .sentinel], laidTests := true, laidLooks := .later }
def SyntaxReadsUptoCardSaid : Prop := Claim7.holds Tryz.pinned (.plain (OpenSpec.upto syntaxReadsSpec)) syntaxReadsUptoCard

/-- THE SECOND FORM's CARD OF 'gatepostlaw08.SyntaxFirst'. -/
def syntaxFirstUptoCard : Claim7 := { stood := { row := syntaxFirstUptoRow, standIns := [], harness := (true, "80a834c457ab35883543603980dd7f217c45191a846bf96d7f461e86fb45756a"), looks := true }, kinds := [], alts := [], laidByText := true, laidKinds := [.data, .data, .data, .sentinel, .sentinel], laidTests := true, laidLooks := .later }
def SyntaxFirstUptoCardSaid : Prop := Claim7.holds Tryz.pinned (.plain (OpenSpec.upto syntaxFirstSpec)) syntaxFirstUptoCard

/-- THE SECOND FORM's CARD OF 'gatepostlaw08.SyntaxExprs'. -/
def syntaxExprsUptoCard : Claim7 := { stood := { row := syntaxExprsUptoRow, standIns := [], harness := (true, "80a834c457ab35883543603980dd7f217c45191a846bf96d7f461e86fb45756a"), looks := true }, kinds := [], alts := [], laidByText := true, laidKinds := [.data, .data, .data, .sentinel, .sentinel], laidTests := true, laidLooks := .later }
def SyntaxExprsUptoCardSaid : Prop := Claim7.holds Tryz.pinned (.plain (OpenSpec.upto syntaxExprsSpec)) syntaxExprsUptoCard

/-- THE SECOND FORM's CARD OF 'gatepostlaw08.SyntaxDocs'. -/
def syntaxDocsUptoCard : Claim7 := { stood := { row := syntaxDocsUptoRow, standIns := [], harness := (true, "80a834c457ab35883543603980dd7f217c45191a846bf96d7f461e86fb45756a"), looks := true }, kinds := [], alts := [], laidByText := true, laidKinds := [.data, .data, .data, .sentinel, .sentinel], laidTests := true, laidLooks := .later }
def SyntaxDocsUptoCardSaid : Prop := Claim7.holds Tryz.pinned (.plain (OpenSpec.upto syntaxDocsSpec)) syntaxDocsUptoCard

/-- THE SECOND FORM's CARD OF 'gatepostlaw08.SyntaxBent'. -/
def syntaxBentUptoCard : Claim7 := { stood := { row := syntaxBentUptoRow, standIns := [], harness := (true, "80a834c457ab35883543603980dd7f217c45191a846bf96d7f461e86fb45756a"), looks := true }, kinds := [], alts := [], laidByText := true, laidKinds := [.data, .data, .data, .sentinel, .sentinel], laidTests := true, laidLooks := .later }
def SyntaxBentUptoCardSaid : Prop := Claim7.holds Tryz.pinned (.plain (OpenSpec.upto syntaxBentSpec)) syntaxBentUptoCard

/-- THE SECOND FORM's CARD OF 'gatepostlaw10.PrintExprs'. -/
def printExprsUptoCard : Claim7 := { stood := { row := printExprsUptoRow, standIns := [], harness := (true, "80a834c457ab35883543603980dd7f217c45191a846bf96d7f461e86fb45756a"), looks := true }, kinds := [], alts := [], laidByText := true, laidKinds := [.data, .data, .data], laidTests := true, laidLooks := .later }
def PrintExprsUptoCardSaid : Prop := Claim7.holds Tryz.pinned (.plain (OpenSpec.upto printExprsSpec)) printExprsUptoCard

/-- THE SECOND FORM's CARD OF 'gatepostlaw10.PrintDocs'. -/
def printDocsUptoCard : Claim7 := { stood := { row := printDocsUptoRow, standIns := [], harness := (true, "80a834c457ab35883543603980dd7f217c45191a846bf96d7f461e86fb45756a"), looks := true }, kinds := [], alts := [], laidByText := true, laidKinds := [.data, .data, .data], laidTests := true, laidLooks := .later }
def PrintDocsUptoCardSaid : Prop := Claim7.holds Tryz.pinned (.plain (OpenSpec.upto printDocsSpec)) printDocsUptoCard

/-- THE SECOND FORM's CARD OF 'gatepostlaw10.PrintReads'. -/
def printReadsUptoCard : Claim7 := { stood := { row := printReadsUptoRow, standIns := [], harness := (true, "80a834c457ab35883543603980dd7f217c45191a846bf96d7f461e86fb45756a"), looks := true }, kinds := [], alts := [], laidByText := true, laidKinds := [.data, .data, .data], laidTests := true, laidLooks := .later }
def PrintReadsUptoCardSaid : Prop := Claim7.holds Tryz.pinned (.plain (OpenSpec.upto printReadsSpec)) printReadsUptoCard

/-- THE SECOND FORM's CARD OF 'gatepostlaw10.PrintBrackets'. -/
def printBracketsUptoCard : Claim7 := { stood := { row := printBracketsUptoRow, standIns := [], harness := (true, "80a834c457ab35883543603980dd7f217c45191a846bf96d7f461e86fb45756a"), looks := true }, kinds := [], alts := [], laidByText := true, laidKinds := [.data, .data, .data], laidTests := true, laidLooks := .later }
def PrintBracketsUptoCardSaid : Prop := Claim7.holds Tryz.pinned (.plain (OpenSpec.upto printBracketsSpec)) printBracketsUptoCard

/-- THE SECOND FORM's CARD OF 'gatepostlaw10.PrintBack'. -/
def printBackUptoCard : Claim7 := { stood := { row := printBackUptoRow, standIns := [], harness := (true, "80a834c457ab35883543603980dd7f217c45191a846bf96d7f461e86fb45756a"), looks := true }, kinds := [], alts := [], laidByText := true, laidKinds := [.data, .data, .data, .sentinel, .sentinel], laidTests := true, laidLooks := .later }
def PrintBackUptoCardSaid : Prop := Claim7.holds Tryz.pinned (.plain (OpenSpec.upto printBackSpec)) printBackUptoCard

/-- THE SECOND FORM's CARD OF 'gatepostlaw09.CheckTexts'. -/
def checkTextsUptoCard : Claim7 := { stood := { row := checkTextsUptoRow, standIns := [], harness := (true, "80a834c457ab35883543603980dd7f217c45191a846bf96d7f461e86fb45756a"), looks := true }, kinds := [], alts := [], laidByText := true, laidKinds := [.data, .data, .data, .sentinel, .sentinel], laidTests := true, laidLooks := .later }
def CheckTextsUptoCardSaid : Prop := Claim7.holds Tryz.pinned (.plain (OpenSpec.upto checkTextsSpec)) checkTextsUptoCard

/-- THE SECOND FORM's CARD OF 'gatepostlaw09.CheckLoads'. -/
def checkLoadsUptoCard : Claim7 := { stood := { row := checkLoadsUptoRow, standIns := [], harness := (true, "80a834c457ab35883543603980dd7f217c45191a846bf96d7f461e86fb45756a"), looks := true }, kinds := [], alts := [], laidByText := true, laidKinds := [.data, .data, .data, .sentinel, .sentinel], laidTests := true, laidLooks := .later }
def CheckLoadsUptoCardSaid : Prop := Claim7.holds Tryz.pinned (.plain (OpenSpec.upto checkLoadsSpec)) checkLoadsUptoCard
end Rows
end Go.Proofs.YtainhmbnbgonhaaGreatDoor
