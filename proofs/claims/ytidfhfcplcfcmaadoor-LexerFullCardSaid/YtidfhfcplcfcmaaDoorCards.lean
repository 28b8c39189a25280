/-
  DERIVED. GIVEN WITH THE SEED: THE CARDS: each row of YtidfhfcplcfcmaaDoorRows.lean that lists a variable, with what it lists TIED to the program's text (the seventh form; the later family's looks); each row that meets fmt, with fmt's text TOLD by the authors' own Lean function (tested against real Go, not proved from fmt's source: count such statements apart). THE CARD IS WHAT COUNTS. Prove the row's statement (the work); the ties are given (YtidfhfcplcfcmaaDoorTie.lean); close each card by the builder's one call (the guide's Derived/Test/ToyasCard.lean, 'card_holds'). Laid BY PROGRAM, IN A SANDBOX (cutbox-door.mjs). By AI agents, Wed Nov 11 2026. No macro, syntax, notation, axiom, sorry.
-/
import Derived.Test.YtidfhfcplcfcmaaDoorRows
import GoSem.ClaimSeven
namespace Go.Proofs.YtidfhfcplcfcmaaDoor
namespace Rows

/-- THE TIED CARD OF 'ontimelaw11.LexerTokens'. -/
def lexerTokensCard : Claim7 := { stood := { row := lexerTokensRow, standIns := [], harness := (true, "aa1a665fe7f75f5948b397235bc8f99f2cc9bb8bff79247a33b464c84c0b0d51"), looks := true }, kinds := [], alts := [], laidByText := true, laidKinds := [.listed, .data], laidTests := true, laidLooks := .later }
def LexerTokensCardSaid : Prop := Claim7.holds Tryd.pinned (.plain (OpenSpec.ofChange lexerTokensSpec)) lexerTokensCard

/-- THE TIED CARD OF 'ontimelaw11.LexerAlone'. -/
def lexerAloneCard : Claim7 := { stood := { row := lexerAloneRow, standIns := [], harness := (true, "aa1a665fe7f75f5948b397235bc8f99f2cc9bb8bff79247a33b464c84c0b0d51"), looks := true }, kinds := [], alts := [], laidByText := true, laidKinds := [.listed, .data], laidTests := true, laidLooks := .later }
def LexerAloneCardSaid : Prop := Claim7.holds Tryd.pinned (.plain (OpenSpec.ofChange lexerAloneSpec)) lexerAloneCard

/-- THE TIED CARD OF 'ontimelaw11.LexerSuffix'. -/
def lexerSuffixCard : Claim7 := { stood := { row := lexerSuffixRow, standIns := [], harness := (true, "aa1a665fe7f75f5948b397235bc8f99f2cc9bb8bff79247a33b464c84c0b0d51"), looks := true }, kinds := [], alts := [], laidByText := true, laidKinds := [.listed, .data], laidTests := true, laidLooks := .later }
def LexerSuffixCardSaid : Prop := Claim7.holds Tryd.pinned (.plain (OpenSpec.ofChange lexerSuffixSpec)) lexerSuffixCard

/-- THE TIED CARD OF 'ontimelaw11.LexerLines'. -/
def lexerLinesCard : Claim7 := { stood := { row := lexerLinesRow, standIns := [], harness := (true, "aa1a665fe7f75f5948b397235bc8f99f2cc9bb8bff79247a33b464c84c0b0d51"), looks := true }, kinds := [], alts := [], laidByText := true, laidKinds := [.listed, .data], laidTests := true, laidLooks := .later }
def LexerLinesCardSaid : Prop := Claim7.holds Tryd.pinned (.plain (OpenSpec.ofChange lexerLinesSpec)) lexerLinesCard

/-- THE TIED CARD OF 'ontimelaw11.LexerNames'. -/
def lexerNamesCard : Claim7 := { stood := { row := lexerNamesRow, standIns := [], harness := (true, "aa1a665fe7f75f5948b397235bc8f99f2cc9bb8bff79247a33b464c84c0b0d51"), looks := true }, kinds := [], alts := [], laidByText := true, laidKinds := [.listed, .data], laidTests := true, laidLooks := .later }
def LexerNamesCardSaid : Prop := Claim7.holds Tryd.pinned (.plain (OpenSpec.ofChange lexerNamesSpec)) lexerNamesCard

/-- THE TIED CARD OF 'ontimelaw11.LexerJoins'. -/
def lexerJoinsCard : Claim7 := { stood := { row := lexerJoinsRow, standIns := [], harness := (true, "aa1a665fe7f75f5948b397235bc8f99f2cc9bb8bff79247a33b464c84c0b0d51"), looks := true }, kinds := [], alts := [], laidByText := true, laidKinds := [.listed, .data], laidTests := true, laidLooks := .later }
def LexerJoinsCardSaid : Prop := Claim7.holds Tryd.pinned (.plain (OpenSpec.ofChange lexerJoinsSpec)) lexerJoinsCard

/-- THE TIED CARD OF 'ontimelaw11.LexerError'. -/
def lexerErrorCard : Claim7 := { stood := { row := lexerErrorRow, standIns := [], harness := (true, "aa1a665fe7f75f5948b397235bc8f99f2cc9bb8bff79247a33b464c84c0b0d51"), looks := true }, kinds := [], alts := [], laidByText := true, laidKinds := [.listed, .data], laidTests := true, laidLooks := .later }
def LexerErrorCardSaid : Prop := Claim7.holds Tryd.pinned (.plain (OpenSpec.ofChange lexerErrorSpec)) lexerErrorCard

/-- THE TIED CARD OF 'ontimelaw11.LexerSolid'. -/
def lexerSolidCard : Claim7 := { stood := { row := lexerSolidRow, standIns := [], harness := (true, "aa1a665fe7f75f5948b397235bc8f99f2cc9bb8bff79247a33b464c84c0b0d51"), looks := true }, kinds := [], alts := [], laidByText := true, laidKinds := [.listed, .data], laidTests := true, laidLooks := .later }
def LexerSolidCardSaid : Prop := Claim7.holds Tryd.pinned (.plain (OpenSpec.ofChange lexerSolidSpec)) lexerSolidCard

/-- THE TIED CARD OF 'ontimelaw11.LexerFull'. -/
def lexerFullCard : Claim7 := { stood := { row := lexerFullRow, standIns := [], harness := (true, "aa1a665fe7f75f5948b397235bc8f99f2cc9bb8bff79247a33b464c84c0b0d51"), looks := true }, kinds := [], alts := [], laidByText := true, laidKinds := [.listed, .data], laidTests := true, laidLooks := .later }
def LexerFullCardSaid : Prop := Claim7.holds Tryd.pinned (.plain (OpenSpec.ofChange lexerFullSpec)) lexerFullCard

/-- THE TIED CARD OF 'ontimelaw14.PrinterParts'. -/
def printerPartsCard : Claim7 := { stood := { row := printerPartsRow, standIns := [], harness := (true, "aa1a665fe7f75f5948b397235bc8f99f2cc9bb8bff79247a33b464c84c0b0d51"), looks := true }, kinds := [], alts := [], laidByText := true, laidKinds := [.data, .data, .data, .data, .listed, .data], laidTests := true, laidLooks := .later }
def PrinterPartsCardSaid : Prop := Claim7.holds Tryd.pinned (.plain (OpenSpec.ofChange printerPartsSpec)) printerPartsCard

/-- THE TIED CARD OF 'ontimelaw14.PrinterLines'. -/
def printerLinesCard : Claim7 := { stood := { row := printerLinesRow, standIns := [], harness := (true, "aa1a665fe7f75f5948b397235bc8f99f2cc9bb8bff79247a33b464c84c0b0d51"), looks := true }, kinds := [], alts := [], laidByText := true, laidKinds := [.data, .data, .data, .data, .listed, .data], laidTests := true, laidLooks := .later }
def PrinterLinesCardSaid : Prop := Claim7.holds Tryd.pinned (.plain (OpenSpec.ofChange printerLinesSpec)) printerLinesCard

/-- THE TIED CARD OF 'ontimelaw13.ParserLevels'. -/
def parserLevelsCard : Claim7 := { stood := { row := parserLevelsRow, standIns := [], harness := (true, "aa1a665fe7f75f5948b397235bc8f99f2cc9bb8bff79247a33b464c84c0b0d51"), looks := true }, kinds := [], alts := [], laidByText := true, laidKinds := [.data, .data, .data, .data, .sentinel, .sentinel, .listed, .data], laidTests := true, laidLooks := .later }
def ParserLevelsCardSaid : Prop := Claim7.holds Tryd.pinned (.plain (OpenSpec.ofChange parserLevelsSpec)) parserLevelsCard

/-- THE TIED CARD OF 'ontimelaw13.ParserNumbers'. -/
def parserNumbersCard : Claim7 := { stood := { row := parserNumbersRow, standIns := [], harness := (true, "aa1a665fe7f75f5948b397235bc8f99f2cc9bb8bff79247a33b464c84c0b0d51"), looks := true }, kinds := [], alts := [], laidByText := true, laidKinds := [.data, .data, .data, .data, .sentinel, .sentinel, .listed, .data], laidTests := true, laidLooks := .later }
def ParserNumbersCardSaid : Prop := Claim7.holds Tryd.pinned (.plain (OpenSpec.ofChange parserNumbersSpec)) parserNumbersCard

/-- THE TIED CARD OF 'ontimelaw13.ParserLimits'. -/
def parserLimitsCard : Claim7 := { stood := { row := parserLimitsRow, standIns := [], harness := (true, "aa1a665fe7f75f5948b397235bc8f99f2cc9bb8bff79247a33b464c84c0b0d51"), looks := true }, kinds := [], alts := [], laidByText := true, laidKinds := [.data, .data, .data, .data, .sentinel, .sentinel, .listed, .data], laidTests := true, laidLooks := .later }
def ParserLimitsCardSaid : Prop := Claim7.holds Tryd.pinned (.plain (OpenSpec.ofChange parserLimitsSpec)) parserLimitsCard

/-- THE SECOND FORM's CARD OF 'ontimelaw11.LexerTokens'. -/
def lexerTokensUptoCard : Claim7 := { stood := { row := lexerTokensUptoRow, standIns := [], harness := (true, "aa1a665fe7f75f5948b397235bc8f99f2cc9bb8bff79247a33b464c84c0b0d51"), looks := true }, kinds := [], alts := [], laidByText := true, laidKinds := [.listed, .data], laidTests := true, laidLooks := .later }
def LexerTokensUptoCardSaid : Prop := Claim7.holds Tryd.pinned (.plain (OpenSpec.upto lexerTokensSpec)) lexerTokensUptoCard

/-- THE SECOND FORM's CARD OF 'ontimelaw11.LexerAlone'. -/
def lexerAloneUptoCard : Claim7 := { stood := { row := lexerAloneUptoRow, standIns := [], harness := (true, "aa1a665fe7f75f5948b397235bc8f99f2cc9bb8bff79247a33b464c84c0b0d51"), looks := true }, kinds := [], alts := [], laidByText := true, laidKinds := [.listed, .data], laidTests := true, laidLooks := .later }
def LexerAloneUptoCardSaid : Prop := Claim7.holds Tryd.pinned (.plain (OpenSpec.upto lexerAloneSpec)) lexerAloneUptoCard

/-- THE SECOND FORM's CARD OF 'ontimelaw11.LexerSuffix'. -/
def lexerSuffixUptoCard : Claim7 := { stood := { row := lexerSuffixUptoRow, standIns := [], harness := (true, "aa1a665fe7f75f5948b397235bc8f99f2cc9bb8bff79247a33b464c84c0b0d51"), looks := true }, kinds := [], alts := [], laidByText := true, laidKinds := [.listed, .data], laidTests := true, laidLooks := .later }
def LexerSuffixUptoCardSaid : Prop := Claim7.holds Tryd.pinned (.plain (OpenSpec.upto lexerSuffixSpec)) lexerSuffixUptoCard

/-- THE SECOND FORM's CARD OF 'ontimelaw11.LexerLines'. -/
def lexerLinesUptoCard : Claim7 := { stood := { row := lexerLinesUptoRow, standIns := [], harness := (true, "aa1a665fe7f75f5948b397235bc8f99f2cc9bb8bff79247a33b464c84c0b0d51"), looks := true }, kinds := [], alts := [], laidByText := true, laidKinds := [.listed, .data], laidTests := true, laidLooks := .later }
def LexerLinesUptoCardSaid : Prop := Claim7.holds Tryd.pinned (.plain (OpenSpec.upto lexerLinesSpec)) lexerLinesUptoCard

/-- THE SECOND FORM's CARD OF 'ontimelaw11.LexerNames'. -/
def lexerNamesUptoCard : Claim7 := { stood := { row := lexerNamesUptoRow, standIns := [], harness := (true, "aa1a665fe7f75f5948b397235bc8f99f2cc9bb8bff79247a33b464c84c0b0d51"), looks := true }, kinds := [], alts := [], laidByText := true, laidKinds := [.listed, .data], laidTests := true, laidLooks := .later }
def LexerNamesUptoCardSaid : Prop := Claim7.holds Tryd.pinned (.plain (OpenSpec.upto lexerNamesSpec)) lexerNamesUptoCard

/-- THE SECOND FORM's CARD OF 'ontimelaw11.LexerJoins'. -/
def lexerJoinsUptoCard : Claim7 := { stood := { row := lexerJoinsUptoRow, standIns := [], harness := (true, "aa1a665fe7f75f5948b397235bc8f99f2cc9bb8bff79247a33b464c84c0b0d51"), looks := true }, kinds := [], alts := [], laidByText := true, laidKinds := [.listed, .data], laidTests := true, laidLooks := .later }
def LexerJoinsUptoCardSaid : Prop := Claim7.holds Tryd.pinned (.plain (OpenSpec.upto lexerJoinsSpec)) lexerJoinsUptoCard

/-- THE SECOND FORM's CARD OF 'ontimelaw11.LexerError'. -/
def lexerErrorUptoCard : Claim7 := { stood := { row := lexerErrorUptoRow, standIns := [], harness := (true, "aa1a665fe7f75f5948b397235bc8f99f2cc9bb8bff79247a33b464c84c0b0d51"), looks := true }, kinds := [], alts := [], laidByText := true, laidKinds := [.listed, .data], laidTests := true, laidLooks := .later }
def LexerErrorUptoCardSaid : Prop := Claim7.holds Tryd.pinned (.plain (OpenSpec.upto lexerErrorSpec)) lexerErrorUptoCard

/-- THE SECOND FORM's CARD OF 'ontimelaw11.LexerSolid'. -/
def lexerSolidUptoCard : Claim7 := { stood := { row := lexerSolidUptoRow, standIns := [], harness := (true, "aa1a665fe7f75f5948b397235bc8f99f2cc9bb8bff79247a33b464c84c0b0d51"), looks := true }, kinds := [], alts := [], laidByText := true, laidKinds := [.listed, .data], laidTests := true, laidLooks := .later }
def LexerSolidUptoCardSaid : Prop := Claim7.holds Tryd.pinned (.plain (OpenSpec.upto lexerSolidSpec)) lexerSolidUptoCard

/-- THE SECOND FORM's CARD OF 'ontimelaw11.LexerFull'. -/
def lexerFullUptoCard : Claim7 := { stood := { row := lexerFullUptoRow, standIns := [], harness := (true, "aa1a665fe7f75f5948b397235bc8f99f2cc9bb8bff79247a33b464c84c0b0d51"), looks := true }, kinds := [], alts := [], laidByText := true, laidKinds := [.listed, .data], laidTests := true, laidLooks := .later }
def LexerFullUptoCardSaid : Prop := Claim7.holds Tryd.pinned (.plain (OpenSpec.upto lexerFullSpec)) lexerFullUptoCard

/-- THE SECOND FORM's CARD OF 'ontimelaw14.PrinterParts'. -/
def printerPartsUptoCard : Claim7 := { stood := { row := printerPartsUptoRow, standIns := [], harness := (true, "aa1a665fe7f75f5948b397235bc8f99f2cc9bb8bff79247a33b464c84c0b0d51"), looks := true }, kinds := [], alts := [], laidByText := true, laidKinds := [.data, .data, .data, .data, .listed, .data], laidTests := true, laidLooks := .later }
def PrinterPartsUptoCardSaid : Prop := Claim7.holds Tryd.pinned (.plain (OpenSpec.upto printerPartsSpec)) printerPartsUptoCard

/-- THE SECOND FORM's CARD OF 'ontimelaw14.PrinterLines'. -/
def printerLinesUptoCard : Claim7 := { stood := { row := printerLinesUptoRow, standIns := [], harness := (true, "aa1a665fe7f75f5948b397235bc8f99f2cc9bb8bff79247a33b464c84c0b0d51"), looks := true }, kinds := [], alts := [], laidByText := true, laidKinds := [.data, .data, .data, .data, .listed, .data], laidTests := true, laidLooks := .later }
def PrinterLinesUptoCardSaid : Prop := Claim7.holds Tryd.pinned (.plain (OpenSpec.upto printerLinesSpec)) printerLinesUptoCard

/-- THE SECOND FORM's CARD OF 'ontimelaw13.ParserLevels'. -/
def parserLevelsUptoCard : Claim7 := { stood := { row := parserLevelsUptoRow, standIns := [], harness := (true, "aa1a665fe7f75f5948b397235bc8f99f2cc9bb8bff79247a33b464c84c0b0d51"), looks := true }, kinds := [], alts := [], laidByText := true, laidKinds := [.data, .data, .data, .data, .sentinel, .sentinel, .listed, .data], laidTests := true, laidLooks := .later }
def ParserLevelsUptoCardSaid : Prop := Claim7.holds Tryd.pinned (.plain (OpenSpec.upto parserLevelsSpec)) parserLevelsUptoCard

/-- THE SECOND FORM's CARD OF 'ontimelaw13.ParserNumbers'. -/
def parserNumbersUptoCard : Claim7 := { stood := { row := parserNumbersUptoRow, standIns := [], harness := (true, "aa1a665fe7f75f5948b397235bc8f99f2cc9bb8bff79247a33b464c84c0b0d51"), looks := true }, kinds := [], alts := [], laidByText := true, laidKinds := [.data, .data, .data, .data, .sentinel, .sentinel, .listed, .data], laidTests := true, laidLooks := .later }
def ParserNumbersUptoCardSaid : Prop := Claim7.holds Tryd.pinned (.plain (OpenSpec.upto parserNumbersSpec)) parserNumbersUptoCard

/-- THE SECOND FORM's CARD OF 'ontimelaw13.ParserLimits'. -/
def parserLimitsUptoCard : Claim7 := { stood := { row := parserLimitsUptoRow, standIns := [], harness := (true, "aa1a665fe7f75f5948b397235bc8f99f2cc9bb8bff79247a33b464c84c0b0d51"), looks := true }, kinds := [], alts := [], laidByText := true, laidKinds := [.data, .data, .data, .data, .sentinel, .sentinel, .listed, .data], laidTests := true, laidLooks := .later }
def ParserLimitsUptoCardSaid : Prop := Claim7.holds Tryd.pinned (.plain (OpenSpec.upto parserLimitsSpec)) parserLimitsUptoCard
end Rows
end Go.Proofs.YtidfhfcplcfcmaaDoor
