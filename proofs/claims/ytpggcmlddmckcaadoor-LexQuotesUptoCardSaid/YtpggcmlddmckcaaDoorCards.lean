/-
  DERIVED. GIVEN WITH THE SEED: THE CARDS: each row of YtpggcmlddmckcaaDoorRows.lean that lists a variable, with what it lists TIED to the program's text (the seventh form; the later family's looks); each row that meets fmt, with fmt's text TOLD by the authors' own Lean function (tested against real Go, not proved from fmt's source: count such statements apart). THE CARD IS WHAT COUNTS. Prove the row's statement (the work); the ties are given (YtpggcmlddmckcaaDoorTie.lean); close each card by the builder's one call (the guide's Derived/Test/ToyasCard.lean, 'card_holds'). Laid BY PROGRAM, IN A SANDBOX (cutbox-door.mjs). By AI agents, Wed Nov 11 2026. No macro, syntax, notation, axiom, sorry.
-/
import Derived.Test.YtpggcmlddmckcaaDoorRows
import GoSem.ClaimSeven
namespace Go.Proofs.YtpggcmlddmckcaaDoor
namespace Rows

/-- THE TIED CARD OF 'guiselaw1.LexScans'. -/
def lexScansCard : Claim7 := { stood := { row := lexScansRow, standIns := [], harness := (true, "3fd67c3815604bdc55c5409ce18795f1ec40908bb3324602324d16f747b72420"), looks := true }, kinds := [], alts := [], laidByText := true, laidKinds := [.listed, .data, .data], laidTests := true, laidLooks := .later }
def LexScansCardSaid : Prop := Claim7.holds Tryd.pinned (.plain (OpenSpec.ofChange lexScansSpec)) lexScansCard

/-- THE TIED CARD OF 'guiselaw1.LexQuotes'. -/
def lexQuotesCard : Claim7 := { stood := { row := lexQuotesRow, standIns := [], harness := (true, "3fd67c3815604bdc55c5409ce18795f1ec40908bb3324602324d16f747b72420"), looks := true }, kinds := [], alts := [], laidByText := true, laidKinds := [.listed, .data, .data], laidTests := true, laidLooks := .later }
def LexQuotesCardSaid : Prop := Claim7.holds Tryd.pinned (.plain (OpenSpec.ofChange lexQuotesSpec)) lexQuotesCard

/-- THE TIED CARD OF 'guiselaw1.LexWords'. -/
def lexWordsCard : Claim7 := { stood := { row := lexWordsRow, standIns := [], harness := (true, "3fd67c3815604bdc55c5409ce18795f1ec40908bb3324602324d16f747b72420"), looks := true }, kinds := [], alts := [], laidByText := true, laidKinds := [.listed, .data, .data], laidTests := true, laidLooks := .later }
def LexWordsCardSaid : Prop := Claim7.holds Tryd.pinned (.plain (OpenSpec.ofChange lexWordsSpec)) lexWordsCard

/-- THE TIED CARD OF 'guiselaw1.LexBack'. -/
def lexBackCard : Claim7 := { stood := { row := lexBackRow, standIns := [], harness := (true, "3fd67c3815604bdc55c5409ce18795f1ec40908bb3324602324d16f747b72420"), looks := true }, kinds := [], alts := [], laidByText := true, laidKinds := [.listed, .data, .data], laidTests := true, laidLooks := .later }
def LexBackCardSaid : Prop := Claim7.holds Tryd.pinned (.plain (OpenSpec.ofChange lexBackSpec)) lexBackCard

/-- THE TIED CARD OF 'guiselaw1.LexStands'. -/
def lexStandsCard : Claim7 := { stood := { row := lexStandsRow, standIns := [], harness := (true, "3fd67c3815604bdc55c5409ce18795f1ec40908bb3324602324d16f747b72420"), looks := true }, kinds := [], alts := [], laidByText := true, laidKinds := [.listed, .data, .data], laidTests := true, laidLooks := .later }
def LexStandsCardSaid : Prop := Claim7.holds Tryd.pinned (.plain (OpenSpec.ofChange lexStandsSpec)) lexStandsCard

/-- THE TIED CARD OF 'guiselaw1.LexLines'. -/
def lexLinesCard : Claim7 := { stood := { row := lexLinesRow, standIns := [], harness := (true, "3fd67c3815604bdc55c5409ce18795f1ec40908bb3324602324d16f747b72420"), looks := true }, kinds := [], alts := [], laidByText := true, laidKinds := [.listed, .data, .data], laidTests := true, laidLooks := .later }
def LexLinesCardSaid : Prop := Claim7.holds Tryd.pinned (.plain (OpenSpec.ofChange lexLinesSpec)) lexLinesCard

/-- THE TIED CARD OF 'guiselaw1.LexBlanks'. -/
def lexBlanksCard : Claim7 := { stood := { row := lexBlanksRow, standIns := [], harness := (true, "3fd67c3815604bdc55c5409ce18795f1ec40908bb3324602324d16f747b72420"), looks := true }, kinds := [], alts := [], laidByText := true, laidKinds := [.listed, .data, .data], laidTests := true, laidLooks := .later }
def LexBlanksCardSaid : Prop := Claim7.holds Tryd.pinned (.plain (OpenSpec.ofChange lexBlanksSpec)) lexBlanksCard

/-- THE SECOND FORM's CARD OF 'guiselaw1.LexScans'. -/
def lexScansUptoCard : Claim7 := { stood := { row := lexScansUptoRow, standIns := [], harness := (true, "3fd67c3815604bdc55c5409ce18795f1ec40908bb3324602324d16f747b72420"), looks := true }, kinds := [], alts := [], laidByText := true, laidKinds := [.listed, .data, .data], laidTests := true, laidLooks := .later }
def LexScansUptoCardSaid : Prop := Claim7.holds Tryd.pinned (.plain (OpenSpec.upto lexScansSpec)) lexScansUptoCard

/-- THE SECOND FORM's CARD OF 'guiselaw1.LexQuotes'. -/
def lexQuotesUptoCard : Claim7 := { stood := { row := lexQuotesUptoRow, standIns := [], harness := (true, "3fd67c3815604bdc55c5409ce18795f1ec40908bb3324602324d16f747b72420"), looks := true }, kinds := [], alts := [], laidByText := true, laidKinds := [.listed, .data, .data], laidTests := true, laidLooks := .later }
def LexQuotesUptoCardSaid : Prop := Claim7.holds Tryd.pinned (.plain (OpenSpec.upto lexQuotesSpec)) lexQuotesUptoCard

/-- THE SECOND FORM's CARD OF 'guiselaw1.LexWords'. -/
def lexWordsUptoCard : Claim7 := { stood := { row := lexWordsUptoRow, standIns := [], harness := (true, "3fd67c3815604bdc55c5409ce18795f1ec40908bb3324602324d16f747b72420"), looks := true }, kinds := [], alts := [], laidByText := true, laidKinds := [.listed, .data, .data], laidTests := true, laidLooks := .later }
def LexWordsUptoCardSaid : Prop := Claim7.holds Tryd.pinned (.plain (OpenSpec.upto lexWordsSpec)) lexWordsUptoCard

/-- THE SECOND FORM's CARD OF 'guiselaw1.LexBack'. -/
def lexBackUptoCard : Claim7 := { stood := { row := lexBackUptoRow, standIns := [], harness := (true, "3fd67c3815604bdc55c5409ce18795f1ec40908bb3324602324d16f747b72420"), looks := true }, kinds := [], alts := [], laidByText := true, laidKinds := [.listed, .data, .data], laidTests := true, laidLooks := .later }
def LexBackUptoCardSaid : Prop := Claim7.holds Tryd.pinned (.plain (OpenSpec.upto lexBackSpec)) lexBackUptoCard

/-- THE SECOND FORM's CARD OF 'guiselaw1.LexStands'. -/
def lexStandsUptoCard : Claim7 := { stood := { row := lexStandsUptoRow, standIns := [], harness := (true, "3fd67c3815604bdc55c5409ce18795f1ec40908bb3324602324d16f747b72420"), looks := true }, kinds := [], alts := [], laidByText := true, laidKinds := [.listed, .data, .data], laidTests := true, laidLooks := .later }
def LexStandsUptoCardSaid : Prop := Claim7.holds Tryd.pinned (.plain (OpenSpec.upto lexStandsSpec)) lexStandsUptoCard

/-- THE SECOND FORM's CARD OF 'guiselaw1.LexLines'. -/
def lexLinesUptoCard : Claim7 := { stood := { row := lexLinesUptoRow, standIns := [], harness := (true, "3fd67c3815604bdc55c5409ce18795f1ec40908bb3324602324d16f747b72420"), looks := true }, kinds := [], alts := [], laidByText := true, laidKinds := [.listed, .data, .data], laidTests := true, laidLooks := .later }
def LexLinesUptoCardSaid : Prop := Claim7.holds Tryd.pinned (.plain (OpenSpec.upto lexLinesSpec)) lexLinesUptoCard

/-- THE SECOND FORM's CARD OF 'guiselaw1.LexBlanks'. -/
def lexBlanksUptoCard : Claim7 := { stood := { row := lexBlanksUptoRow, standIns := [], harness := (true, "3fd67c3815604bdc55c5409ce18795f1ec40908bb3324602324d16f747b72420"), looks := true }, kinds := [], alts := [], laidByText := true, laidKinds := [.listed, .data, .data], laidTests := true, laidLooks := .later }
def LexBlanksUptoCardSaid : Prop := Claim7.holds Tryd.pinned (.plain (OpenSpec.upto lexBlanksSpec)) lexBlanksUptoCard
end Rows
end Go.Proofs.YtpggcmlddmckcaaDoor
