/-
  DERIVED. GIVEN WITH THE SEED: THE CARDS: each row of YtlhfickniegooaaDoorRows.lean that lists a variable, with what it lists TIED to the program's text (the seventh form; the later family's looks); each row that meets fmt, with fmt's text TOLD by the authors' own Lean function (tested against real Go, not proved from fmt's source: count such statements apart). THE CARD IS WHAT COUNTS. Prove the row's statement (the work); the ties are given (YtlhfickniegooaaDoorTie.lean); close each card by the builder's one call (the guide's Derived/Test/ToyasCard.lean, 'card_holds'). Laid BY PROGRAM, IN A SANDBOX (cutbox-door.mjs). By AI agents, Wed Nov 11 2026. No macro, syntax, notation, axiom, sorry.
-/
import Derived.Test.YtlhfickniegooaaDoorRows
import GoSem.ClaimSeven
namespace Go.Proofs.YtlhfickniegooaaDoor
namespace Rows

/-- THE TIED CARD OF 'guiselaw9.KeyedNever'. -/
def keyedNeverCard : Claim7 := { stood := { row := keyedNeverRow, standIns := [], harness := (true, "6401bd9b7d427c7eca91392c0da50431ad06c23224a34d3c2895f8ce55712e77"), looks := true }, kinds := [], alts := [], laidByText := true, laidKinds := [.data], laidTests := true, laidLooks := .later }
def KeyedNeverCardSaid : Prop := Claim7.holds Tryd.pinned (.plain (OpenSpec.ofChange keyedNeverSpec)) keyedNeverCard

/-- THE TIED CARD OF 'guiselaw9.KeyedPlays'. -/
def keyedPlaysCard : Claim7 := { stood := { row := keyedPlaysRow, standIns := [], harness := (true, "6401bd9b7d427c7eca91392c0da50431ad06c23224a34d3c2895f8ce55712e77"), looks := true }, kinds := [], alts := [], laidByText := true, laidKinds := [.data], laidTests := true, laidLooks := .later }
def KeyedPlaysCardSaid : Prop := Claim7.holds Tryd.pinned (.plain (OpenSpec.ofChange keyedPlaysSpec)) keyedPlaysCard

/-- THE TIED CARD OF 'guiselaw9.KeyedModel'. -/
def keyedModelCard : Claim7 := { stood := { row := keyedModelRow, standIns := [], harness := (true, "6401bd9b7d427c7eca91392c0da50431ad06c23224a34d3c2895f8ce55712e77"), looks := true }, kinds := [], alts := [], laidByText := true, laidKinds := [.data], laidTests := true, laidLooks := .later }
def KeyedModelCardSaid : Prop := Claim7.holds Tryd.pinned (.plain (OpenSpec.ofChange keyedModelSpec)) keyedModelCard

/-- THE SECOND FORM's CARD OF 'guiselaw9.KeyedNever'. -/
def keyedNeverUptoCard : Claim7 := { stood := { row := keyedNeverUptoRow, standIns := [], harness := (true, "6401bd9b7d427c7eca91392c0da50431ad06c23224a34d3c2895f8ce55712e77"), looks := true }, kinds := [], alts := [], laidByText := true, laidKinds := [.data], laidTests := true, laidLooks := .later }
def KeyedNeverUptoCardSaid : Prop := Claim7.holds Tryd.pinned (.plain (OpenSpec.upto keyedNeverSpec)) keyedNeverUptoCard

/-- THE SECOND FORM's CARD OF 'guiselaw9.KeyedPlays'. -/
def keyedPlaysUptoCard : Claim7 := { stood := { row := keyedPlaysUptoRow, standIns := [], harness := (true, "6401bd9b7d427c7eca91392c0da50431ad06c23224a34d3c2895f8ce55712e77"), looks := true }, kinds := [], alts := [], laidByText := true, laidKinds := [.data], laidTests := true, laidLooks := .later }
def KeyedPlaysUptoCardSaid : Prop := Claim7.holds Tryd.pinned (.plain (OpenSpec.upto keyedPlaysSpec)) keyedPlaysUptoCard

/-- THE SECOND FORM's CARD OF 'guiselaw9.KeyedModel'. -/
def keyedModelUptoCard : Claim7 := { stood := { row := keyedModelUptoRow, standIns := [], harness := (true, "6401bd9b7d427c7eca91392c0da50431ad06c23224a34d3c2895f8ce55712e77"), looks := true }, kinds := [], alts := [], laidByText := true, laidKinds := [.data], laidTests := true, laidLooks := .later }
def KeyedModelUptoCardSaid : Prop := Claim7.holds Tryd.pinned (.plain (OpenSpec.upto keyedModelSpec)) keyedModelUptoCard
end Rows
end Go.Proofs.YtlhfickniegooaaDoor
