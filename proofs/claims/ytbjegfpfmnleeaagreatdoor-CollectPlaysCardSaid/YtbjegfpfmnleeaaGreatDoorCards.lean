/-
  DERIVED. GIVEN WITH THE SEED: THE CARDS: each row of YtbjegfpfmnleeaaGreatDoorRows.lean that lists a variable, with what it lists TIED to the program's text (the seventh form; the later family's looks); each row that meets fmt, with fmt's text TOLD by the authors' own Lean function (tested against real Go, not proved from fmt's source: count such statements apart). THE CARD IS WHAT COUNTS. Prove the row's statement (the work); the ties are given (YtbjegfpfmnleeaaGreatDoorTie.lean); close each card by the builder's one call (the guide's Derived/Test/ToyasCard.lean, 'card_holds'). Laid BY PROGRAM, IN A SANDBOX (cutbox-door.mjs). By AI agents, Wed Nov 11 2026. No macro, syntax, notation, axiom, sorry.
-/
import Derived.Test.YtbjegfpfmnleeaaGreatDoorRows
import GoSem.ClaimSeven
namespace Go.Proofs.YtbjegfpfmnleeaaGreatDoor
namespace Rows

/-- THE TIED CARD OF 'guiselaw18.CollectPlays'. -/
def collectPlaysCard : Claim7 := { stood := { row := collectPlaysRow, standIns := [], harness := (true, "8905e66f49094f71418e302701b477834554a86a30ecaec436f0193c6c20f494"), looks := true }, kinds := [], alts := [], laidByText := true, laidKinds := [.data, .data, .data, .data], laidTests := true, laidLooks := .later }
def CollectPlaysCardSaid : Prop := Claim7.holds Tryz.pinned (.plain (OpenSpec.ofChange collectPlaysSpec)) collectPlaysCard

/-- THE TIED CARD OF 'guiselaw18.CollectMore'. -/
def collectMoreCard : Claim7 := { stood := { row := collectMoreRow, standIns := [], harness := (true, "8905e66f49094f71418e302701b477834554a86a30ecaec436f0193c6c20f494"), looks := true }, kinds := [], alts := [], laidByText := true, laidKinds := [.data, .data, .data, .data], laidTests := true, laidLooks := .later }
def CollectMoreCardSaid : Prop := Claim7.holds Tryz.pinned (.plain (OpenSpec.ofChange collectMoreSpec)) collectMoreCard

/-- THE TIED CARD OF 'guiselaw18.CollectWay'. -/
def collectWayCard : Claim7 := { stood := { row := collectWayRow, standIns := [], harness := (true, "8905e66f49094f71418e302701b477834554a86a30ecaec436f0193c6c20f494"), looks := true }, kinds := [], alts := [], laidByText := true, laidKinds := [.data, .data, .data, .data], laidTests := true, laidLooks := .later }
def CollectWayCardSaid : Prop := Claim7.holds Tryz.pinned (.plain (OpenSpec.ofChange collectWaySpec)) collectWayCard

/-- THE SECOND FORM's CARD OF 'guiselaw18.CollectPlays'. -/
def collectPlaysUptoCard : Claim7 := { stood := { row := collectPlaysUptoRow, standIns := [], harness := (true, "8905e66f49094f71418e302701b477834554a86a30ecaec436f0193c6c20f494"), looks := true }, kinds := [], alts := [], laidByText := true, laidKinds := [.data, .data, .data, .data], laidTests := true, laidLooks := .later }
def CollectPlaysUptoCardSaid : Prop := Claim7.holds Tryz.pinned (.plain (OpenSpec.upto collectPlaysSpec)) collectPlaysUptoCard

/-- THE SECOND FORM's CARD OF 'guiselaw18.CollectMore'. -/
def collectMoreUptoCard : Claim7 := { stood := { row := collectMoreUptoRow, standIns := [], harness := (true, "8905e66f49094f71418e302701b477834554a86a30ecaec436f0193c6c20f494"), looks := true }, kinds := [], alts := [], laidByText := true, laidKinds := [.data, .data, .data, .data], laidTests := true, laidLooks := .later }
def CollectMoreUptoCardSaid : Prop := Claim7.holds Tryz.pinned (.plain (OpenSpec.upto collectMoreSpec)) collectMoreUptoCard

/-- THE SECOND FORM's CARD OF 'guiselaw18.CollectWay'. -/
def collectWayUptoCard : Claim7 := { stood := { row := collectWayUptoRow, standIns := [], harness := (true, "8905e66f49094f71418e302701b477834554a86a30ecaec436f0193c6c20f494"), looks := true }, kinds := [], alts := [], laidByText := true, laidKinds := [.data, .data, .data, .data], laidTests := true, laidLooks := .later }
def CollectWayUptoCardSaid : Prop := Claim7.holds Tryz.pinned (.plain (OpenSpec.upto collectWaySpec)) collectWayUptoCard
end Rows
end Go.Proofs.YtbjegfpfmnleeaaGreatDoor
