/-
  DERIVED. GIVEN WITH THE SEED: THE CARDS: each row of YthdmmhiifkebeaaDoorRows.lean that lists a variable, with what it lists TIED to the program's text (the seventh form; the later family's looks); each row that meets fmt, with fmt's text TOLD by the authors' own Lean function (tested against real Go, not proved from fmt's source: count such statements apart). THE CARD IS WHAT COUNTS. Prove the row's statement (the work); the ties are given (YthdmmhiifkebeaaDoorTie.lean); close each card by the builder's one call (the guide's Derived/Test/ToyasCard.lean, 'card_holds'). Laid BY PROGRAM, IN A SANDBOX (cutbox-door.mjs). By AI agents, Wed Nov 11 2026. No macro, syntax, notation, axiom, sorry.
-/
import Derived.Test.YthdmmhiifkebeaaDoorRows
import GoSem.ClaimSeven
namespace Go.Proofs.YthdmmhiifkebeaaDoor
namespace Rows

/-- THE TIED CARD OF 'guiselaw7.ValueRight'. -/
def valueRightCard : Claim7 := { stood := { row := valueRightRow, standIns := [], harness := (true, "107596375e8081ae93190c68f88ae6b4a200bb5598bcd39a4fe85dd7cfb9ecbd"), looks := true }, kinds := [], alts := [], laidByText := true, laidKinds := [.data], laidTests := true, laidLooks := .later }
def ValueRightCardSaid : Prop := Claim7.holds Tryd.pinned (.plain (OpenSpec.ofChange valueRightSpec)) valueRightCard

/-- THE TIED CARD OF 'guiselaw7.ValueRanks'. -/
def valueRanksCard : Claim7 := { stood := { row := valueRanksRow, standIns := [], harness := (true, "107596375e8081ae93190c68f88ae6b4a200bb5598bcd39a4fe85dd7cfb9ecbd"), looks := true }, kinds := [], alts := [], laidByText := true, laidKinds := [.data], laidTests := true, laidLooks := .later }
def ValueRanksCardSaid : Prop := Claim7.holds Tryd.pinned (.plain (OpenSpec.ofChange valueRanksSpec)) valueRanksCard

/-- THE TIED CARD OF 'guiselaw7.ValueEquals'. -/
def valueEqualsCard : Claim7 := { stood := { row := valueEqualsRow, standIns := [], harness := (true, "107596375e8081ae93190c68f88ae6b4a200bb5598bcd39a4fe85dd7cfb9ecbd"), looks := true }, kinds := [], alts := [], laidByText := true, laidKinds := [.data], laidTests := true, laidLooks := .later }
def ValueEqualsCardSaid : Prop := Claim7.holds Tryd.pinned (.plain (OpenSpec.ofChange valueEqualsSpec)) valueEqualsCard

/-- THE TIED CARD OF 'guiselaw7.ValueKeys'. -/
def valueKeysCard : Claim7 := { stood := { row := valueKeysRow, standIns := [], harness := (true, "107596375e8081ae93190c68f88ae6b4a200bb5598bcd39a4fe85dd7cfb9ecbd"), looks := true }, kinds := [], alts := [], laidByText := true, laidKinds := [.data], laidTests := true, laidLooks := .later }
def ValueKeysCardSaid : Prop := Claim7.holds Tryd.pinned (.plain (OpenSpec.ofChange valueKeysSpec)) valueKeysCard

/-- THE TIED CARD OF 'guiselaw7.ValueSames'. -/
def valueSamesCard : Claim7 := { stood := { row := valueSamesRow, standIns := [], harness := (true, "107596375e8081ae93190c68f88ae6b4a200bb5598bcd39a4fe85dd7cfb9ecbd"), looks := true }, kinds := [], alts := [], laidByText := true, laidKinds := [.data], laidTests := true, laidLooks := .later }
def ValueSamesCardSaid : Prop := Claim7.holds Tryd.pinned (.plain (OpenSpec.ofChange valueSamesSpec)) valueSamesCard

/-- THE TIED CARD OF 'guiselaw7.ValueAlike'. -/
def valueAlikeCard : Claim7 := { stood := { row := valueAlikeRow, standIns := [], harness := (true, "107596375e8081ae93190c68f88ae6b4a200bb5598bcd39a4fe85dd7cfb9ecbd"), looks := true }, kinds := [], alts := [], laidByText := true, laidKinds := [.data], laidTests := true, laidLooks := .later }
def ValueAlikeCardSaid : Prop := Claim7.holds Tryd.pinned (.plain (OpenSpec.ofChange valueAlikeSpec)) valueAlikeCard

/-- THE TIED CARD OF 'guiselaw7.ValueOrder'. -/
def valueOrderCard : Claim7 := { stood := { row := valueOrderRow, standIns := [], harness := (true, "107596375e8081ae93190c68f88ae6b4a200bb5598bcd39a4fe85dd7cfb9ecbd"), looks := true }, kinds := [], alts := [], laidByText := true, laidKinds := [.data], laidTests := true, laidLooks := .later }
def ValueOrderCardSaid : Prop := Claim7.holds Tryd.pinned (.plain (OpenSpec.ofChange valueOrderSpec)) valueOrderCard

/-- THE TIED CARD OF 'guiselaw7.ValueNone'. -/
def valueNoneCard : Claim7 := { stood := { row := valueNoneRow, standIns := [], harness := (true, "107596375e8081ae93190c68f88ae6b4a200bb5598bcd39a4fe85dd7cfb9ecbd"), looks := true }, kinds := [], alts := [], laidByText := true, laidKinds := [.data], laidTests := true, laidLooks := .later }
def ValueNoneCardSaid : Prop := Claim7.holds Tryd.pinned (.plain (OpenSpec.ofChange valueNoneSpec)) valueNoneCard

/-- THE TIED CARD OF 'guiselaw7.ValueOf'. -/
def valueOfCard : Claim7 := { stood := { row := valueOfRow, standIns := [], harness := (true, "107596375e8081ae93190c68f88ae6b4a200bb5598bcd39a4fe85dd7cfb9ecbd"), looks := true }, kinds := [], alts := [], laidByText := true, laidKinds := [.data], laidTests := true, laidLooks := .later }
def ValueOfCardSaid : Prop := Claim7.holds Tryd.pinned (.plain (OpenSpec.ofChange valueOfSpec)) valueOfCard

/-- THE TIED CARD OF 'guiselaw9.KeyedNever'. -/
def keyedNeverCard : Claim7 := { stood := { row := keyedNeverRow, standIns := [], harness := (true, "107596375e8081ae93190c68f88ae6b4a200bb5598bcd39a4fe85dd7cfb9ecbd"), looks := true }, kinds := [], alts := [], laidByText := true, laidKinds := [.data], laidTests := true, laidLooks := .later }
def KeyedNeverCardSaid : Prop := Claim7.holds Tryd.pinned (.plain (OpenSpec.ofChange keyedNeverSpec)) keyedNeverCard

/-- THE TIED CARD OF 'guiselaw9.KeyedPlays'. -/
def keyedPlaysCard : Claim7 := { stood := { row := keyedPlaysRow, standIns := [], harness := (true, "107596375e8081ae93190c68f88ae6b4a200bb5598bcd39a4fe85dd7cfb9ecbd"), looks := true }, kinds := [], alts := [], laidByText := true, laidKinds := [.data], laidTests := true, laidLooks := .later }
def KeyedPlaysCardSaid : Prop := Claim7.holds Tryd.pinned (.plain (OpenSpec.ofChange keyedPlaysSpec)) keyedPlaysCard

/-- THE TIED CARD OF 'guiselaw9.KeyedModel'. -/
def keyedModelCard : Claim7 := { stood := { row := keyedModelRow, standIns := [], harness := (true, "107596375e8081ae93190c68f88ae6b4a200bb5598bcd39a4fe85dd7cfb9ecbd"), looks := true }, kinds := [], alts := [], laidByText := true, laidKinds := [.data], laidTests := true, laidLooks := .later }
def KeyedModelCardSaid : Prop := Claim7.holds Tryd.pinned (.plain (OpenSpec.ofChange keyedModelSpec)) keyedModelCard

/-- THE SECOND FORM's CARD OF 'guiselaw7.ValueRight'. -/
def valueRightUptoCard : Claim7 := { stood := { row := valueRightUptoRow, standIns := [], harness := (true, "107596375e8081ae93190c68f88ae6b4a200bb5598bcd39a4fe85dd7cfb9ecbd"), looks := true }, kinds := [], alts := [], laidByText := true, laidKinds := [.data], laidTests := true, laidLooks := .later }
def ValueRightUptoCardSaid : Prop := Claim7.holds Tryd.pinned (.plain (OpenSpec.upto valueRightSpec)) valueRightUptoCard

/-- THE SECOND FORM's CARD OF 'guiselaw7.ValueRanks'. -/
def valueRanksUptoCard : Claim7 := { stood := { row := valueRanksUptoRow, standIns := [], harness := (true, "107596375e8081ae93190c68f88ae6b4a200bb5598bcd39a4fe85dd7cfb9ecbd"), looks := true }, kinds := [], alts := [], laidByText := true, laidKinds := [.data], laidTests := true, laidLooks := .later }
def ValueRanksUptoCardSaid : Prop := Claim7.holds Tryd.pinned (.plain (OpenSpec.upto valueRanksSpec)) valueRanksUptoCard

/-- THE SECOND FORM's CARD OF 'guiselaw7.ValueEquals'. -/
def valueEqualsUptoCard : Claim7 := { stood := { row := valueEqualsUptoRow, standIns := [], harness := (true, "107596375e8081ae93190c68f88ae6b4a200bb5598bcd39a4fe85dd7cfb9ecbd"), looks := true }, kinds := [], alts := [], laidByText := true, laidKinds := [.data], laidTests := true, laidLooks := .later }
def ValueEqualsUptoCardSaid : Prop := Claim7.holds Tryd.pinned (.plain (OpenSpec.upto valueEqualsSpec)) valueEqualsUptoCard

/-- THE SECOND FORM's CARD OF 'guiselaw7.ValueKeys'. -/
def valueKeysUptoCard : Claim7 := { stood := { row := valueKeysUptoRow, standIns := [], harness := (true, "107596375e8081ae93190c68f88ae6b4a200bb5598bcd39a4fe85dd7cfb9ecbd"), looks := true }, kinds := [], alts := [], laidByText := true, laidKinds := [.data], laidTests := true, laidLooks := .later }
def ValueKeysUptoCardSaid : Prop := Claim7.holds Tryd.pinned (.plain (OpenSpec.upto valueKeysSpec)) valueKeysUptoCard

/-- THE SECOND FORM's CARD OF 'guiselaw7.ValueSames'. -/
def valueSamesUptoCard : Claim7 := { stood := { row := valueSamesUptoRow, standIns := [], harness := (true, "107596375e8081ae93190c68f88ae6b4a200bb5598bcd39a4fe85dd7cfb9ecbd"), looks := true }, kinds := [], alts := [], laidByText := true, laidKinds := [.data], laidTests := true, laidLooks := .later }
def ValueSamesUptoCardSaid : Prop := Claim7.holds Tryd.pinned (.plain (OpenSpec.upto valueSamesSpec)) valueSamesUptoCard

/-- THE SECOND FORM's CARD OF 'guiselaw7.ValueAlike'. -/
def valueAlikeUptoCard : Claim7 := { stood := { row := valueAlikeUptoRow, standIns := [], harness := (true, "107596375e8081ae93190c68f88ae6b4a200bb5598bcd39a4fe85dd7cfb9ecbd"), looks := true }, kinds := [], alts := [], laidByText := true, laidKinds := [.data], laidTests := true, laidLooks := .later }
def ValueAlikeUptoCardSaid : Prop := Claim7.holds Tryd.pinned (.plain (OpenSpec.upto valueAlikeSpec)) valueAlikeUptoCard

/-- THE SECOND FORM's CARD OF 'guiselaw7.ValueOrder'. -/
def valueOrderUptoCard : Claim7 := { stood := { row := valueOrderUptoRow, standIns := [], harness := (true, "107596375e8081ae93190c68f88ae6b4a200bb5598bcd39a4fe85dd7cfb9ecbd"), looks := true }, kinds := [], alts := [], laidByText := true, laidKinds := [.data], laidTests := true, laidLooks := .later }
def ValueOrderUptoCardSaid : Prop := Claim7.holds Tryd.pinned (.plain (OpenSpec.upto valueOrderSpec)) valueOrderUptoCard

/-- THE SECOND FORM's CARD OF 'guiselaw7.ValueNone'. -/
def valueNoneUptoCard : Claim7 := { stood := { row := valueNoneUptoRow, standIns := [], harness := (true, "107596375e8081ae93190c68f88ae6b4a200bb5598bcd39a4fe85dd7cfb9ecbd"), looks := true }, kinds := [], alts := [], laidByText := true, laidKinds := [.data], laidTests := true, laidLooks := .later }
def ValueNoneUptoCardSaid : Prop := Claim7.holds Tryd.pinned (.plain (OpenSpec.upto valueNoneSpec)) valueNoneUptoCard

/-- THE SECOND FORM's CARD OF 'guiselaw7.ValueOf'. -/
def valueOfUptoCard : Claim7 := { stood := { row := valueOfUptoRow, standIns := [], harness := (true, "107596375e8081ae93190c68f88ae6b4a200bb5598bcd39a4fe85dd7cfb9ecbd"), looks := true }, kinds := [], alts := [], laidByText := true, laidKinds := [.data], laidTests := true, laidLooks := .later }
def ValueOfUptoCardSaid : Prop := Claim7.holds Tryd.pinned (.plain (OpenSpec.upto valueOfSpec)) valueOfUptoCard

/-- THE SECOND FORM's CARD OF 'guiselaw9.KeyedNever'. -/
def keyedNeverUptoCard : Claim7 := { stood := { row := keyedNeverUptoRow, standIns := [], harness := (true, "107596375e8081ae93190c68f88ae6b4a200bb5598bcd39a4fe85dd7cfb9ecbd"), looks := true }, kinds := [], alts := [], laidByText := true, laidKinds := [.data], laidTests := true, laidLooks := .later }
def KeyedNeverUptoCardSaid : Prop := Claim7.holds Tryd.pinned (.plain (OpenSpec.upto keyedNeverSpec)) keyedNeverUptoCard

/-- THE SECOND FORM's CARD OF 'guiselaw9.KeyedPlays'. -/
def keyedPlaysUptoCard : Claim7 := { stood := { row := keyedPlaysUptoRow, standIns := [], harness := (true, "107596375e8081ae93190c68f88ae6b4a200bb5598bcd39a4fe85dd7cfb9ecbd"), looks := true }, kinds := [], alts := [], laidByText := true, laidKinds := [.data], laidTests := true, laidLooks := .later }
def KeyedPlaysUptoCardSaid : Prop := Claim7.holds Tryd.pinned (.plain (OpenSpec.upto keyedPlaysSpec)) keyedPlaysUptoCard

/-- THE SECOND FORM's CARD OF 'guiselaw9.KeyedModel'. -/
def keyedModelUptoCard : Claim7 := { stood := { row := keyedModelUptoRow, standIns := [], harness := (true, "107596375e8081ae93190c68f88ae6b4a200bb5598bcd39a4fe85dd7cfb9ecbd"), looks := true }, kinds := [], alts := [], laidByText := true, laidKinds := [.data], laidTests := true, laidLooks := .later }
def KeyedModelUptoCardSaid : Prop := Claim7.holds Tryd.pinned (.plain (OpenSpec.upto keyedModelSpec)) keyedModelUptoCard
end Rows
end Go.Proofs.YthdmmhiifkebeaaDoor
