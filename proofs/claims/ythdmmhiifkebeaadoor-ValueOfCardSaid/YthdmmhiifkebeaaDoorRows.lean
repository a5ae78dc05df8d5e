/-
  NARROWER THAN 'FOR EVERY INPUT', by the rows' own cells (each row's printed sentence says how): ValueRight: loops, laid · ValueRanks: loops, laid · ValueEquals: loops, laid · ValueKeys: loops, laid · ValueSames: loops, laid · ValueAlike: laid · ValueOrder: laid · ValueNone: laid · ValueOf: loops, laid · KeyedNever: laid · KeyedPlays: loops, laid · KeyedModel: laid.
  DERIVED. THE GIVEN ROWS OF THIS SEAT. 12 by the template 'for every input the law returns true; each argument reads behind the call as it read before'; 0 by the template 'total and deterministic' (their statements: YthdmmhiifkebeaaDoorTotals.lean).
  GIVEN WITH THE SEED: the statements are not yours to turn. If you find one false, say at which input.
  Laid BY PROGRAM, IN A SANDBOX (cutbox-rows.mjs): the forced cells as the released guide's own fill.sh prints them over the translation 37a377a213e628b9… (all of the seat's roots in one cut). By AI agents, Wed Nov 11 2026. No macro, syntax, notation, axiom, sorry.
-/
import Derived.Test.YthdmmhiifkebeaaDoorChecked
import GoSem.Claim
import GoSem.ClaimJoined
import GoSem.ClaimMapViews
import Derived.JoinedTies
import Derived.KernelRfl
namespace Go.Proofs.YthdmmhiifkebeaaDoor
/- THE CELL 'sum', in the pinned program and in every row, IS THE sha256 OF THE DUMP (.gsa) THAT YthdmmhiifkebeaaDoorProg.lean LOADS. Nothing in Lean hashes anything: it is a label: what it is worth is what the hold of that sum in a sandbox is worth. -/
noncomputable def Tryd.pinned : Pinned := { name := "ythdmmhiifkebeaadoor", sum := "37a377a213e628b9bfe4cdc3037db817b8e297f18893e6ae0e5a5b6c721350b0", checked := Tryd.checked }
namespace Rows
def none {H : Type} : Left H := { results := [], args := [] }

/- WHAT THE LISTED PACKAGE-LEVEL VARIABLES READ AS WHEN THE CALL BEGINS. Each datum BY PROGRAM (the guide's laid-datum.mjs) off the statement by which the dump's own 'gosem.cut.vars' lays the variable. In a bare row this is a premise. The card (YthdmmhiifkebeaaDoorCards.lean) ties it to the program's text. -/
def laid_guise_value_own {H : Type} : DataW H := .agg [.lit (.string [110, 105, 108]), .lit (.string [98, 111, 111, 108]), .lit (.string [105, 110, 116]), .lit (.string [102, 108, 111, 97, 116]), .lit (.string [116, 101, 120, 116]), .lit (.string [108, 105, 115, 116]), .lit (.string [109, 97, 112]), .lit (.string [102, 117, 110, 99])]

/-- 'guiselaw7.ValueRight': WHATEVER THE INPUT: true; the input reads as it did. -/
def valueRightSpec : ChangeSpec := { name := "valueRight", fn := fun _ => fun
  | [d] => { results := [.lit (.bool true)], args := [d] }
  | _ => none }
def valueRightRow : OpenClaim := { program := "ythdmmhiifkebeaadoor", sum := "37a377a213e628b9bfe4cdc3037db817b8e297f18893e6ae0e5a5b6c721350b0", func := "guise/guiselaw7.ValueRight", spec := "valueRight", inPlace := ["math.Float64frombits"], unfollowed := true, recurses := true, named := ["guise/value.own"], loops := true, apart := false, laid := [("guise/value.own", laid_guise_value_own)] }
def ValueRightSaid : Prop := valueRightRow.holds Tryd.pinned (OpenSpec.ofChange valueRightSpec)

/-- ITS FALSE NEIGHBOUR: 'it returns false'. Refute it at one input. -/
def valueRightWrong : ChangeSpec := { name := "valueRight", fn := fun _ => fun
  | [d] => { results := [.lit (.bool false)], args := [d] }
  | _ => none }
def ValueRightWrongFalsely : Prop := valueRightRow.holds Tryd.pinned (OpenSpec.ofChange valueRightWrong)

/-- 'guiselaw7.ValueRanks': WHATEVER THE INPUT: true; the input reads as it did. -/
def valueRanksSpec : ChangeSpec := { name := "valueRanks", fn := fun _ => fun
  | [d1, d2] => { results := [.lit (.bool true)], args := [d1, d2] }
  | _ => none }
def valueRanksRow : OpenClaim := { program := "ythdmmhiifkebeaadoor", sum := "37a377a213e628b9bfe4cdc3037db817b8e297f18893e6ae0e5a5b6c721350b0", func := "guise/guiselaw7.ValueRanks", spec := "valueRanks", inPlace := ["math.Float64frombits"], unfollowed := true, recurses := true, named := ["guise/value.own"], loops := true, apart := false, laid := [("guise/value.own", laid_guise_value_own)] }
def ValueRanksSaid : Prop := valueRanksRow.holds Tryd.pinned (OpenSpec.ofChange valueRanksSpec)

/-- ITS FALSE NEIGHBOUR: 'it returns false'. Refute it at one input. -/
def valueRanksWrong : ChangeSpec := { name := "valueRanks", fn := fun _ => fun
  | [d1, d2] => { results := [.lit (.bool false)], args := [d1, d2] }
  | _ => none }
def ValueRanksWrongFalsely : Prop := valueRanksRow.holds Tryd.pinned (OpenSpec.ofChange valueRanksWrong)

/-- 'guiselaw7.ValueEquals': WHATEVER THE INPUT: true; the input reads as it did. -/
def valueEqualsSpec : ChangeSpec := { name := "valueEquals", fn := fun _ => fun
  | [d1, d2] => { results := [.lit (.bool true)], args := [d1, d2] }
  | _ => none }
def valueEqualsRow : OpenClaim := { program := "ythdmmhiifkebeaadoor", sum := "37a377a213e628b9bfe4cdc3037db817b8e297f18893e6ae0e5a5b6c721350b0", func := "guise/guiselaw7.ValueEquals", spec := "valueEquals", inPlace := ["math.Float64frombits"], unfollowed := true, recurses := true, named := ["guise/value.own"], loops := true, apart := false, laid := [("guise/value.own", laid_guise_value_own)] }
def ValueEqualsSaid : Prop := valueEqualsRow.holds Tryd.pinned (OpenSpec.ofChange valueEqualsSpec)

/-- ITS FALSE NEIGHBOUR: 'it returns false'. Refute it at one input. -/
def valueEqualsWrong : ChangeSpec := { name := "valueEquals", fn := fun _ => fun
  | [d1, d2] => { results := [.lit (.bool false)], args := [d1, d2] }
  | _ => none }
def ValueEqualsWrongFalsely : Prop := valueEqualsRow.holds Tryd.pinned (OpenSpec.ofChange valueEqualsWrong)

/-- 'guiselaw7.ValueKeys': WHATEVER THE INPUT: true; the input reads as it did. -/
def valueKeysSpec : ChangeSpec := { name := "valueKeys", fn := fun _ => fun
  | [d1, d2] => { results := [.lit (.bool true)], args := [d1, d2] }
  | _ => none }
def valueKeysRow : OpenClaim := { program := "ythdmmhiifkebeaadoor", sum := "37a377a213e628b9bfe4cdc3037db817b8e297f18893e6ae0e5a5b6c721350b0", func := "guise/guiselaw7.ValueKeys", spec := "valueKeys", inPlace := ["math.Float64frombits"], unfollowed := true, recurses := true, named := ["guise/value.own"], loops := true, apart := false, laid := [("guise/value.own", laid_guise_value_own)] }
def ValueKeysSaid : Prop := valueKeysRow.holds Tryd.pinned (OpenSpec.ofChange valueKeysSpec)

/-- ITS FALSE NEIGHBOUR: 'it returns false'. Refute it at one input. -/
def valueKeysWrong : ChangeSpec := { name := "valueKeys", fn := fun _ => fun
  | [d1, d2] => { results := [.lit (.bool false)], args := [d1, d2] }
  | _ => none }
def ValueKeysWrongFalsely : Prop := valueKeysRow.holds Tryd.pinned (OpenSpec.ofChange valueKeysWrong)

/-- 'guiselaw7.ValueSames': WHATEVER THE INPUT: true; the input reads as it did. -/
def valueSamesSpec : ChangeSpec := { name := "valueSames", fn := fun _ => fun
  | [d1, d2] => { results := [.lit (.bool true)], args := [d1, d2] }
  | _ => none }
def valueSamesRow : OpenClaim := { program := "ythdmmhiifkebeaadoor", sum := "37a377a213e628b9bfe4cdc3037db817b8e297f18893e6ae0e5a5b6c721350b0", func := "guise/guiselaw7.ValueSames", spec := "valueSames", inPlace := ["math.Float64frombits"], unfollowed := true, recurses := true, named := ["guise/value.own"], loops := true, apart := false, laid := [("guise/value.own", laid_guise_value_own)] }
def ValueSamesSaid : Prop := valueSamesRow.holds Tryd.pinned (OpenSpec.ofChange valueSamesSpec)

/-- ITS FALSE NEIGHBOUR: 'it returns false'. Refute it at one input. -/
def valueSamesWrong : ChangeSpec := { name := "valueSames", fn := fun _ => fun
  | [d1, d2] => { results := [.lit (.bool false)], args := [d1, d2] }
  | _ => none }
def ValueSamesWrongFalsely : Prop := valueSamesRow.holds Tryd.pinned (OpenSpec.ofChange valueSamesWrong)

/-- 'guiselaw7.ValueAlike': WHATEVER THE INPUT: true; the input reads as it did. -/
def valueAlikeSpec : ChangeSpec := { name := "valueAlike", fn := fun _ => fun
  | [d1, d2, d3] => { results := [.lit (.bool true)], args := [d1, d2, d3] }
  | _ => none }
def valueAlikeRow : OpenClaim := { program := "ythdmmhiifkebeaadoor", sum := "37a377a213e628b9bfe4cdc3037db817b8e297f18893e6ae0e5a5b6c721350b0", func := "guise/guiselaw7.ValueAlike", spec := "valueAlike", inPlace := ["math.Float64frombits"], unfollowed := true, recurses := true, named := ["guise/value.own"], apart := false, laid := [("guise/value.own", laid_guise_value_own)] }
def ValueAlikeSaid : Prop := valueAlikeRow.holds Tryd.pinned (OpenSpec.ofChange valueAlikeSpec)

/-- ITS FALSE NEIGHBOUR: 'it returns false'. Refute it at one input. -/
def valueAlikeWrong : ChangeSpec := { name := "valueAlike", fn := fun _ => fun
  | [d1, d2, d3] => { results := [.lit (.bool false)], args := [d1, d2, d3] }
  | _ => none }
def ValueAlikeWrongFalsely : Prop := valueAlikeRow.holds Tryd.pinned (OpenSpec.ofChange valueAlikeWrong)

/-- 'guiselaw7.ValueOrder': WHATEVER THE INPUT: true; the input reads as it did. -/
def valueOrderSpec : ChangeSpec := { name := "valueOrder", fn := fun _ => fun
  | [d1, d2] => { results := [.lit (.bool true)], args := [d1, d2] }
  | _ => none }
def valueOrderRow : OpenClaim := { program := "ythdmmhiifkebeaadoor", sum := "37a377a213e628b9bfe4cdc3037db817b8e297f18893e6ae0e5a5b6c721350b0", func := "guise/guiselaw7.ValueOrder", spec := "valueOrder", inPlace := ["math.Float64frombits"], unfollowed := true, recurses := true, named := ["guise/value.own"], apart := false, laid := [("guise/value.own", laid_guise_value_own)] }
def ValueOrderSaid : Prop := valueOrderRow.holds Tryd.pinned (OpenSpec.ofChange valueOrderSpec)

/-- ITS FALSE NEIGHBOUR: 'it returns false'. Refute it at one input. -/
def valueOrderWrong : ChangeSpec := { name := "valueOrder", fn := fun _ => fun
  | [d1, d2] => { results := [.lit (.bool false)], args := [d1, d2] }
  | _ => none }
def ValueOrderWrongFalsely : Prop := valueOrderRow.holds Tryd.pinned (OpenSpec.ofChange valueOrderWrong)

/-- 'guiselaw7.ValueNone': WHATEVER THE INPUT: true; the input reads as it did. -/
def valueNoneSpec : ChangeSpec := { name := "valueNone", fn := fun _ => fun
  | [d1, d2] => { results := [.lit (.bool true)], args := [d1, d2] }
  | _ => none }
def valueNoneRow : OpenClaim := { program := "ythdmmhiifkebeaadoor", sum := "37a377a213e628b9bfe4cdc3037db817b8e297f18893e6ae0e5a5b6c721350b0", func := "guise/guiselaw7.ValueNone", spec := "valueNone", inPlace := ["math.Float64frombits"], unfollowed := true, recurses := true, named := ["guise/value.own"], apart := false, laid := [("guise/value.own", laid_guise_value_own)] }
def ValueNoneSaid : Prop := valueNoneRow.holds Tryd.pinned (OpenSpec.ofChange valueNoneSpec)

/-- ITS FALSE NEIGHBOUR: 'it returns false'. Refute it at one input. -/
def valueNoneWrong : ChangeSpec := { name := "valueNone", fn := fun _ => fun
  | [d1, d2] => { results := [.lit (.bool false)], args := [d1, d2] }
  | _ => none }
def ValueNoneWrongFalsely : Prop := valueNoneRow.holds Tryd.pinned (OpenSpec.ofChange valueNoneWrong)

/-- 'guiselaw7.ValueOf': WHATEVER THE INPUT: true; the input reads as it did. -/
def valueOfSpec : ChangeSpec := { name := "valueOf", fn := fun _ => fun
  | [d] => { results := [.lit (.bool true)], args := [d] }
  | _ => none }
def valueOfRow : OpenClaim := { program := "ythdmmhiifkebeaadoor", sum := "37a377a213e628b9bfe4cdc3037db817b8e297f18893e6ae0e5a5b6c721350b0", func := "guise/guiselaw7.ValueOf", spec := "valueOf", inPlace := ["math.Float64frombits"], unfollowed := true, recurses := true, named := ["guise/value.own"], loops := true, apart := false, laid := [("guise/value.own", laid_guise_value_own)] }
def ValueOfSaid : Prop := valueOfRow.holds Tryd.pinned (OpenSpec.ofChange valueOfSpec)

/-- ITS FALSE NEIGHBOUR: 'it returns false'. Refute it at one input. -/
def valueOfWrong : ChangeSpec := { name := "valueOf", fn := fun _ => fun
  | [d] => { results := [.lit (.bool false)], args := [d] }
  | _ => none }
def ValueOfWrongFalsely : Prop := valueOfRow.holds Tryd.pinned (OpenSpec.ofChange valueOfWrong)

/-- 'guiselaw9.KeyedNever': WHATEVER THE INPUT: true; the input reads as it did. -/
def keyedNeverSpec : ChangeSpec := { name := "keyedNever", fn := fun _ => fun
  | [d1, d2] => { results := [.lit (.bool true)], args := [d1, d2] }
  | _ => none }
def keyedNeverRow : OpenClaim := { program := "ythdmmhiifkebeaadoor", sum := "37a377a213e628b9bfe4cdc3037db817b8e297f18893e6ae0e5a5b6c721350b0", func := "guise/guiselaw9.KeyedNever", spec := "keyedNever", inPlace := ["math.Float64frombits"], unfollowed := true, recurses := true, named := ["guise/value.own"], apart := false, laid := [("guise/value.own", laid_guise_value_own)] }
def KeyedNeverSaid : Prop := keyedNeverRow.holds Tryd.pinned (OpenSpec.ofChange keyedNeverSpec)

/-- ITS FALSE NEIGHBOUR: 'it returns false'. Refute it at one input. -/
def keyedNeverWrong : ChangeSpec := { name := "keyedNever", fn := fun _ => fun
  | [d1, d2] => { results := [.lit (.bool false)], args := [d1, d2] }
  | _ => none }
def KeyedNeverWrongFalsely : Prop := keyedNeverRow.holds Tryd.pinned (OpenSpec.ofChange keyedNeverWrong)

/-- 'guiselaw9.KeyedPlays': WHATEVER THE INPUT: true; the input reads as it did. -/
def keyedPlaysSpec : ChangeSpec := { name := "keyedPlays", fn := fun _ => fun
  | [d] => { results := [.lit (.bool true)], args := [d] }
  | _ => none }
def keyedPlaysRow : OpenClaim := { program := "ythdmmhiifkebeaadoor", sum := "37a377a213e628b9bfe4cdc3037db817b8e297f18893e6ae0e5a5b6c721350b0", func := "guise/guiselaw9.KeyedPlays", spec := "keyedPlays", inPlace := ["math.Float64frombits"], unfollowed := true, recurses := true, named := ["guise/value.own"], loops := true, apart := false, laid := [("guise/value.own", laid_guise_value_own)] }
def KeyedPlaysSaid : Prop := keyedPlaysRow.holds Tryd.pinned (OpenSpec.ofChange keyedPlaysSpec)

/-- ITS FALSE NEIGHBOUR: 'it returns false'. Refute it at one input. -/
def keyedPlaysWrong : ChangeSpec := { name := "keyedPlays", fn := fun _ => fun
  | [d] => { results := [.lit (.bool false)], args := [d] }
  | _ => none }
def KeyedPlaysWrongFalsely : Prop := keyedPlaysRow.holds Tryd.pinned (OpenSpec.ofChange keyedPlaysWrong)

/-- 'guiselaw9.KeyedModel': WHATEVER THE INPUT: true; the input reads as it did. -/
def keyedModelSpec : ChangeSpec := { name := "keyedModel", fn := fun _ => fun
  | [d] => { results := [.lit (.bool true)], args := [d] }
  | _ => none }
def keyedModelRow : OpenClaim := { program := "ythdmmhiifkebeaadoor", sum := "37a377a213e628b9bfe4cdc3037db817b8e297f18893e6ae0e5a5b6c721350b0", func := "guise/guiselaw9.KeyedModel", spec := "keyedModel", inPlace := ["math.Float64frombits"], unfollowed := true, recurses := true, named := ["guise/value.own"], apart := false, laid := [("guise/value.own", laid_guise_value_own)] }
def KeyedModelSaid : Prop := keyedModelRow.holds Tryd.pinned (OpenSpec.ofChange keyedModelSpec)

/-- ITS FALSE NEIGHBOUR: 'it returns false'. Refute it at one input. -/
def keyedModelWrong : ChangeSpec := { name := "keyedModel", fn := fun _ => fun
  | [d] => { results := [.lit (.bool false)], args := [d] }
  | _ => none }
def KeyedModelWrongFalsely : Prop := keyedModelRow.holds Tryd.pinned (OpenSpec.ofChange keyedModelWrong)

/- THE SECOND FORM. 'bulk': how many values and letters a reading holds, each counted each time it is reached (what is shared counts as often as it is met; a slice's spare places count too). A statement '..UptoSaid' is the law's where the arguments, and the package variables that the reading takes, are together of bulk at most 1048576: NARROWER than '..Said'. Prove '..Said' where nothing that the law and all that it calls make is longer than what came in: it says more and counts as full. Else prove '..UptoSaid'. A law counts once. -/
mutual
def uptoBulk {H : Type} : DataW H → Nat
  | .lit (.string bytes) => bytes.length + 1
  | .lit _ => 1
  | .nil => 1
  | .ptr d => uptoBulk d + 1
  | .slice elems spare => uptoBulkAll elems + uptoBulkAll spare + 1
  | .agg parts => uptoBulkAll parts + 1
  | .iface _ d => uptoBulk d + 1
  | .map entries => uptoBulkEntries entries + 1
  | .held _ => 1
def uptoBulkAll {H : Type} : List (DataW H) → Nat
  | [] => 0
  | d :: r => uptoBulk d + uptoBulkAll r
def uptoBulkEntries {H : Type} : List (Lit × DataW H) → Nat
  | [] => 0
  | x :: r => uptoBulkEntry x + uptoBulkEntries r
def uptoBulkEntry {H : Type} : Lit × DataW H → Nat
  | (.string bytes, d) => bytes.length + uptoBulk d + 1
  | (_, d) => uptoBulk d + 1
 end
def uptoSmall : (H : Type) → List (DataW H) → Bool := fun _ ds => decide (uptoBulkAll ds ≤ 1048576)
def OpenSpec.upto (s : _root_.Go.ChangeSpec) : _root_.Go.OpenSpec := { _root_.Go.OpenSpec.ofChange s with cond := some uptoSmall }

/-- 'guiselaw7.ValueRight', WHERE WHAT IT READS IS OF BULK AT MOST 1048576: true; the input reads as it did. -/
def valueRightUptoRow : OpenClaim := { program := "ythdmmhiifkebeaadoor", sum := "37a377a213e628b9bfe4cdc3037db817b8e297f18893e6ae0e5a5b6c721350b0", func := "guise/guiselaw7.ValueRight", spec := "valueRight", inPlace := ["math.Float64frombits"], unfollowed := true, recurses := true, named := ["guise/value.own"], loops := true, apart := false, laid := [("guise/value.own", laid_guise_value_own)], narrowed := true }
def ValueRightUptoSaid : Prop := valueRightUptoRow.holds Tryd.pinned (OpenSpec.upto valueRightSpec)

/-- 'guiselaw7.ValueRanks', WHERE WHAT IT READS IS OF BULK AT MOST 1048576: true; the input reads as it did. -/
def valueRanksUptoRow : OpenClaim := { program := "ythdmmhiifkebeaadoor", sum := "37a377a213e628b9bfe4cdc3037db817b8e297f18893e6ae0e5a5b6c721350b0", func := "guise/guiselaw7.ValueRanks", spec := "valueRanks", inPlace := ["math.Float64frombits"], unfollowed := true, recurses := true, named := ["guise/value.own"], loops := true, apart := false, laid := [("guise/value.own", laid_guise_value_own)], narrowed := true }
def ValueRanksUptoSaid : Prop := valueRanksUptoRow.holds Tryd.pinned (OpenSpec.upto valueRanksSpec)

/-- 'guiselaw7.ValueEquals', WHERE WHAT IT READS IS OF BULK AT MOST 1048576: true; the input reads as it did. -/
def valueEqualsUptoRow : OpenClaim := { program := "ythdmmhiifkebeaadoor", sum := "37a377a213e628b9bfe4cdc3037db817b8e297f18893e6ae0e5a5b6c721350b0", func := "guise/guiselaw7.ValueEquals", spec := "valueEquals", inPlace := ["math.Float64frombits"], unfollowed := true, recurses := true, named := ["guise/value.own"], loops := true, apart := false, laid := [("guise/value.own", laid_guise_value_own)], narrowed := true }
def ValueEqualsUptoSaid : Prop := valueEqualsUptoRow.holds Tryd.pinned (OpenSpec.upto valueEqualsSpec)

/-- 'guiselaw7.ValueKeys', WHERE WHAT IT READS IS OF BULK AT MOST 1048576: true; the input reads as it did. -/
def valueKeysUptoRow : OpenClaim := { program := "ythdmmhiifkebeaadoor", sum := "37a377a213e628b9bfe4cdc3037db817b8e297f18893e6ae0e5a5b6c721350b0", func := "guise/guiselaw7.ValueKeys", spec := "valueKeys", inPlace := ["math.Float64frombits"], unfollowed := true, recurses := true, named := ["guise/value.own"], loops := true, apart := false, laid := [("guise/value.own", laid_guise_value_own)], narrowed := true }
def ValueKeysUptoSaid : Prop := valueKeysUptoRow.holds Tryd.pinned (OpenSpec.upto valueKeysSpec)

/-- 'guiselaw7.ValueSames', WHERE WHAT IT READS IS OF BULK AT MOST 1048576: true; the input reads as it did. -/
def valueSamesUptoRow : OpenClaim := { program := "ythdmmhiifkebeaadoor", sum := "37a377a213e628b9bfe4cdc3037db817b8e297f18893e6ae0e5a5b6c721350b0", func := "guise/guiselaw7.ValueSames", spec := "valueSames", inPlace := ["math.Float64frombits"], unfollowed := true, recurses := true, named := ["guise/value.own"], loops := true, apart := false, laid := [("guise/value.own", laid_guise_value_own)], narrowed := true }
def ValueSamesUptoSaid : Prop := valueSamesUptoRow.holds Tryd.pinned (OpenSpec.upto valueSamesSpec)

/-- 'guiselaw7.ValueAlike', WHERE WHAT IT READS IS OF BULK AT MOST 1048576: true; the input reads as it did. -/
def valueAlikeUptoRow : OpenClaim := { program := "ythdmmhiifkebeaadoor", sum := "37a377a213e628b9bfe4cdc3037db817b8e297f18893e6ae0e5a5b6c721350b0", func := "guise/guiselaw7.ValueAlike", spec := "valueAlike", inPlace := ["math.Float64frombits"], unfollowed := true, recurses := true, named := ["guise/value.own"], apart := false, laid := [("guise/value.own", laid_guise_value_own)], narrowed := true }
def ValueAlikeUptoSaid : Prop := valueAlikeUptoRow.holds Tryd.pinned (OpenSpec.upto valueAlikeSpec)

/-- 'guiselaw7.ValueOrder', WHERE WHAT IT READS IS OF BULK AT MOST 1048576: true; the input reads as it did. -/
def valueOrderUptoRow : OpenClaim := { program := "ythdmmhiifkebeaadoor", sum := "37a377a213e628b9bfe4cdc3037db817b8e297f18893e6ae0e5a5b6c721350b0", func := "guise/guiselaw7.ValueOrder", spec := "valueOrder", inPlace := ["math.Float64frombits"], unfollowed := true, recurses := true, named := ["guise/value.own"], apart := false, laid := [("guise/value.own", laid_guise_value_own)], narrowed := true }
def ValueOrderUptoSaid : Prop := valueOrderUptoRow.holds Tryd.pinned (OpenSpec.upto valueOrderSpec)

/-- 'guiselaw7.ValueNone', WHERE WHAT IT READS IS OF BULK AT MOST 1048576: true; the input reads as it did. -/
def valueNoneUptoRow : OpenClaim := { program := "ythdmmhiifkebeaadoor", sum := "37a377a213e628b9bfe4cdc3037db817b8e297f18893e6ae0e5a5b6c721350b0", func := "guise/guiselaw7.ValueNone", spec := "valueNone", inPlace := ["math.Float64frombits"], unfollowed := true, recurses := true, named := ["guise/value.own"], apart := false, laid := [("guise/value.own", laid_guise_value_own)], narrowed := true }
def ValueNoneUptoSaid : Prop := valueNoneUptoRow.holds Tryd.pinned (OpenSpec.upto valueNoneSpec)

/-- 'guiselaw7.ValueOf', WHERE WHAT IT READS IS OF BULK AT MOST 1048576: true; the input reads as it did. -/
def valueOfUptoRow : OpenClaim := { program := "ythdmmhiifkebeaadoor", sum := "37a377a213e628b9bfe4cdc3037db817b8e297f18893e6ae0e5a5b6c721350b0", func := "guise/guiselaw7.ValueOf", spec := "valueOf", inPlace := ["math.Float64frombits"], unfollowed := true, recurses := true, named := ["guise/value.own"], loops := true, apart := false, laid := [("guise/value.own", laid_guise_value_own)], narrowed := true }
def ValueOfUptoSaid : Prop := valueOfUptoRow.holds Tryd.pinned (OpenSpec.upto valueOfSpec)

/-- 'guiselaw9.KeyedNever', WHERE WHAT IT READS IS OF BULK AT MOST 1048576: true; the input reads as it did. -/
def keyedNeverUptoRow : OpenClaim := { program := "ythdmmhiifkebeaadoor", sum := "37a377a213e628b9bfe4cdc3037db817b8e297f18893e6ae0e5a5b6c721350b0", func := "guise/guiselaw9.KeyedNever", spec := "keyedNever", inPlace := ["math.Float64frombits"], unfollowed := true, recurses := true, named := ["guise/value.own"], apart := false, laid := [("guise/value.own", laid_guise_value_own)], narrowed := true }
def KeyedNeverUptoSaid : Prop := keyedNeverUptoRow.holds Tryd.pinned (OpenSpec.upto keyedNeverSpec)

/-- 'guiselaw9.KeyedPlays', WHERE WHAT IT READS IS OF BULK AT MOST 1048576: true; the input reads as it did. -/
def keyedPlaysUptoRow : OpenClaim := { program := "ythdmmhiifkebeaadoor", sum := "37a377a213e628b9bfe4cdc3037db817b8e297f18893e6ae0e5a5b6c721350b0", func := "guise/guiselaw9.KeyedPlays", spec := "keyedPlays", inPlace := ["math.Float64frombits"], unfollowed := true, recurses := true, named := ["guise/value.own"], loops := true, apart := false, laid := [("guise/value.own", laid_guise_value_own)], narrowed := true }
def KeyedPlaysUptoSaid : Prop := keyedPlaysUptoRow.holds Tryd.pinned (OpenSpec.upto keyedPlaysSpec)

/-- 'guiselaw9.KeyedModel', WHERE WHAT IT READS IS OF BULK AT MOST 1048576: true; the input reads as it did. -/
def keyedModelUptoRow : OpenClaim := { program := "ythdmmhiifkebeaadoor", sum := "37a377a213e628b9bfe4cdc3037db817b8e297f18893e6ae0e5a5b6c721350b0", func := "guise/guiselaw9.KeyedModel", spec := "keyedModel", inPlace := ["math.Float64frombits"], unfollowed := true, recurses := true, named := ["guise/value.own"], apart := false, laid := [("guise/value.own", laid_guise_value_own)], narrowed := true }
def KeyedModelUptoSaid : Prop := keyedModelUptoRow.holds Tryd.pinned (OpenSpec.upto keyedModelSpec)

end Rows
end Go.Proofs.YthdmmhiifkebeaaDoor
