/-
  NARROWER THAN 'FOR EVERY INPUT', by the rows' own cells (each row's printed sentence says how): KeyedNever: laid · KeyedPlays: loops, laid · KeyedModel: laid.
  DERIVED. THE GIVEN ROWS OF THIS SEAT. 3 by the template 'for every input the law returns true; each argument reads behind the call as it read before'; 0 by the template 'total and deterministic' (their statements: YtlhfickniegooaaDoorTotals.lean).
  GIVEN WITH THE SEED: the statements are not yours to turn. If you find one false, say at which input.
  Laid BY PROGRAM, IN A SANDBOX (cutbox-rows.mjs): the forced cells as the released guide's own fill.sh prints them over the translation 875c36e847d700d7… (all of the seat's roots in one cut). By AI agents, Wed Nov 11 2026. No macro, syntax, notation, axiom, sorry.
-/
import Derived.Test.YtlhfickniegooaaDoorChecked
import GoSem.Claim
import GoSem.ClaimJoined
import GoSem.ClaimMapViews
import Derived.JoinedTies
import Derived.KernelRfl
namespace Go.Proofs.YtlhfickniegooaaDoor
/- THE CELL 'sum', in the pinned program and in every row, IS THE sha256 OF THE DUMP (.gsa) THAT YtlhfickniegooaaDoorProg.lean LOADS. Nothing in Lean hashes anything: it is a label: what it is worth is what the hold of that sum in a sandbox is worth. -/
noncomputable def Tryd.pinned : Pinned := { name := "ytlhfickniegooaadoor", sum := "875c36e847d700d79b5a4c255476739ef8b5b7715e3cac6c909db240748a4d0d", checked := Tryd.checked }
namespace Rows
def none {H : Type} : Left H := { results := [], args := [] }

/- WHAT THE LISTED PACKAGE-LEVEL VARIABLES READ AS WHEN THE CALL BEGINS. Each datum BY PROGRAM (the guide's laid-datum.mjs) off the statement by which the dump's own 'gosem.cut.vars' lays the variable. In a bare row this is a premise. The card (YtlhfickniegooaaDoorCards.lean) ties it to the program's text. -/
def laid_guise_value_own {H : Type} : DataW H := .agg [.lit (.string [110, 105, 108]), .lit (.string [98, 111, 111, 108]), .lit (.string [105, 110, 116]), .lit (.string [102, 108, 111, 97, 116]), .lit (.string [116, 101, 120, 116]), .lit (.string [108, 105, 115, 116]), .lit (.string [109, 97, 112]), .lit (.string [102, 117, 110, 99])]

/-- 'guiselaw9.KeyedNever': WHATEVER THE INPUT: true; the input reads as it did. -/
def keyedNeverSpec : ChangeSpec := { name := "keyedNever", fn := fun _ => fun
  | [d1, d2] => { results := [.lit (.bool true)], args := [d1, d2] }
  | _ => none }
def keyedNeverRow : OpenClaim := { program := "ytlhfickniegooaadoor", sum := "875c36e847d700d79b5a4c255476739ef8b5b7715e3cac6c909db240748a4d0d", func := "guise/guiselaw9.KeyedNever", spec := "keyedNever", inPlace := ["math.Float64frombits"], unfollowed := true, recurses := true, named := ["guise/value.own"], apart := false, laid := [("guise/value.own", laid_guise_value_own)] }
def KeyedNeverSaid : Prop := keyedNeverRow.holds Tryd.pinned (OpenSpec.ofChange keyedNeverSpec)

/-- ITS FALSE NEIGHBOUR: 'it returns false'. Refute it at one input. -/
def keyedNeverWrong : ChangeSpec := { name := "keyedNever", fn := fun _ => fun
  | [d1, d2] => { results := [.lit (.bool false)], args := [d1, d2] }
  | _ => none }
def KeyedNeverWrongFalsely : Prop := keyedNeverRow.holds Tryd.pinned (OpenSpec.ofChange keyedNeverWrong)

/-- 'guiselaw9.KeyedPlays': WHATEVER THE INPUT: true; the input reads as it did. -/
def keyedPlaysSpec : ChangeSpec := { name := "keyedPlays", fn := fun _ => fun
  | [d] => { results := [.lit (.bool true)], args := [d] }
  | _ => none }
def keyedPlaysRow : OpenClaim := { program := "ytlhfickniegooaadoor", sum := "875c36e847d700d79b5a4c255476739ef8b5b7715e3cac6c909db240748a4d0d", func := "guise/guiselaw9.KeyedPlays", spec := "keyedPlays", inPlace := ["math.Float64frombits"], unfollowed := true, recurses := true, named := ["guise/value.own"], loops := true, apart := false, laid := [("guise/value.own", laid_guise_value_own)] }
def KeyedPlaysSaid : Prop := keyedPlaysRow.holds Tryd.pinned (OpenSpec.ofChange keyedPlaysSpec)

/-- ITS FALSE NEIGHBOUR: 'it returns false'. Refute it at one input. -/
def keyedPlaysWrong : ChangeSpec := { name := "keyedPlays", fn := fun _ => fun
  | [d] => { results := [.lit (.bool false)], args := [d] }
  | _ => none }
def KeyedPlaysWrongFalsely : Prop := keyedPlaysRow.holds Tryd.pinned (OpenSpec.ofChange keyedPlaysWrong)

/-- 'guiselaw9.KeyedModel': WHATEVER THE INPUT: true; the input reads as it did. -/
def keyedModelSpec : ChangeSpec := { name := "keyedModel", fn := fun _ => fun
  | [d] => { results := [.lit (.bool true)], args := [d] }
  | _ => none }
def keyedModelRow : OpenClaim := { program := "ytlhfickniegooaadoor", sum := "875c36e847d700d79b5a4c255476739ef8b5b7715e3cac6c909db240748a4d0d", func := "guise/guiselaw9.KeyedModel", spec := "keyedModel", inPlace := ["math.Float64frombits"], unfollowed := true, recurses := true, named := ["guise/value.own"], apart := false, laid := [("guise/value.own", laid_guise_value_own)] }
def KeyedModelSaid : Prop := keyedModelRow.holds Tryd.pinned (OpenSpec.ofChange keyedModelSpec)

/-- ITS FALSE NEIGHBOUR: 'it returns false'. Refute it at one input. -/
def keyedModelWrong : ChangeSpec := { name := "keyedModel", fn := fun _ => fun
  | [d] => { results := [.lit (.bool false)], args := [d] }
  | _ => none }
def KeyedModelWrongFalsely : Prop := keyedModelRow.holds Tryd.pinned (OpenSpec.ofChange keyedModelWrong)

/- THE SECOND FORM. 'bulk': how many values and letters a reading holds, each counted each time it is reached (what is shared counts as often as it is met; a slice's spare places count too). A statement '..UptoSaid' is the law's where the arguments, and the package variables that the reading takes, are together of bulk at most 1048576: NARROWER than '..Said'. Prove '..Said' where nothing that the law and all that it calls make is longer than what came in: it says more and counts as full. Else prove '..UptoSaid'. A law counts once. -/
mutual
def uptoBulk {H : Type} : DataW H → Nat
  | .lit (.string bytes) => bytes.length + 1
  | .lit _ => 1
  | .nil => 1
  | .ptr d => uptoBulk d + 1
  | .slice elems spare => uptoBulkAll elems + uptoBulkAll spare + 1
  | .agg parts => uptoBulkAll parts + 1
  | .iface _ d => uptoBulk d + 1
  | .map entries => uptoBulkEntries entries + 1
  | .held _ => 1
def uptoBulkAll {H : Type} : List (DataW H) → Nat
  | [] => 0
  | d :: r => uptoBulk d + uptoBulkAll r
def uptoBulkEntries {H : Type} : List (Lit × DataW H) → Nat
  | [] => 0
  | x :: r => uptoBulkEntry x + uptoBulkEntries r
def uptoBulkEntry {H : Type} : Lit × DataW H → Nat
  | (.string bytes, d) => bytes.length + uptoBulk d + 1
  | (_, d) => uptoBulk d + 1
 end
def uptoSmall : (H : Type) → List (DataW H) → Bool := fun _ ds => decide (uptoBulkAll ds ≤ 1048576)
def OpenSpec.upto (s : _root_.Go.ChangeSpec) : _root_.Go.OpenSpec := { _root_.Go.OpenSpec.ofChange s with cond := some uptoSmall }

/-- 'guiselaw9.KeyedNever', WHERE WHAT IT READS IS OF BULK AT MOST 1048576: true; the input reads as it did. -/
def keyedNeverUptoRow : OpenClaim := { program := "ytlhfickniegooaadoor", sum := "875c36e847d700d79b5a4c255476739ef8b5b7715e3cac6c909db240748a4d0d", func := "guise/guiselaw9.KeyedNever", spec := "keyedNever", inPlace := ["math.Float64frombits"], unfollowed := true, recurses := true, named := ["guise/value.own"], apart := false, laid := [("guise/value.own", laid_guise_value_own)], narrowed := true }
def KeyedNeverUptoSaid : Prop := keyedNeverUptoRow.holds Tryd.pinned (OpenSpec.upto keyedNeverSpec)

/-- 'guiselaw9.KeyedPlays', WHERE WHAT IT READS IS OF BULK AT MOST 1048576: true; the input reads as it did. -/
def keyedPlaysUptoRow : OpenClaim := { program := "ytlhfickniegooaadoor", sum := "875c36e847d700d79b5a4c255476739ef8b5b7715e3cac6c909db240748a4d0d", func := "guise/guiselaw9.KeyedPlays", spec := "keyedPlays", inPlace := ["math.Float64frombits"], unfollowed := true, recurses := true, named := ["guise/value.own"], loops := true, apart := false, laid := [("guise/value.own", laid_guise_value_own)], narrowed := true }
def KeyedPlaysUptoSaid : Prop := keyedPlaysUptoRow.holds Tryd.pinned (OpenSpec.upto keyedPlaysSpec)

/-- 'guiselaw9.KeyedModel', WHERE WHAT IT READS IS OF BULK AT MOST 1048576: true; the input reads as it did. -/
def keyedModelUptoRow : OpenClaim := { program := "ytlhfickniegooaadoor", sum := "875c36e847d700d79b5a4c255476739ef8b5b7715e3cac6c909db240748a4d0d", func := "guise/guiselaw9.KeyedModel", spec := "keyedModel", inPlace := ["math.Float64frombits"], unfollowed := true, recurses := true, named := ["guise/value.own"], apart := false, laid := [("guise/value.own", laid_guise_value_own)], narrowed := true }
def KeyedModelUptoSaid : Prop := keyedModelUptoRow.holds Tryd.pinned (OpenSpec.upto keyedModelSpec)

end Rows
end Go.Proofs.YtlhfickniegooaaDoor
