/-
  An argument of type []int, opened. Written by an AI agent.
-/
import Derived.Test.YthdmmhiifkebeaaDoorRow
namespace Go.Proofs.YthdmmhiifkebeaaDoor
open Go.RowKit Go.ChangeShapes Go.WideShapes
set_option maxRecDepth 100000
theorem ints_arg {H : Type} {enc : TypeId × Value → H} {W : World} {base : Nat} {v : Value} {d : DataW H} {p : List MemPlace} (hv : Value.okWide Tryd.prog W .any base 23 v)
    (h : DataW.Trod enc Tryd.prog W 0 (fun _ => true) true 23 v d p) (hw : light 23 d) :
    ∃ (l : List Int) (pa : Option Addr) (pc : Nat), v = .slice pa l.length pc ∧ PathAt W (fun _ => True) pa l ∧ l.length ≤ 17592186043904 ∧ (∀ (j : Nat) (x : Int), l[j]? = some x → okInt x) := by
  obtain ⟨a, len, cap, rfl⟩ := okWide_slice Tryd.underlying23 hv
  obtain ⟨fuel, hf⟩ := h
  obtain ⟨l, pa, pc, e, h1, _, _, h2, h3⟩ := path_of hf hw
  simp [Value.cells] at e
  obtain ⟨rfl, rfl, rfl⟩ := e
  exact ⟨l, _, _, rfl, h1, h2, h3⟩
end Go.Proofs.YthdmmhiifkebeaaDoor
