/-
  What the reference's Equal computes, in plain Lean. Written by an AI agent.
-/
import Derived.Test.YthdmmhiifkebeaaDoorVal5
namespace Go.Proofs.YthdmmhiifkebeaaDoor

/-- What the reference's Equal answers: is it so; of what can't be compared the name. -/
def reqH (h h' : Hd) : Bool × Option ByteArray :=
  if h.kind = 1 ∨ h.kind = 2 then (decide (h.n = h'.n), none) else if h.kind = 4 then (decide (h.s = h'.s), none)
  else if h.kind = 3 then (feqB h.f.toNat h'.f.toNat, none) else if h.kind = 5 ∨ h.kind = 6 ∨ h.kind = 7 then (false, some h.type)
  else if h.kind = 9 then (decide (h.obj = h'.obj ∧ h.path = h'.path), none) else (true, none)
def reqF : Fo → Fo → Bool × Option ByteArray
  | .cons h k r, .cons h' k' r' =>
    if (if oneB h h' = false then (false, none) else if h.kind = 8 then (if k.len ≠ k'.len then (false, none) else reqF k k') else reqH h h').1 = true then reqF r r'
    else (false, (if oneB h h' = false then (false, none) else if h.kind = 8 then (if k.len ≠ k'.len then (false, none) else reqF k k') else reqH h h').2)
  | _, _ => (true, none)
def reqD (h : Hd) (k : Fo) (h' : Hd) (k' : Fo) : Bool × Option ByteArray := if oneB h h' = false then (false, none) else if h.kind = 8 then (if k.len ≠ k'.len then (false, none) else reqF k k') else reqH h h'
theorem reqF_cons (h : Hd) (k r : Fo) (h' : Hd) (k' r' : Fo) : reqF (.cons h k r) (.cons h' k' r') = if (reqD h k h' k').1 = true then reqF r r' else (false, (reqD h k h' k').2) := by
  rw [reqF]; rfl
def fault (o : Option ByteArray) : Value := match o with | none => .agg #[.string ⟨#[]⟩, .string ⟨#[]⟩] | some m => .agg #[.string ⟨#[99, 111, 109, 112, 97, 114, 101]⟩, .string m]
end Go.Proofs.YthdmmhiifkebeaaDoor
