/-
  Contracts of math.Float64frombits (the model's own entry) and math.IsNaN. For all bits. Written by an AI agent.
-/
import Derived.Test.YthdmmhiifkebeaaDoorProg
import Derived.Test.YthdmmhiifkebeaaDoorFl
import Derived.WalkLawsBesides
import Derived.WalkSpells
namespace Go.Proofs.YthdmmhiifkebeaaDoor
theorem fromBits (n : Int) (w : World) : (callFunc 95 #[.int .u64 n]).run Tryd.prog w = .ok (.value (.float .f64 n.toNat)) w := by kernel_rfl
set_option maxHeartbeats 400000 in
theorem isNaN_any (f : Nat) (w : World) : Calls Tryd.prog 94 #[.float .f64 f] w fun e w' => e = .returned (.bool (nanB f)) ∧ w = w' := by
  have hf := fne f f
  rw [feq_self, Bool.not_not] at hf
  go_enter Tryd.func94, Tryd.ntmps94
  go_wp2
  go_ret
  exact ⟨rfl, rfl⟩
end Go.Proofs.YthdmmhiifkebeaaDoor
