/-
  A law for '[]Datum{a, b, c}': three data, one behind the other, in a new row. Written by an AI agent.
-/
import Derived.Test.YthdmmhiifkebeaaDoorVal7
import Derived.OwnWalk
namespace Go.Proofs.YthdmmhiifkebeaaDoor
open Go.RowKit Go.Sort

theorem run_build3 (a b c : Hd) (pa pb pc : Option Addr) (na nb nc : Nat) (ia ib ic : Option Addr) (la lb lc ja jb jc : Nat) (w : World) : (Instr.buildSlice 26 3 #[(0, .agg (a.cells pa na ia la ja)), (1, .agg (b.cells pb nb ib lb jb)), (2, .agg (c.cells pc nc ic lc jc))]).run Tryd.prog w =
    .ok (.slice (some ⟨w.heap.size, 0, none⟩) 3 3) (w.alloc (.cells (a.cells pa na ia la ja ++ (b.cells pb nb ib lb jb ++ c.cells pc nc ic lc jc)) 28)) := by kernel_rfl

theorem wpList_build3 (w : World) {ops : Array Oper} {rest : List Oper} {o : Oper} {s : Act} {Q : Exit → Act → World → Prop} (hg : o.guard = none) (x y z : Operand) (hop : o.op = Op.buildSlice 26 3 #[(0, x), (1, y), (2, z)])
    (a b c : Hd) (pa pb pc : Option Addr) (na nb nc : Nat) (ia ib ic : Option Addr) (la lb lc ja jb jc : Nat) (hx : s.eval x = .agg (a.cells pa na ia la ja)) (hy : s.eval y = .agg (b.cells pb nb ib lb jb)) (hz : s.eval z = .agg (c.cells pc nc ic lc jc))
    (hK : wpList Tryd.prog ops Q rest (s.put o.dst (.slice (some ⟨w.heap.size, 0, none⟩) 3 3)) (w.alloc (.cells (a.cells pa na ia la ja ++ (b.cells pb nb ib lb jb ++ c.cells pc nc ic lc jc)) 28))) : wpList Tryd.prog ops Q (o :: rest) s w := by
  refine wpList_plain hg fun K hK' => ?_
  unfold Oper.wp
  have hr := run_build3 a b c pa pb pc na nb nc ia ib ic la lb lc ja jb jc w
  simp [execOp, hop, hx, hy, hz, hr, Result.andThen]
  exact hK' _ _ hK
end Go.Proofs.YthdmmhiifkebeaaDoor
