/-
  The values' dynamic types: which interface each has; where their methods lead. Written by an AI agent.
-/
import Derived.Test.YthdmmhiifkebeaaDoorVal12
import Derived.Stop.Asserts
namespace Go.Proofs.YthdmmhiifkebeaaDoor
open Go.RowKit Go.Sort

theorem tyO_cases (h : Hd) (k : Fo) : tyO h k = none ∨ tyO h k = some 114 ∨ tyO h k = some 115 ∨ tyO h k = some 116 ∨ tyO h k = some 117 ∨
    tyO h k = some 118 ∨ tyO h k = some 119 ∨ tyO h k = some 123 ∨ tyO h k = some 121 := by
  unfold tyO
  split
  · simp
  split
  · simp
  split
  · simp
  split
  · simp
  split
  · simp
  split
  · simp
  split
  · split <;> simp
  · simp
def ValTy (t : TypeId) : Prop := t = 114 ∨ t = 115 ∨ t = 116 ∨ t = 117 ∨ t = 118 ∨ t = 119 ∨ t = 123 ∨ t = 121
theorem tyO_val {h : Hd} {k : Fo} {t : TypeId} (e : tyO h k = some t) : ValTy t := by
  have := tyO_cases h k
  rw [e] at this
  simpa [ValTy] using this
/-- Which of the values' types can be keys. -/
def keyedT (t : TypeId) : Bool := t == 114 || t == 115 || t == 116 || t == 119 || t == 123
def orderedT (t : TypeId) : Bool := t == 115 || t == 116

theorem assert_keyed {t : TypeId} (ht : ValTy t) (v : Value) (w : World) : (Instr.typeAssert (.iface t v) 32 136 true).run Tryd.prog w = .ok (.tuple #[if keyedT t then .iface t v else .nilIface, .bool (keyedT t)]) w := by
  rcases ht with rfl | rfl | rfl | rfl | rfl | rfl | rfl | rfl <;>
  first
    | exact run_typeAssert_hasB Tryd.underlying136 (by kernel_rfl) v _ w
    | exact run_typeAssert_lacksB Tryd.underlying136 (by kernel_rfl) (by kernel_rfl) v _ w
theorem assert_ordered {t : TypeId} (ht : ValTy t) (v : Value) (w : World) : (Instr.typeAssert (.iface t v) 32 38 true).run Tryd.prog w = .ok (.tuple #[if orderedT t then .iface t v else .nilIface, .bool (orderedT t)]) w := by
  rcases ht with rfl | rfl | rfl | rfl | rfl | rfl | rfl | rfl <;>
  first
    | exact run_typeAssert_hasB Tryd.underlying38 (by kernel_rfl) v _ w
    | exact run_typeAssert_lacksB Tryd.underlying38 (by kernel_rfl) (by kernel_rfl) v _ w
theorem assert_keyed_nil (w : World) : (Instr.typeAssert .nilIface 32 136 true).run Tryd.prog w = .ok (.tuple #[.nilIface, .bool false]) w := by kernel_rfl
theorem assert_ordered_nil (w : World) : (Instr.typeAssert .nilIface 32 38 true).run Tryd.prog w = .ok (.tuple #[.nilIface, .bool false]) w := by kernel_rfl
theorem assert_wrong (v : Value) (w : World) : (Instr.typeAssert (.iface 129 v) 34 129 true).run Tryd.prog w = .ok (.tuple #[v, .bool true]) w := by kernel_rfl
theorem assert_fault (v : Value) (w : World) : (Instr.typeAssert (.iface 128 v) 34 128 true).run Tryd.prog w = .ok (.tuple #[v, .bool true]) w := by kernel_rfl
theorem assert_wrong_nil (w : World) : (Instr.typeAssert .nilIface 34 129 true).run Tryd.prog w = .ok (.tuple #[.pointer none, .bool false]) w := by kernel_rfl
theorem assert_fault_nil (w : World) : (Instr.typeAssert .nilIface 34 128 true).run Tryd.prog w = .ok (.tuple #[.pointer none, .bool false]) w := by kernel_rfl
theorem assert_wrong_fault (v : Value) (w : World) : (Instr.typeAssert (.iface 128 v) 34 129 true).run Tryd.prog w = .ok (.tuple #[.pointer none, .bool false]) w := by kernel_rfl
theorem assert_fault_wrong (v : Value) (w : World) : (Instr.typeAssert (.iface 129 v) 34 128 true).run Tryd.prog w = .ok (.tuple #[.pointer none, .bool false]) w := by kernel_rfl

section
variable (a0 a1 a2 a3 a4 a5 a6 a7 a8 a9 a10 : Value) (w : World)
theorem truth_type : (callMethod (.iface 114 (.agg #[a0, a1, a2, a3, a4, a5, a6, a7, a8, a9, a10])) "Type" #[]).run Tryd.prog w = .ok (.enter 144 #[.agg #[a0, a1, a2, a3, a4, a5, a6, a7, a8, a9, a10]]) w := by kernel_rfl
theorem truth_datum : (callMethod (.iface 114 (.agg #[a0, a1, a2, a3, a4, a5, a6, a7, a8, a9, a10])) "Datum" #[]).run Tryd.prog w = .ok (.enter 143 #[.agg #[a0, a1, a2, a3, a4, a5, a6, a7, a8, a9, a10]]) w := by kernel_rfl
theorem figure_type : (callMethod (.iface 115 (.agg #[a0, a1, a2, a3, a4, a5, a6, a7, a8, a9, a10])) "Type" #[]).run Tryd.prog w = .ok (.enter 144 #[.agg #[a0, a1, a2, a3, a4, a5, a6, a7, a8, a9, a10]]) w := by kernel_rfl
theorem figure_datum : (callMethod (.iface 115 (.agg #[a0, a1, a2, a3, a4, a5, a6, a7, a8, a9, a10])) "Datum" #[]).run Tryd.prog w = .ok (.enter 143 #[.agg #[a0, a1, a2, a3, a4, a5, a6, a7, a8, a9, a10]]) w := by kernel_rfl
theorem letter_type : (callMethod (.iface 116 (.agg #[a0, a1, a2, a3, a4, a5, a6, a7, a8, a9, a10])) "Type" #[]).run Tryd.prog w = .ok (.enter 144 #[.agg #[a0, a1, a2, a3, a4, a5, a6, a7, a8, a9, a10]]) w := by kernel_rfl
theorem letter_datum : (callMethod (.iface 116 (.agg #[a0, a1, a2, a3, a4, a5, a6, a7, a8, a9, a10])) "Datum" #[]).run Tryd.prog w = .ok (.enter 143 #[.agg #[a0, a1, a2, a3, a4, a5, a6, a7, a8, a9, a10]]) w := by kernel_rfl
theorem row_type : (callMethod (.iface 117 (.agg #[a0, a1, a2, a3, a4, a5, a6, a7, a8, a9, a10])) "Type" #[]).run Tryd.prog w = .ok (.enter 144 #[.agg #[a0, a1, a2, a3, a4, a5, a6, a7, a8, a9, a10]]) w := by kernel_rfl
theorem row_datum : (callMethod (.iface 117 (.agg #[a0, a1, a2, a3, a4, a5, a6, a7, a8, a9, a10])) "Datum" #[]).run Tryd.prog w = .ok (.enter 143 #[.agg #[a0, a1, a2, a3, a4, a5, a6, a7, a8, a9, a10]]) w := by kernel_rfl
theorem lead_type : (callMethod (.iface 118 (.agg #[a0, a1, a2, a3, a4, a5, a6, a7, a8, a9, a10])) "Type" #[]).run Tryd.prog w = .ok (.enter 144 #[.agg #[a0, a1, a2, a3, a4, a5, a6, a7, a8, a9, a10]]) w := by kernel_rfl
theorem lead_datum : (callMethod (.iface 118 (.agg #[a0, a1, a2, a3, a4, a5, a6, a7, a8, a9, a10])) "Datum" #[]).run Tryd.prog w = .ok (.enter 143 #[.agg #[a0, a1, a2, a3, a4, a5, a6, a7, a8, a9, a10]]) w := by kernel_rfl
theorem arrow_type : (callMethod (.iface 119 (.agg #[a0, a1, a2, a3, a4, a5, a6, a7, a8, a9, a10])) "Type" #[]).run Tryd.prog w = .ok (.enter 144 #[.agg #[a0, a1, a2, a3, a4, a5, a6, a7, a8, a9, a10]]) w := by kernel_rfl
theorem arrow_datum : (callMethod (.iface 119 (.agg #[a0, a1, a2, a3, a4, a5, a6, a7, a8, a9, a10])) "Datum" #[]).run Tryd.prog w = .ok (.enter 143 #[.agg #[a0, a1, a2, a3, a4, a5, a6, a7, a8, a9, a10]]) w := by kernel_rfl
theorem record_type : (callMethod (.iface 121 (.agg #[a0, a1, a2, a3, a4, a5, a6, a7, a8, a9, a10])) "Type" #[]).run Tryd.prog w = .ok (.enter 144 #[.agg #[a0, a1, a2, a3, a4, a5, a6, a7, a8, a9, a10]]) w := by kernel_rfl
theorem record_datum : (callMethod (.iface 121 (.agg #[a0, a1, a2, a3, a4, a5, a6, a7, a8, a9, a10])) "Datum" #[]).run Tryd.prog w = .ok (.enter 143 #[.agg #[a0, a1, a2, a3, a4, a5, a6, a7, a8, a9, a10]]) w := by kernel_rfl
theorem filed_type : (callMethod (.iface 123 (.agg #[a0, a1, a2, a3, a4, a5, a6, a7, a8, a9, a10])) "Type" #[]).run Tryd.prog w = .ok (.enter 144 #[.agg #[a0, a1, a2, a3, a4, a5, a6, a7, a8, a9, a10]]) w := by kernel_rfl
theorem filed_datum : (callMethod (.iface 123 (.agg #[a0, a1, a2, a3, a4, a5, a6, a7, a8, a9, a10])) "Datum" #[]).run Tryd.prog w = .ok (.enter 143 #[.agg #[a0, a1, a2, a3, a4, a5, a6, a7, a8, a9, a10]]) w := by kernel_rfl
theorem truth_hash : (callMethod (.iface 114 (.agg #[a0, a1, a2, a3, a4, a5, a6, a7, a8, a9, a10])) "Hash" #[]).run Tryd.prog w = .ok (.enter 146 #[.agg #[a0, a1, a2, a3, a4, a5, a6, a7, a8, a9, a10]]) w := by kernel_rfl
theorem figure_hash : (callMethod (.iface 115 (.agg #[a0, a1, a2, a3, a4, a5, a6, a7, a8, a9, a10])) "Hash" #[]).run Tryd.prog w = .ok (.enter 147 #[.agg #[a0, a1, a2, a3, a4, a5, a6, a7, a8, a9, a10]]) w := by kernel_rfl
theorem letter_hash : (callMethod (.iface 116 (.agg #[a0, a1, a2, a3, a4, a5, a6, a7, a8, a9, a10])) "Hash" #[]).run Tryd.prog w = .ok (.enter 154 #[.agg #[a0, a1, a2, a3, a4, a5, a6, a7, a8, a9, a10]]) w := by kernel_rfl
theorem arrow_hash : (callMethod (.iface 119 (.agg #[a0, a1, a2, a3, a4, a5, a6, a7, a8, a9, a10])) "Hash" #[]).run Tryd.prog w = .ok (.enter 160 #[.agg #[a0, a1, a2, a3, a4, a5, a6, a7, a8, a9, a10]]) w := by kernel_rfl
theorem filed_hash : (callMethod (.iface 123 (.agg #[a0, a1, a2, a3, a4, a5, a6, a7, a8, a9, a10])) "Hash" #[]).run Tryd.prog w = .ok (.enter 162 #[.agg #[a0, a1, a2, a3, a4, a5, a6, a7, a8, a9, a10]]) w := by kernel_rfl
theorem figure_rank (x : Value) : (callMethod (.iface 115 (.agg #[a0, a1, a2, a3, a4, a5, a6, a7, a8, a9, a10])) "Rank" #[x]).run Tryd.prog w = .ok (.enter 148 #[.agg #[a0, a1, a2, a3, a4, a5, a6, a7, a8, a9, a10], x]) w := by kernel_rfl
theorem letter_rank (x : Value) : (callMethod (.iface 116 (.agg #[a0, a1, a2, a3, a4, a5, a6, a7, a8, a9, a10])) "Rank" #[x]).run Tryd.prog w = .ok (.enter 156 #[.agg #[a0, a1, a2, a3, a4, a5, a6, a7, a8, a9, a10], x]) w := by kernel_rfl
theorem letter_len : (callMethod (.iface 116 (.agg #[a0, a1, a2, a3, a4, a5, a6, a7, a8, a9, a10])) "Len" #[]).run Tryd.prog w = .ok (.enter 155 #[.agg #[a0, a1, a2, a3, a4, a5, a6, a7, a8, a9, a10]]) w := by kernel_rfl
theorem row_len : (callMethod (.iface 117 (.agg #[a0, a1, a2, a3, a4, a5, a6, a7, a8, a9, a10])) "Len" #[]).run Tryd.prog w = .ok (.enter 157 #[.agg #[a0, a1, a2, a3, a4, a5, a6, a7, a8, a9, a10]]) w := by kernel_rfl
theorem row_none : (callMethod (.iface 117 (.agg #[a0, a1, a2, a3, a4, a5, a6, a7, a8, a9, a10])) "None" #[]).run Tryd.prog w = .ok (.enter 158 #[.agg #[a0, a1, a2, a3, a4, a5, a6, a7, a8, a9, a10]]) w := by kernel_rfl
theorem lead_none : (callMethod (.iface 118 (.agg #[a0, a1, a2, a3, a4, a5, a6, a7, a8, a9, a10])) "None" #[]).run Tryd.prog w = .ok (.enter 159 #[.agg #[a0, a1, a2, a3, a4, a5, a6, a7, a8, a9, a10]]) w := by kernel_rfl
theorem arrow_none : (callMethod (.iface 119 (.agg #[a0, a1, a2, a3, a4, a5, a6, a7, a8, a9, a10])) "None" #[]).run Tryd.prog w = .ok (.enter 161 #[.agg #[a0, a1, a2, a3, a4, a5, a6, a7, a8, a9, a10]]) w := by kernel_rfl
end
end Go.Proofs.YthdmmhiifkebeaaDoor
