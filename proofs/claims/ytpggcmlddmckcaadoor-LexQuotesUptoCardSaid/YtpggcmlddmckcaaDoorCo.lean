/-
  Contracts of the law's small words: code, told, fresh; when two tokens are one. Written by an AI agent.
-/
import Derived.Test.YtpggcmlddmckcaaDoorQu2
import Derived.LaidEqlPtr
namespace Go.Proofs.YtpggcmlddmckcaaDoor
open Go.RowKit Go.Sort
set_option maxRecDepth 100000

theorem assert_wrong (v : Value) (w : World) : (Instr.typeAssert (.iface 58 v) 30 58 true).run Tryd.prog w = .ok (.tuple #[v, .bool true]) w := by kernel_rfl
theorem assert_wrong_nil (w : World) : (Instr.typeAssert .nilIface 30 58 true).run Tryd.prog w = .ok (.tuple #[.pointer none, .bool false]) w := by kernel_rfl
theorem bytes_one {a b : ByteArray} (h : a.toList = b.toList) : a = b := by
  obtain ⟨⟨a⟩⟩ := a
  obtain ⟨⟨b⟩⟩ := b
  simp only [Lib.toList_data] at h
  simpa using h
theorem eqWrong (a b c d : Int) (x y : ByteArray) (w : World) : (binOp .eql 26 (.agg #[.int .i64 a, .int .i64 b, .string x]) (.agg #[.int .i64 c, .int .i64 d, .string y])).run Tryd.prog w = .ok (.bool (decide (a = c ∧ b = d ∧ x = y))) w := by
  have e : decide (a = c ∧ b = d ∧ x = y) = decide (a = c ∧ b = d ∧ x.toList = y.toList) := by
    rw [decide_eq_decide]
    exact ⟨fun ⟨h1, h2, h3⟩ => ⟨h1, h2, by rw [h3]⟩, fun ⟨h1, h2, h3⟩ => ⟨h1, h2, bytes_one h3⟩⟩
  rw [e]
  simp [go_sem, Tryd.underlying26]
  by_cases h1 : a = c <;> by_cases h2 : b = d <;> by_cases h3 : x.toList = y.toList <;> simp [h1, h2, h3]
theorem eqTok (a b c d : Int) (x y : ByteArray) (w : World) : (binOp .eql 48 (.agg #[.int .i64 a, .string x, .int .i64 b]) (.agg #[.int .i64 c, .string y, .int .i64 d])).run Tryd.prog w = .ok (.bool (decide (a = c ∧ x = y ∧ b = d))) w := by
  have e : decide (a = c ∧ x = y ∧ b = d) = decide (a = c ∧ x.toList = y.toList ∧ b = d) := by
    rw [decide_eq_decide]
    exact ⟨fun ⟨h1, h2, h3⟩ => ⟨h1, by rw [h2], h3⟩, fun ⟨h1, h2, h3⟩ => ⟨h1, bytes_one h2, h3⟩⟩
  rw [e]
  simp [go_sem, Tryd.underlying48]
  by_cases h1 : a = c <;> by_cases h2 : b = d <;> by_cases h3 : x.toList = y.toList <;> simp [h1, h2, h3]

theorem code_nil (w : World) : Calls Tryd.prog 27 #[.nilIface] w fun e w' => e = .returned (.tuple #[.int .i64 0, .int .i64 0]) ∧ Below w.heap.size w w' := by
  go_enter Tryd.func27, Tryd.ntmps27
  go_wp2_with fail
  go_ret2
  exact ⟨rfl, Below.refl _ _⟩
theorem code_bad (w : World) (g : Nat) (c p : Int) (h : Blk w g 26 #[.int .i64 c, .int .i64 p, .string ⟨#[]⟩]) : Calls Tryd.prog 27 #[.iface 58 (.pointer (some ⟨g, 0, none⟩))] w fun e w' => e = .returned (.tuple #[.int .i64 c, .int .i64 p]) ∧ Below w.heap.size w w' := by
  have c0 := h.cell 0
  have c1 := h.cell 1
  have c2 := h.cell 2
  simp at c0 c1 c2
  clear h
  have hn := assert_wrong
  go_enter Tryd.func27, Tryd.ntmps27
  go_wp2_with fail
  go_quiet (fail)
  go_wp2_with fail
  go_ret2
  exact ⟨rfl, rfl, rfl, rfl, Nat.le_refl _, fun _ _ => rfl⟩
theorem told_nil (w : World) : Calls Tryd.prog 14 #[.nilIface, .agg #[.int .i64 0, .int .i64 0, .string ⟨#[]⟩]] w fun e w' => e = .returned (.bool true) ∧ Below w.heap.size w w' := by
  go_enter Tryd.func14, Tryd.ntmps14
  go_wp2_with fail
  go_ret
  exact ⟨rfl, bl_alloc (Below.refl _ _) _⟩
theorem told_bad (w : World) (g : Nat) (c p : Int) (hc : (c == 0) = false) (h : Blk w g 26 #[.int .i64 c, .int .i64 p, .string ⟨#[]⟩]) : Calls Tryd.prog 14 #[.iface 58 (.pointer (some ⟨g, 0, none⟩)), .agg #[.int .i64 c, .int .i64 p, .string ⟨#[]⟩]] w fun e w' => e = .returned (.bool true) ∧ Below w.heap.size w w' := by
  have hA := h.alloc (.cells #[.int .i64 c, .int .i64 p, .string ⟨#[]⟩] 26)
  have c0 := hA.cell 0
  have c1 := hA.cell 1
  have c2 := hA.cell 2
  simp at c0 c1 c2
  clear h hA
  have hn := assert_wrong
  have hq := eqWrong c p c p ⟨#[]⟩ ⟨#[]⟩
  go_enter Tryd.func14, Tryd.ntmps14
  go_wp2_with fail
  go_quiet (fail)
  go_wp2_with fail
  go_ret
  have hbl := bl_alloc (Below.refl w.heap.size w) (.cells #[.int .i64 c, .int .i64 p, .string ⟨#[]⟩] 26)
  exact ⟨by simp, hbl.os, hbl.tape, hbl.output, hbl.size, hbl.block⟩
theorem fresh_nil (w : World) : Calls Tryd.prog 15 #[.nilIface, .nilIface] w fun e w' => e = .returned (.bool true) ∧ Below w.heap.size w w' := by
  have hn := assert_wrong_nil
  go_enter Tryd.func15, Tryd.ntmps15
  go_wp2_with fail
  go_ret
  exact ⟨rfl, Below.refl _ _⟩
theorem info_wrong : (Tryd.prog.info? 26).map (fun i => i.size) = some 3 := by kernel_rfl
theorem neq_ptr (w : World) (g g' : Nat) (h : g ≠ g') (cs cs' : Array Value) (h1 : Blk w g 26 cs) (h2 : Blk w g' 26 cs') : (binOp .neq 58 (.pointer (some ⟨g, 0, none⟩)) (.pointer (some ⟨g', 0, none⟩))).run Tryd.prog w = .ok (.bool true) w := by
  obtain ⟨j, hj, hs⟩ := Option.map_eq_some_iff.1 info_wrong
  have h : ∀ d : Nat, (Op.equalIn (d + 1) 58 (.pointer (some ⟨g, 0, none⟩)) (.pointer (some ⟨g', 0, none⟩))).run Tryd.prog w = .ok false w := fun d => by
    simp [Op.equalIn, run_underlying Tryd.underlying58, sizeOf, typeInfo, hj, hs, run_sameAddr_other w (a := ⟨g, 0, none⟩) (b := ⟨g', 0, none⟩) (fun e => h (congrArg Addr.block e)) h1 h2]
  simp only [binOp]
  simp [Op.equal, Op.maxDepth, h 9999]
theorem fresh_bad (w : World) (g g' : Nat) (h : g ≠ g') (cs cs' : Array Value) (h1 : Blk w g 26 cs) (h2 : Blk w g' 26 cs') : Calls Tryd.prog 15 #[.iface 58 (.pointer (some ⟨g, 0, none⟩)), .iface 58 (.pointer (some ⟨g', 0, none⟩))] w fun e w' => e = .returned (.bool true) ∧ Below w.heap.size w w' := by
  have hn := assert_wrong
  have hne := neq_ptr w g g' h cs cs' h1 h2
  clear h1 h2
  go_enter Tryd.func15, Tryd.ntmps15
  go_wp2_with fail
  go_ret
  exact ⟨rfl, Below.refl _ _⟩
end Go.Proofs.YtpggcmlddmckcaaDoor
