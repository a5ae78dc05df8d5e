/-
  The regions of between and length. Written by an AI agent.
-/
import Derived.Test.YtpggcmlddmckcaaDoorGv
namespace Go.Proofs.YtpggcmlddmckcaaDoor
open Go.RowKit Go.Sort
set_option maxRecDepth 100000
variable {a : Act} {w : World} {N : Act → World → Prop} {Q : Exit → Act → World → Prop} {l : List (Nat × Value)}
noncomputable def r_be (n : Nat) : Code := ((Tryd.f28.body.bind (findR n)).getD .skip)
noncomputable def beL0 : Code := (.seq (.seq (r_be 5) (.cond (.tmp 37) .skip (.exit 2))) (.block 3 (r_be 6)))
noncomputable def beL1 : Code := (.seq (.seq (r_be 2) (.cond (.tmp 7) .skip (.exit 0))) (.seq (.block 1 (.seq (.seq (r_be 4) (.cond (.tmp 27) (.seq (.block 2 (.loop beL0)) (.exit 1)) .skip)) (.seq (r_be 7) (.cond (.tmp 55) (.seq (r_be 8) .ret) .skip)))) (r_be 3)))
noncomputable def beBody : Code := (.seq (r_be 0) (.seq (.seq (r_be 1) (.block 0 (.loop beL1))) (.seq (r_be 9) .ret)))
theorem be_body : Tryd.f28.body = some beBody := by kernel_rfl
theorem be_r0 (hs : Sl 56 a l)
    (hN : ∀ a', Sl 56 a' ((2, .bool false) :: dropL [2] l) → N a' w) : (r_be 0).wp Tryd.prog (Exit.then N Q) a w :=
  reg (l0 := []) [2] [2] [] hs trivial (fun a' => hN a') (by kernel_rfl)
theorem be_r1 (hs : Sl 56 a l)
    (hN : ∀ a', Sl 56 a' ((3, .int .i64 0) :: dropL [3] l) → N a' w) : (r_be 1).wp Tryd.prog (Exit.then N Q) a w :=
  reg (l0 := []) [3] [3] [] hs trivial (fun a' => hN a') (by kernel_rfl)
theorem be_r2 {i : Int} {s : ByteArray} {b7 : Bool} (hs : Sl 56 a l) (e3 : l.lookup 3 = some (.int .i64 i)) (e0 : l.lookup 0 = some (.string s)) (h0 : decide (i < (s.size : Int)) = b7)
    (hN : ∀ a', Sl 56 a' ((7, .bool b7) :: dropL [4, 5, 6, 7] l) → N a' w) : (r_be 2).wp Tryd.prog (Exit.then N Q) a w :=
  reg (l0 := [(3, .int .i64 i), (0, .string s)]) [7] [4, 5, 6, 7] [.bit b7] hs ⟨e3, e0, trivial⟩ (And.intro h0 (fun a' => hN a')) (by kernel_rfl)
theorem be_r3 {i : Int} (hs : Sl 56 a l) (e3 : l.lookup 3 = some (.int .i64 i)) (h0 : -9223372036854775808 ≤ i + 1 ∧ i + 1 ≤ 9223372036854775807)
    (hN : ∀ a', Sl 56 a' ((3, .int .i64 (i + 1)) :: dropL [3, 8, 9] l) → N a' w) : (r_be 3).wp Tryd.prog (Exit.then N Q) a w :=
  reg (l0 := [(3, .int .i64 i)]) [3] [3, 8, 9] [.ari] hs ⟨e3, trivial⟩ (And.intro h0 (fun a' => hN a')) (by kernel_rfl)
theorem be_r4_tt {s : ByteArray} {i : Int} {c12 : Int} {c25 : Int} {b26 : Bool} (hs : Sl 56 a l) (e0 : l.lookup 0 = some (.string s)) (e3 : l.lookup 3 = some (.int .i64 i)) (i0 : ∀ w, (Instr.index 9 (.string s) (.int .i64 i)).run Tryd.prog w = .ok (.int .u8 c12) w) (h1 : decide (c12 = 47) = true) (h2 : -9223372036854775808 ≤ i + 1 ∧ i + 1 ≤ 9223372036854775807) (h3 : decide ((i + 1) < (s.size : Int)) = true) (i4 : ∀ w, (Instr.index 9 (.string s) (.int .i64 (i + 1))).run Tryd.prog w = .ok (.int .u8 c25) w) (h5 : decide (c25 = 47) = b26)
    (hN : ∀ a', Sl 56 a' ((27, .bool b26) :: dropL (List.range' 10 18) l) → N a' w) : (r_be 4).wp Tryd.prog (Exit.then N Q) a w :=
  reg (l0 := [(0, .string s), (3, .int .i64 i)]) [27] (List.range' 10 18) [.val (.int .u8 c12), .bit true, .ari, .bit true, .ari, .val (.int .u8 c25), .bit b26] hs ⟨e0, e3, trivial⟩ (And.intro (i0 w) (And.intro h1 (And.intro h2 (And.intro h3 (And.intro h2 (And.intro (i4 w) (And.intro h5 (fun a' => hN a')))))))) (by kernel_rfl)
theorem be_r4_tf {s : ByteArray} {i : Int} {c12 : Int} (hs : Sl 56 a l) (e0 : l.lookup 0 = some (.string s)) (e3 : l.lookup 3 = some (.int .i64 i)) (i0 : ∀ w, (Instr.index 9 (.string s) (.int .i64 i)).run Tryd.prog w = .ok (.int .u8 c12) w) (h1 : decide (c12 = 47) = true) (h2 : -9223372036854775808 ≤ i + 1 ∧ i + 1 ≤ 9223372036854775807) (h3 : decide ((i + 1) < (s.size : Int)) = false)
    (hN : ∀ a', Sl 56 a' ((27, .bool false) :: dropL (List.range' 10 18) l) → N a' w) : (r_be 4).wp Tryd.prog (Exit.then N Q) a w :=
  reg (l0 := [(0, .string s), (3, .int .i64 i)]) [27] (List.range' 10 18) [.val (.int .u8 c12), .bit true, .ari, .bit false] hs ⟨e0, e3, trivial⟩ (And.intro (i0 w) (And.intro h1 (And.intro h2 (And.intro h3 (fun a' => hN a'))))) (by kernel_rfl)
theorem be_r4_f {s : ByteArray} {i : Int} {c12 : Int} (hs : Sl 56 a l) (e0 : l.lookup 0 = some (.string s)) (e3 : l.lookup 3 = some (.int .i64 i)) (i0 : ∀ w, (Instr.index 9 (.string s) (.int .i64 i)).run Tryd.prog w = .ok (.int .u8 c12) w) (h1 : decide (c12 = 47) = false)
    (hN : ∀ a', Sl 56 a' ((27, .bool false) :: dropL (List.range' 10 18) l) → N a' w) : (r_be 4).wp Tryd.prog (Exit.then N Q) a w :=
  reg (l0 := [(0, .string s), (3, .int .i64 i)]) [27] (List.range' 10 18) [.val (.int .u8 c12), .bit false] hs ⟨e0, e3, trivial⟩ (And.intro (i0 w) (And.intro h1 (fun a' => hN a'))) (by kernel_rfl)
theorem be_r5_t {i : Int} {s : ByteArray} {c35 : Int} {b36 : Bool} (hs : Sl 56 a l) (e3 : l.lookup 3 = some (.int .i64 i)) (e0 : l.lookup 0 = some (.string s)) (h0 : decide (i < (s.size : Int)) = true) (i1 : ∀ w, (Instr.index 9 (.string s) (.int .i64 i)).run Tryd.prog w = .ok (.int .u8 c35) w) (h2 : decide (c35 ≠ 10) = b36)
    (hN : ∀ a', Sl 56 a' ((37, .bool b36) :: dropL (List.range' 28 10) l) → N a' w) : (r_be 5).wp Tryd.prog (Exit.then N Q) a w :=
  reg (l0 := [(3, .int .i64 i), (0, .string s)]) [37] (List.range' 28 10) [.bit true, .val (.int .u8 c35), .bit b36] hs ⟨e3, e0, trivial⟩ (And.intro h0 (And.intro (i1 w) (And.intro h2 (fun a' => hN a')))) (by kernel_rfl)
theorem be_r5_f {i : Int} {s : ByteArray} (hs : Sl 56 a l) (e3 : l.lookup 3 = some (.int .i64 i)) (e0 : l.lookup 0 = some (.string s)) (h0 : decide (i < (s.size : Int)) = false)
    (hN : ∀ a', Sl 56 a' ((37, .bool false) :: dropL (List.range' 28 10) l) → N a' w) : (r_be 5).wp Tryd.prog (Exit.then N Q) a w :=
  reg (l0 := [(3, .int .i64 i), (0, .string s)]) [37] (List.range' 28 10) [.bit false] hs ⟨e3, e0, trivial⟩ (And.intro h0 (fun a' => hN a')) (by kernel_rfl)
theorem be_r6 {i : Int} (hs : Sl 56 a l) (e3 : l.lookup 3 = some (.int .i64 i)) (h0 : -9223372036854775808 ≤ i + 1 ∧ i + 1 ≤ 9223372036854775807)
    (hN : ∀ a', Sl 56 a' ((3, .int .i64 (i + 1)) :: dropL [3, 38, 39] l) → N a' w) : (r_be 6).wp Tryd.prog (Exit.then N Q) a w :=
  reg (l0 := [(3, .int .i64 i)]) [3] [3, 38, 39] [.ari] hs ⟨e3, trivial⟩ (And.intro h0 (fun a' => hN a')) (by kernel_rfl)
theorem be_r7_tt {s : ByteArray} {i : Int} {c42 : Int} {b54 : Bool} (hs : Sl 56 a l) (e0 : l.lookup 0 = some (.string s)) (e3 : l.lookup 3 = some (.int .i64 i)) (i0 : ∀ w, (Instr.index 9 (.string s) (.int .i64 i)).run Tryd.prog w = .ok (.int .u8 c42) w) (h1 : decide (c42 ≠ 32) = true) (h2 : decide (c42 ≠ 9) = true) (h3 : decide (c42 ≠ 10) = b54)
    (hN : ∀ a', Sl 56 a' ((55, .bool b54) :: dropL (List.range' 40 16) l) → N a' w) : (r_be 7).wp Tryd.prog (Exit.then N Q) a w :=
  reg (l0 := [(0, .string s), (3, .int .i64 i)]) [55] (List.range' 40 16) [.val (.int .u8 c42), .bit true, .val (.int .u8 c42), .bit true, .val (.int .u8 c42), .bit b54] hs ⟨e0, e3, trivial⟩ (And.intro (i0 w) (And.intro h1 (And.intro (i0 w) (And.intro h2 (And.intro (i0 w) (And.intro h3 (fun a' => hN a'))))))) (by kernel_rfl)
theorem be_r7_tf {s : ByteArray} {i : Int} {c42 : Int} (hs : Sl 56 a l) (e0 : l.lookup 0 = some (.string s)) (e3 : l.lookup 3 = some (.int .i64 i)) (i0 : ∀ w, (Instr.index 9 (.string s) (.int .i64 i)).run Tryd.prog w = .ok (.int .u8 c42) w) (h1 : decide (c42 ≠ 32) = true) (h2 : decide (c42 ≠ 9) = false)
    (hN : ∀ a', Sl 56 a' ((55, .bool false) :: dropL (List.range' 40 16) l) → N a' w) : (r_be 7).wp Tryd.prog (Exit.then N Q) a w :=
  reg (l0 := [(0, .string s), (3, .int .i64 i)]) [55] (List.range' 40 16) [.val (.int .u8 c42), .bit true, .val (.int .u8 c42), .bit false] hs ⟨e0, e3, trivial⟩ (And.intro (i0 w) (And.intro h1 (And.intro (i0 w) (And.intro h2 (fun a' => hN a'))))) (by kernel_rfl)
theorem be_r7_f {s : ByteArray} {i : Int} {c42 : Int} (hs : Sl 56 a l) (e0 : l.lookup 0 = some (.string s)) (e3 : l.lookup 3 = some (.int .i64 i)) (i0 : ∀ w, (Instr.index 9 (.string s) (.int .i64 i)).run Tryd.prog w = .ok (.int .u8 c42) w) (h1 : decide (c42 ≠ 32) = false)
    (hN : ∀ a', Sl 56 a' ((55, .bool false) :: dropL (List.range' 40 16) l) → N a' w) : (r_be 7).wp Tryd.prog (Exit.then N Q) a w :=
  reg (l0 := [(0, .string s), (3, .int .i64 i)]) [55] (List.range' 40 16) [.val (.int .u8 c42), .bit false] hs ⟨e0, e3, trivial⟩ (And.intro (i0 w) (And.intro h1 (fun a' => hN a'))) (by kernel_rfl)
theorem be_r8 (hs : Sl 56 a l)
    (hN : ∀ a', Sl 56 a' ((2, .bool false) :: dropL [2] l) → N a' w) : (r_be 8).wp Tryd.prog (Exit.then N Q) a w :=
  reg (l0 := []) [2] [2] [] hs trivial (fun a' => hN a') (by kernel_rfl)
theorem be_r9 (hs : Sl 56 a l)
    (hN : ∀ a', Sl 56 a' ((2, .bool true) :: dropL [2] l) → N a' w) : (r_be 9).wp Tryd.prog (Exit.then N Q) a w :=
  reg (l0 := []) [2] [2] [] hs trivial (fun a' => hN a') (by kernel_rfl)
noncomputable def r_le (n : Nat) : Code := ((Tryd.f29.body.bind (findR n)).getD .skip)
noncomputable def leL0 : Code := (.seq (.seq (r_le 2) (.cond (.tmp 15) .skip (.exit 0))) (.seq (.block 1 (.seq (.seq (r_le 4) (.cond (.tmp 22) (.exit 1) .skip)) (.seq (r_le 5) (.seq (r_le 6) (.cond (.tmp 32) (.seq (.seq (r_le 7) (.cond (.tmp 35) (.seq (r_le 8) .ret) .skip)) (.seq (r_le 9) .ret)) .skip))))) (r_le 3)))
noncomputable def leBody : Code := (.seq (r_le 0) (.seq (.seq (r_le 1) (.block 0 (.loop leL0))) (.seq (r_le 10) .ret)))
theorem le_body : Tryd.f29.body = some leBody := by kernel_rfl
theorem le_r0 (hs : Sl 39 a l)
    (hN : ∀ a', Sl 39 a' ((6, .int .i64 0) :: dropL [6] l) → N a' w) : (r_le 0).wp Tryd.prog (Exit.then N Q) a w :=
  reg (l0 := []) [6] [6] [] hs trivial (fun a' => hN a') (by kernel_rfl)
theorem le_r1 {i : Int} (hs : Sl 39 a l) (e1 : l.lookup 1 = some (.int .i64 i)) (h0 : -9223372036854775808 ≤ i + 2 ∧ i + 2 ≤ 9223372036854775807)
    (hN : ∀ a', Sl 39 a' ((7, .int .i64 (i + 2)) :: dropL [7, 10, 11] l) → N a' w) : (r_le 1).wp Tryd.prog (Exit.then N Q) a w :=
  reg (l0 := [(1, .int .i64 i)]) [7] [7, 10, 11] [.ari] hs ⟨e1, trivial⟩ (And.intro h0 (fun a' => hN a')) (by kernel_rfl)
theorem le_r2 {k : Int} {s : ByteArray} {b15 : Bool} (hs : Sl 39 a l) (e7 : l.lookup 7 = some (.int .i64 k)) (e0 : l.lookup 0 = some (.string s)) (h0 : decide (k ≤ (s.size : Int)) = b15)
    (hN : ∀ a', Sl 39 a' ((15, .bool b15) :: dropL [12, 13, 14, 15] l) → N a' w) : (r_le 2).wp Tryd.prog (Exit.then N Q) a w :=
  reg (l0 := [(7, .int .i64 k), (0, .string s)]) [15] [12, 13, 14, 15] [.bit b15] hs ⟨e7, e0, trivial⟩ (And.intro h0 (fun a' => hN a')) (by kernel_rfl)
theorem le_r3 {k : Int} (hs : Sl 39 a l) (e7 : l.lookup 7 = some (.int .i64 k)) (h0 : -9223372036854775808 ≤ k + 1 ∧ k + 1 ≤ 9223372036854775807)
    (hN : ∀ a', Sl 39 a' ((7, .int .i64 (k + 1)) :: dropL [7, 16, 17] l) → N a' w) : (r_le 3).wp Tryd.prog (Exit.then N Q) a w :=
  reg (l0 := [(7, .int .i64 k)]) [7] [7, 16, 17] [.ari] hs ⟨e7, trivial⟩ (And.intro h0 (fun a' => hN a')) (by kernel_rfl)
theorem le_r4 {s : ByteArray} {k : Int} {c21 : Int} {b22 : Bool} (hs : Sl 39 a l) (e0 : l.lookup 0 = some (.string s)) (e7 : l.lookup 7 = some (.int .i64 k)) (h0 : -9223372036854775808 ≤ k - 1 ∧ k - 1 ≤ 9223372036854775807) (i1 : ∀ w, (Instr.index 9 (.string s) (.int .i64 (k - 1))).run Tryd.prog w = .ok (.int .u8 c21) w) (h2 : decide (c21 ≠ 34) = b22)
    (hN : ∀ a', Sl 39 a' ((22, .bool b22) :: dropL [18, 19, 20, 21, 22] l) → N a' w) : (r_le 4).wp Tryd.prog (Exit.then N Q) a w :=
  reg (l0 := [(0, .string s), (7, .int .i64 k)]) [22] [18, 19, 20, 21, 22] [.ari, .val (.int .u8 c21), .bit b22] hs ⟨e0, e7, trivial⟩ (And.intro h0 (And.intro (i1 w) (And.intro h2 (fun a' => hN a')))) (by kernel_rfl)
theorem le_r5 {s : ByteArray} {i : Int} {k : Int} {s27 : ByteArray} {C0 : Value → Value → World → Prop} (hs : Sl 39 a l) (e0 : l.lookup 0 = some (.string s)) (e1 : l.lookup 1 = some (.int .i64 i)) (e7 : l.lookup 7 = some (.int .i64 k)) (i0 : ∀ w, (Instr.sliceAt 9 (.string s) (some (.int .i64 i)) (some (.int .i64 k)) none).run Tryd.prog w = .ok (.string s27) w) (k1 : Calls Tryd.prog 18 #[.string s27] w fun e w' => ∃ x28a x28b, e = .returned (.tuple #[x28a, x28b]) ∧ C0 x28a x28b w')
    (hN : ∀ a' (x28a : Value) (x28b : Value) (w1 : World), C0 x28a x28b w1 → Sl 39 a' ((8, x28a) :: (9, x28b) :: dropL (8 :: 9 :: List.range' 23 8) l) → N a' w1) : (r_le 5).wp Tryd.prog (Exit.then N Q) a w :=
  reg (l0 := [(0, .string s), (1, .int .i64 i), (7, .int .i64 k)]) [8, 9] (8 :: 9 :: List.range' 23 8) [.val (.string s27), .con2 C0] hs ⟨e0, e1, e7, trivial⟩ (And.intro (i0 w) (And.intro k1 (fun (x28a : Value) (x28b : Value) (w1 : World) (hc0 : C0 x28a x28b w1) => (fun a' => hN a' x28a x28b w1 hc0)))) (by kernel_rfl)
theorem le_r6n (hs : Sl 39 a l) (e9 : l.lookup 9 = some (.nilIface))
    (hN : ∀ a', Sl 39 a' ((32, .bool true) :: dropL [31, 32] l) → N a' w) : (r_le 6).wp Tryd.prog (Exit.then N Q) a w :=
  reg (l0 := [(9, .nilIface)]) [32] [31, 32] [.raw] hs ⟨e9, trivial⟩ (fun a' => hN a') (by kernel_rfl)
theorem le_r6e {g : Nat} (hs : Sl 39 a l) (e9 : l.lookup 9 = some (.iface 58 (.pointer (some ⟨g, 0, none⟩))))
    (hN : ∀ a', Sl 39 a' ((32, .bool false) :: dropL [31, 32] l) → N a' w) : (r_le 6).wp Tryd.prog (Exit.then N Q) a w :=
  reg (l0 := [(9, .iface 58 (.pointer (some ⟨g, 0, none⟩)))]) [32] [31, 32] [.raw] hs ⟨e9, trivial⟩ (fun a' => hN a') (by kernel_rfl)
theorem le_r7 {t : ByteArray} {y : ByteArray} {b35 : Bool} (hs : Sl 39 a l) (e8 : l.lookup 8 = some (.string t)) (e2 : l.lookup 2 = some (.string y)) (h0 : decide (t ≠ y) = b35)
    (hN : ∀ a', Sl 39 a' ((35, .bool b35) :: dropL [33, 34, 35] l) → N a' w) : (r_le 7).wp Tryd.prog (Exit.then N Q) a w :=
  reg (l0 := [(8, .string t), (2, .string y)]) [35] [33, 34, 35] [.bit b35] hs ⟨e8, e2, trivial⟩ (And.intro h0 (fun a' => hN a')) (by kernel_rfl)
theorem le_r8 (hs : Sl 39 a l)
    (hN : ∀ a', Sl 39 a' ((6, .int .i64 0) :: dropL [6] l) → N a' w) : (r_le 8).wp Tryd.prog (Exit.then N Q) a w :=
  reg (l0 := []) [6] [6] [] hs trivial (fun a' => hN a') (by kernel_rfl)
theorem le_r9 {k : Int} {i : Int} (hs : Sl 39 a l) (e7 : l.lookup 7 = some (.int .i64 k)) (e1 : l.lookup 1 = some (.int .i64 i)) (h0 : -9223372036854775808 ≤ k - i ∧ k - i ≤ 9223372036854775807)
    (hN : ∀ a', Sl 39 a' ((6, .int .i64 (k - i)) :: dropL [6, 36, 37, 38] l) → N a' w) : (r_le 9).wp Tryd.prog (Exit.then N Q) a w :=
  reg (l0 := [(7, .int .i64 k), (1, .int .i64 i)]) [6] [6, 36, 37, 38] [.ari] hs ⟨e7, e1, trivial⟩ (And.intro h0 (fun a' => hN a')) (by kernel_rfl)
theorem le_r10 (hs : Sl 39 a l)
    (hN : ∀ a', Sl 39 a' ((6, .int .i64 0) :: dropL [6] l) → N a' w) : (r_le 10).wp Tryd.prog (Exit.then N Q) a w :=
  reg (l0 := []) [6] [6] [] hs trivial (fun a' => hN a') (by kernel_rfl)
end Go.Proofs.YtpggcmlddmckcaaDoor
