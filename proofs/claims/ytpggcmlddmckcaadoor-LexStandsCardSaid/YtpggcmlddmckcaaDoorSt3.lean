/-
  The regions of LexStands. Written by an AI agent.
-/
import Derived.Test.YtpggcmlddmckcaaDoorGv
namespace Go.Proofs.YtpggcmlddmckcaaDoor
open Go.RowKit Go.Sort
set_option maxRecDepth 100000
variable {a : Act} {w : World} {N : Act → World → Prop} {Q : Exit → Act → World → Prop} {l : List (Nat × Value)}
noncomputable def r_st (n : Nat) : Code := ((Tryd.f7.body.bind (findR n)).getD .skip)
noncomputable def stL0 : Code := (.seq (.seq (r_st 7) (.cond (.tmp 37) .skip (.exit 0))) (.seq (.block 1 (.seq (r_st 9) (.seq (.seq (r_st 10) (.cond (.tmp 63) (.seq (r_st 11) .ret) .skip)) (.seq (r_st 12) (.seq (.seq (r_st 13) (.block 2 (.seq (r_st 15) (.cond (.tmp 69) (.seq (r_st 16) (.seq (.seq (r_st 17) (.cond (.tmp 94) (.seq (r_st 18) .ret) .skip)) (.seq (r_st 19) (.cond (.tmp 99) (r_st 20) .skip)))) (.seq (r_st 21) (.cond (.tmp 100) (.seq (r_st 22) (.seq (r_st 23) (.cond (.tmp 109) (.seq (r_st 24) .ret) .skip))) (.seq (.seq (r_st 25) (.cond (.tmp 110) .skip (.seq (r_st 26) (.cond (.tmp 110) .skip (.seq (r_st 27) (.cond (.tmp 110) .skip (.seq (r_st 28) (.cond (.tmp 110) .skip (r_st 29))))))))) (.cond (.tmp 110) (.seq (.seq (r_st 30) (.cond (.tmp 139) (.seq (r_st 31) .ret) .skip)) (.seq (r_st 32) (.seq (r_st 33) (.seq (r_st 34) (.cond (.tmp 157) (.seq (r_st 35) .ret) .skip))))) (.seq (r_st 14) .ret))))))))) (r_st 36)))))) (r_st 8)))
noncomputable def stBody : Code := (.seq (r_st 0) (.seq (r_st 1) (.seq (r_st 2) (.seq (.seq (r_st 3) (.cond (.tmp 23) (.seq (r_st 4) .ret) .skip)) (.seq (r_st 5) (.seq (.seq (r_st 6) (.block 0 (.loop stL0))) (.seq (r_st 37) .ret)))))))
theorem st_body : Tryd.f7.body = some stBody := by kernel_rfl
theorem st_r0 (hs : Sl 171 a l)
    (hN : ∀ a', Sl 171 a' ((2, .bool false) :: dropL [2] l) → N a' w) : (r_st 0).wp Tryd.prog (Exit.then N Q) a w :=
  reg (l0 := []) [2] [2] [] hs trivial (fun a' => hN a') (by kernel_rfl)
theorem st_r1 {b12 : Bool} {C0 : World → Prop} (hs : Sl 171 a l) (k0 : Calls Tryd.prog 10 #[] w fun e w' => e = .returned (.bool b12) ∧ C0 w')
    (hN : ∀ a' (w1 : World), C0 w1 → Sl 171 a' ((3, .bool b12) :: dropL [3, 12] l) → N a' w1) : (r_st 1).wp Tryd.prog (Exit.then N Q) a w :=
  reg (l0 := []) [3] [3, 12] [.ret (.bool b12) C0] hs trivial (And.intro k0 (fun (w1 : World) (hc0 : C0 w1) => (fun a' => hN a' w1 hc0))) (by kernel_rfl)
theorem st_r2 {s : ByteArray} {C0 : Value → Value → World → Prop} (hs : Sl 171 a l) (e0 : l.lookup 0 = some (.string s)) (k0 : Calls Tryd.prog 12 #[.string s] w fun e w' => ∃ x15a x15b, e = .returned (.tuple #[x15a, x15b]) ∧ C0 x15a x15b w')
    (hN : ∀ a' (x15a : Value) (x15b : Value) (w1 : World), C0 x15a x15b w1 → Sl 171 a' ((4, x15a) :: (5, x15b) :: dropL [4, 5, 13, 14, 15, 16, 17] l) → N a' w1) : (r_st 2).wp Tryd.prog (Exit.then N Q) a w :=
  reg (l0 := [(0, .string s)]) [4, 5] [4, 5, 13, 14, 15, 16, 17] [.con2 C0] hs ⟨e0, trivial⟩ (And.intro k0 (fun (x15a : Value) (x15b : Value) (w1 : World) (hc0 : C0 x15a x15b w1) => (fun a' => hN a' x15a x15b w1 hc0))) (by kernel_rfl)
theorem st_r3n (hs : Sl 171 a l) (e3 : l.lookup 3 = some (.bool true)) (e5 : l.lookup 5 = some (.nilIface))
    (hN : ∀ a', Sl 171 a' ((23, .bool false) :: dropL [18, 19, 20, 21, 22, 23] l) → N a' w) : (r_st 3).wp Tryd.prog (Exit.then N Q) a w :=
  reg (l0 := [(3, .bool true), (5, .nilIface)]) [23] [18, 19, 20, 21, 22, 23] [.raw] hs ⟨e3, e5, trivial⟩ (fun a' => hN a') (by kernel_rfl)
theorem st_r3e {g : Nat} (hs : Sl 171 a l) (e3 : l.lookup 3 = some (.bool true)) (e5 : l.lookup 5 = some (.iface 58 (.pointer (some ⟨g, 0, none⟩))))
    (hN : ∀ a', Sl 171 a' ((23, .bool true) :: dropL [18, 19, 20, 21, 22, 23] l) → N a' w) : (r_st 3).wp Tryd.prog (Exit.then N Q) a w :=
  reg (l0 := [(3, .bool true), (5, .iface 58 (.pointer (some ⟨g, 0, none⟩)))]) [23] [18, 19, 20, 21, 22, 23] [.raw] hs ⟨e3, e5, trivial⟩ (fun a' => hN a') (by kernel_rfl)
theorem st_r4 {d4 : Option Addr} {n4 : Nat} {q4 : Nat} {b28 : Bool} (hs : Sl 171 a l) (e3 : l.lookup 3 = some (.bool true)) (e4 : l.lookup 4 = some (.slice d4 n4 q4)) (h0 : decide ((n4 : Int) = 0) = b28)
    (hN : ∀ a', Sl 171 a' ((2, .bool b28) :: dropL (2 :: List.range' 24 6) l) → N a' w) : (r_st 4).wp Tryd.prog (Exit.then N Q) a w :=
  reg (l0 := [(3, .bool true), (4, .slice d4 n4 q4)]) [2] (2 :: List.range' 24 6) [.bit b28] hs ⟨e3, e4, trivial⟩ (And.intro h0 (fun a' => hN a')) (by kernel_rfl)
theorem st_r5 (hs : Sl 171 a l)
    (hN : ∀ a', Sl 171 a' ((6, .int .i64 0) :: dropL [6] l) → N a' w) : (r_st 5).wp Tryd.prog (Exit.then N Q) a w :=
  reg (l0 := []) [6] [6] [] hs trivial (fun a' => hN a') (by kernel_rfl)
theorem st_r6 (hs : Sl 171 a l)
    (hN : ∀ a', Sl 171 a' ((7, .int .i64 0) :: dropL [7] l) → N a' w) : (r_st 6).wp Tryd.prog (Exit.then N Q) a w :=
  reg (l0 := []) [7] [7] [] hs trivial (fun a' => hN a') (by kernel_rfl)
theorem st_r7_t {i : Nat} {d4 : Option Addr} {n4 : Nat} {q4 : Nat} {b36 : Bool} (hs : Sl 171 a l) (e7 : l.lookup 7 = some (.int .i64 (i : Int))) (e4 : l.lookup 4 = some (.slice d4 n4 q4)) (h0 : decide ((i : Int) < (n4 : Int)) = true) (h1 : decide ((i : Int) < 3000) = b36)
    (hN : ∀ a', Sl 171 a' ((37, .bool b36) :: dropL (List.range' 30 8) l) → N a' w) : (r_st 7).wp Tryd.prog (Exit.then N Q) a w :=
  reg (l0 := [(7, .int .i64 (i : Int)), (4, .slice d4 n4 q4)]) [37] (List.range' 30 8) [.bit true, .bit b36] hs ⟨e7, e4, trivial⟩ (And.intro h0 (And.intro h1 (fun a' => hN a'))) (by kernel_rfl)
theorem st_r7_f {i : Nat} {d4 : Option Addr} {n4 : Nat} {q4 : Nat} (hs : Sl 171 a l) (e7 : l.lookup 7 = some (.int .i64 (i : Int))) (e4 : l.lookup 4 = some (.slice d4 n4 q4)) (h0 : decide ((i : Int) < (n4 : Int)) = false)
    (hN : ∀ a', Sl 171 a' ((37, .bool false) :: dropL (List.range' 30 8) l) → N a' w) : (r_st 7).wp Tryd.prog (Exit.then N Q) a w :=
  reg (l0 := [(7, .int .i64 (i : Int)), (4, .slice d4 n4 q4)]) [37] (List.range' 30 8) [.bit false] hs ⟨e7, e4, trivial⟩ (And.intro h0 (fun a' => hN a')) (by kernel_rfl)
theorem st_r8 {i : Nat} (hs : Sl 171 a l) (e7 : l.lookup 7 = some (.int .i64 (i : Int))) (h0 : -9223372036854775808 ≤ (i : Int) + 1 ∧ (i : Int) + 1 ≤ 9223372036854775807)
    (hN : ∀ a', Sl 171 a' ((7, .int .i64 ((i : Int) + 1)) :: dropL [7, 38, 39] l) → N a' w) : (r_st 8).wp Tryd.prog (Exit.then N Q) a w :=
  reg (l0 := [(7, .int .i64 (i : Int))]) [7] [7, 38, 39] [.ari] hs ⟨e7, trivial⟩ (And.intro h0 (fun a' => hN a')) (by kernel_rfl)
theorem st_r9 {d4 : Option Addr} {n4 : Nat} {q4 : Nat} {i : Nat} {g42 : Nat} {o42 : Nat} {k : Int} {x : ByteArray} {p : Int} (hs : Sl 171 a l) (e4 : l.lookup 4 = some (.slice d4 n4 q4)) (e7 : l.lookup 7 = some (.int .i64 (i : Int))) (i0 : ∀ w, (Instr.indexAt 23 (.slice d4 n4 q4) (.int .i64 (i : Int))).run Tryd.prog w = .ok (.pointer (some (⟨g42, o42, none⟩))) w) (l1 : Lds Tryd.prog 48 (.pointer (some (⟨g42, o42, none⟩))) (.agg #[.int .i64 k, .string x, .int .i64 p]) w) (s2 : (Instr.storeAt 48 (.pointer (some (⟨w.heap.size, 0, none⟩))) (.agg #[.int .i64 k, .string x, .int .i64 p])).run Tryd.prog (w.alloc (.cells #[.int .i64 0, .string (⟨#[]⟩), .int .i64 0] 48)) = .ok () ((w.alloc (.cells #[.int .i64 0, .string (⟨#[]⟩), .int .i64 0] 48)).setCells w.heap.size 0 [.int .i64 k, .string x, .int .i64 p]))
    (hN : ∀ a', Sl 171 a' ((8, .pointer (some (⟨w.heap.size, 0, none⟩))) :: dropL [8, 40, 41, 42, 43] l) → N a' ((w.alloc (.cells #[.int .i64 0, .string (⟨#[]⟩), .int .i64 0] 48)).setCells w.heap.size 0 [.int .i64 k, .string x, .int .i64 p])) : (r_st 9).wp Tryd.prog (Exit.then N Q) a w :=
  reg (l0 := [(4, .slice d4 n4 q4), (7, .int .i64 (i : Int))]) [8] [8, 40, 41, 42, 43] [.val (.pointer (some (⟨g42, o42, none⟩))), .val (.agg #[.int .i64 k, .string x, .int .i64 p]), .raw, .sto] hs ⟨e4, e7, trivial⟩ (And.intro (i0 w) (And.intro (l1).run (And.intro s2 (fun a' => hN a')))) (by kernel_rfl)
theorem st_r10_ff {g : Nat} {tp : Int} {p : Int} {s : ByteArray} {s60 : ByteArray} {b61 : Bool} {C0 : World → Prop} (hs : Sl 171 a l) (e8 : l.lookup 8 = some (.pointer (some (⟨g, 0, none⟩)))) (e6 : l.lookup 6 = some (.int .i64 p)) (e0 : l.lookup 0 = some (.string s)) (l0 : Lds Tryd.prog 3 (.pointer (some (⟨g, 2, none⟩))) (.int .i64 tp) w) (h1 : decide (tp < p) = false) (h2 : decide ((s.size : Int) < tp) = false) (i3 : ∀ w, (Instr.sliceAt 9 (.string s) (some (.int .i64 p)) (some (.int .i64 tp)) none).run Tryd.prog w = .ok (.string s60) w) (k4 : Calls Tryd.prog 28 #[.string s60] w fun e w' => e = .returned (.bool b61) ∧ C0 w')
    (hN : ∀ a' (w1 : World), C0 w1 → Sl 171 a' ((63, .bool (!b61)) :: dropL (List.range' 44 20) l) → N a' w1) : (r_st 10).wp Tryd.prog (Exit.then N Q) a w :=
  reg (l0 := [(8, .pointer (some (⟨g, 0, none⟩))), (6, .int .i64 p), (0, .string s)]) [63] (List.range' 44 20) [.val (.int .i64 tp), .bit false, .val (.int .i64 tp), .bit false, .val (.int .i64 tp), .val (.string s60), .ret (.bool b61) C0] hs ⟨e8, e6, e0, trivial⟩ (And.intro (l0).run (And.intro h1 (And.intro (l0).run (And.intro h2 (And.intro (l0).run (And.intro (i3 w) (And.intro k4 (fun (w1 : World) (hc0 : C0 w1) => (fun a' => hN a' w1 hc0))))))))) (by kernel_rfl)
theorem st_r12 {g : Nat} {s65 : ByteArray} (hs : Sl 171 a l) (e8 : l.lookup 8 = some (.pointer (some (⟨g, 0, none⟩)))) (l0 : Lds Tryd.prog 9 (.pointer (some (⟨g, 1, none⟩))) (.string s65) w)
    (hN : ∀ a', Sl 171 a' ((9, .int .i64 (s65.size : Int)) :: dropL [9, 64, 65, 66] l) → N a' w) : (r_st 12).wp Tryd.prog (Exit.then N Q) a w :=
  reg (l0 := [(8, .pointer (some (⟨g, 0, none⟩)))]) [9] [9, 64, 65, 66] [.val (.string s65)] hs ⟨e8, trivial⟩ (And.intro (l0).run (fun a' => hN a')) (by kernel_rfl)
theorem st_r13 {g : Nat} {v68 : Int} (hs : Sl 171 a l) (e8 : l.lookup 8 = some (.pointer (some (⟨g, 0, none⟩)))) (l0 : Lds Tryd.prog 3 (.pointer (some (⟨g, 0, none⟩))) (.int .i64 v68) w)
    (hN : ∀ a', Sl 171 a' ((68, .int .i64 v68) :: dropL [67, 68] l) → N a' w) : (r_st 13).wp Tryd.prog (Exit.then N Q) a w :=
  reg (l0 := [(8, .pointer (some (⟨g, 0, none⟩)))]) [68] [67, 68] [.val (.int .i64 v68)] hs ⟨e8, trivial⟩ (And.intro (l0).run (fun a' => hN a')) (by kernel_rfl)
theorem st_r14 (hs : Sl 171 a l)
    (hN : ∀ a', Sl 171 a' ((2, .bool false) :: dropL [2] l) → N a' w) : (r_st 14).wp Tryd.prog (Exit.then N Q) a w :=
  reg (l0 := []) [2] [2] [] hs trivial (fun a' => hN a') (by kernel_rfl)
theorem st_r15 {k : Int} {b70 : Bool} (hs : Sl 171 a l) (e68 : l.lookup 68 = some (.int .i64 k)) (h0 : decide (k = 1) = b70)
    (hN : ∀ a', Sl 171 a' ((69, .bool b70) :: dropL [69, 70] l) → N a' w) : (r_st 15).wp Tryd.prog (Exit.then N Q) a w :=
  reg (l0 := [(68, .int .i64 k)]) [69] [69, 70] [.bit b70] hs ⟨e68, trivial⟩ (And.intro h0 (fun a' => hN a')) (by kernel_rfl)
theorem st_r16 (hs : Sl 171 a l)
    (hN : ∀ a', Sl 171 a' ((9, .int .i64 0) :: dropL [9] l) → N a' w) : (r_st 16).wp Tryd.prog (Exit.then N Q) a w :=
  reg (l0 := []) [9] [9] [] hs trivial (fun a' => hN a') (by kernel_rfl)
theorem st_r17_t {g : Nat} {x : ByteArray} (hs : Sl 171 a l) (e8 : l.lookup 8 = some (.pointer (some (⟨g, 0, none⟩)))) (l0 : Lds Tryd.prog 9 (.pointer (some (⟨g, 1, none⟩))) (.string x) w) (h1 : decide (x ≠ (⟨#[]⟩)) = true)
    (hN : ∀ a', Sl 171 a' ((94, .bool true) :: dropL (List.range' 71 24) l) → N a' w) : (r_st 17).wp Tryd.prog (Exit.then N Q) a w :=
  reg (l0 := [(8, .pointer (some (⟨g, 0, none⟩)))]) [94] (List.range' 71 24) [.val (.string x), .bit true] hs ⟨e8, trivial⟩ (And.intro (l0).run (And.intro h1 (fun a' => hN a'))) (by kernel_rfl)
theorem st_r17_ftt {g : Nat} {x : ByteArray} {tp : Int} {s : ByteArray} {c84 : Int} {b92 : Bool} (hs : Sl 171 a l) (e8 : l.lookup 8 = some (.pointer (some (⟨g, 0, none⟩)))) (e0 : l.lookup 0 = some (.string s)) (l0 : Lds Tryd.prog 9 (.pointer (some (⟨g, 1, none⟩))) (.string x) w) (h1 : decide (x ≠ (⟨#[]⟩)) = false) (l2 : Lds Tryd.prog 3 (.pointer (some (⟨g, 2, none⟩))) (.int .i64 tp) w) (h3 : decide (tp < (s.size : Int)) = true) (i4 : ∀ w, (Instr.index 9 (.string s) (.int .i64 tp)).run Tryd.prog w = .ok (.int .u8 c84) w) (h5 : decide (c84 ≠ 59) = true) (h6 : decide (c84 ≠ 10) = b92)
    (hN : ∀ a', Sl 171 a' ((94, .bool b92) :: dropL (List.range' 71 24) l) → N a' w) : (r_st 17).wp Tryd.prog (Exit.then N Q) a w :=
  reg (l0 := [(8, .pointer (some (⟨g, 0, none⟩))), (0, .string s)]) [94] (List.range' 71 24) [.val (.string x), .bit false, .val (.int .i64 tp), .bit true, .val (.int .i64 tp), .val (.int .u8 c84), .bit true, .val (.int .i64 tp), .val (.int .u8 c84), .bit b92] hs ⟨e8, e0, trivial⟩ (And.intro (l0).run (And.intro h1 (And.intro (l2).run (And.intro h3 (And.intro (l2).run (And.intro (i4 w) (And.intro h5 (And.intro (l2).run (And.intro (i4 w) (And.intro h6 (fun a' => hN a'))))))))))) (by kernel_rfl)
theorem st_r17_ftf {g : Nat} {x : ByteArray} {tp : Int} {s : ByteArray} {c84 : Int} (hs : Sl 171 a l) (e8 : l.lookup 8 = some (.pointer (some (⟨g, 0, none⟩)))) (e0 : l.lookup 0 = some (.string s)) (l0 : Lds Tryd.prog 9 (.pointer (some (⟨g, 1, none⟩))) (.string x) w) (h1 : decide (x ≠ (⟨#[]⟩)) = false) (l2 : Lds Tryd.prog 3 (.pointer (some (⟨g, 2, none⟩))) (.int .i64 tp) w) (h3 : decide (tp < (s.size : Int)) = true) (i4 : ∀ w, (Instr.index 9 (.string s) (.int .i64 tp)).run Tryd.prog w = .ok (.int .u8 c84) w) (h5 : decide (c84 ≠ 59) = false)
    (hN : ∀ a', Sl 171 a' ((94, .bool false) :: dropL (List.range' 71 24) l) → N a' w) : (r_st 17).wp Tryd.prog (Exit.then N Q) a w :=
  reg (l0 := [(8, .pointer (some (⟨g, 0, none⟩))), (0, .string s)]) [94] (List.range' 71 24) [.val (.string x), .bit false, .val (.int .i64 tp), .bit true, .val (.int .i64 tp), .val (.int .u8 c84), .bit false] hs ⟨e8, e0, trivial⟩ (And.intro (l0).run (And.intro h1 (And.intro (l2).run (And.intro h3 (And.intro (l2).run (And.intro (i4 w) (And.intro h5 (fun a' => hN a')))))))) (by kernel_rfl)
theorem st_r17_ff {g : Nat} {x : ByteArray} {tp : Int} {s : ByteArray} (hs : Sl 171 a l) (e8 : l.lookup 8 = some (.pointer (some (⟨g, 0, none⟩)))) (e0 : l.lookup 0 = some (.string s)) (l0 : Lds Tryd.prog 9 (.pointer (some (⟨g, 1, none⟩))) (.string x) w) (h1 : decide (x ≠ (⟨#[]⟩)) = false) (l2 : Lds Tryd.prog 3 (.pointer (some (⟨g, 2, none⟩))) (.int .i64 tp) w) (h3 : decide (tp < (s.size : Int)) = false)
    (hN : ∀ a', Sl 171 a' ((94, .bool false) :: dropL (List.range' 71 24) l) → N a' w) : (r_st 17).wp Tryd.prog (Exit.then N Q) a w :=
  reg (l0 := [(8, .pointer (some (⟨g, 0, none⟩))), (0, .string s)]) [94] (List.range' 71 24) [.val (.string x), .bit false, .val (.int .i64 tp), .bit false] hs ⟨e8, e0, trivial⟩ (And.intro (l0).run (And.intro h1 (And.intro (l2).run (And.intro h3 (fun a' => hN a'))))) (by kernel_rfl)
theorem st_r19 {g : Nat} {v96 : Int} {s : ByteArray} {b99 : Bool} (hs : Sl 171 a l) (e8 : l.lookup 8 = some (.pointer (some (⟨g, 0, none⟩)))) (e0 : l.lookup 0 = some (.string s)) (l0 : Lds Tryd.prog 3 (.pointer (some (⟨g, 2, none⟩))) (.int .i64 v96) w) (h1 : decide (v96 < (s.size : Int)) = b99)
    (hN : ∀ a', Sl 171 a' ((99, .bool b99) :: dropL [95, 96, 97, 98, 99] l) → N a' w) : (r_st 19).wp Tryd.prog (Exit.then N Q) a w :=
  reg (l0 := [(8, .pointer (some (⟨g, 0, none⟩))), (0, .string s)]) [99] [95, 96, 97, 98, 99] [.val (.int .i64 v96), .bit b99] hs ⟨e8, e0, trivial⟩ (And.intro (l0).run (And.intro h1 (fun a' => hN a'))) (by kernel_rfl)
theorem st_r20 (hs : Sl 171 a l)
    (hN : ∀ a', Sl 171 a' ((9, .int .i64 1) :: dropL [9] l) → N a' w) : (r_st 20).wp Tryd.prog (Exit.then N Q) a w :=
  reg (l0 := []) [9] [9] [] hs trivial (fun a' => hN a') (by kernel_rfl)
theorem st_r21 {k : Int} {b101 : Bool} (hs : Sl 171 a l) (e68 : l.lookup 68 = some (.int .i64 k)) (h0 : decide (k = 6) = b101)
    (hN : ∀ a', Sl 171 a' ((100, .bool b101) :: dropL [100, 101] l) → N a' w) : (r_st 21).wp Tryd.prog (Exit.then N Q) a w :=
  reg (l0 := [(68, .int .i64 k)]) [100] [100, 101] [.bit b101] hs ⟨e68, trivial⟩ (And.intro h0 (fun a' => hN a')) (by kernel_rfl)
theorem st_r22 {s : ByteArray} {g : Nat} {v104 : Int} {s106 : ByteArray} {v107 : Int} {C0 : World → Prop} (hs : Sl 171 a l) (e0 : l.lookup 0 = some (.string s)) (e8 : l.lookup 8 = some (.pointer (some (⟨g, 0, none⟩)))) (l0 : Lds Tryd.prog 3 (.pointer (some (⟨g, 2, none⟩))) (.int .i64 v104) w) (l1 : Lds Tryd.prog 9 (.pointer (some (⟨g, 1, none⟩))) (.string s106) w) (k2 : Calls Tryd.prog 29 #[.string s, .int .i64 v104, .string s106] w fun e w' => e = .returned (.int .i64 v107) ∧ C0 w')
    (hN : ∀ a' (w1 : World), C0 w1 → Sl 171 a' ((9, .int .i64 v107) :: dropL (9 :: List.range' 102 6) l) → N a' w1) : (r_st 22).wp Tryd.prog (Exit.then N Q) a w :=
  reg (l0 := [(0, .string s), (8, .pointer (some (⟨g, 0, none⟩)))]) [9] (9 :: List.range' 102 6) [.val (.int .i64 v104), .val (.string s106), .ret (.int .i64 v107) C0] hs ⟨e0, e8, trivial⟩ (And.intro (l0).run (And.intro (l1).run (And.intro k2 (fun (w1 : World) (hc0 : C0 w1) => (fun a' => hN a' w1 hc0))))) (by kernel_rfl)
theorem st_r23 {m : Int} {b109 : Bool} (hs : Sl 171 a l) (e9 : l.lookup 9 = some (.int .i64 m)) (h0 : decide (m = 0) = b109)
    (hN : ∀ a', Sl 171 a' ((109, .bool b109) :: dropL [108, 109] l) → N a' w) : (r_st 23).wp Tryd.prog (Exit.then N Q) a w :=
  reg (l0 := [(9, .int .i64 m)]) [109] [108, 109] [.bit b109] hs ⟨e9, trivial⟩ (And.intro h0 (fun a' => hN a')) (by kernel_rfl)
theorem st_r25 {k : Int} {b111 : Bool} (hs : Sl 171 a l) (e68 : l.lookup 68 = some (.int .i64 k)) (h0 : decide (k = 2) = b111)
    (hN : ∀ a', Sl 171 a' ((110, .bool b111) :: dropL [110, 111] l) → N a' w) : (r_st 25).wp Tryd.prog (Exit.then N Q) a w :=
  reg (l0 := [(68, .int .i64 k)]) [110] [110, 111] [.bit b111] hs ⟨e68, trivial⟩ (And.intro h0 (fun a' => hN a')) (by kernel_rfl)
theorem st_r26 {k : Int} {b112 : Bool} (hs : Sl 171 a l) (e68 : l.lookup 68 = some (.int .i64 k)) (h0 : decide (k = 3) = b112)
    (hN : ∀ a', Sl 171 a' ((110, .bool b112) :: dropL [110, 112] l) → N a' w) : (r_st 26).wp Tryd.prog (Exit.then N Q) a w :=
  reg (l0 := [(68, .int .i64 k)]) [110] [110, 112] [.bit b112] hs ⟨e68, trivial⟩ (And.intro h0 (fun a' => hN a')) (by kernel_rfl)
theorem st_r27 {k : Int} {b113 : Bool} (hs : Sl 171 a l) (e68 : l.lookup 68 = some (.int .i64 k)) (h0 : decide (k = 4) = b113)
    (hN : ∀ a', Sl 171 a' ((110, .bool b113) :: dropL [110, 113] l) → N a' w) : (r_st 27).wp Tryd.prog (Exit.then N Q) a w :=
  reg (l0 := [(68, .int .i64 k)]) [110] [110, 113] [.bit b113] hs ⟨e68, trivial⟩ (And.intro h0 (fun a' => hN a')) (by kernel_rfl)
theorem st_r28 {k : Int} {b114 : Bool} (hs : Sl 171 a l) (e68 : l.lookup 68 = some (.int .i64 k)) (h0 : decide (k = 5) = b114)
    (hN : ∀ a', Sl 171 a' ((110, .bool b114) :: dropL [110, 114] l) → N a' w) : (r_st 28).wp Tryd.prog (Exit.then N Q) a w :=
  reg (l0 := [(68, .int .i64 k)]) [110] [110, 114] [.bit b114] hs ⟨e68, trivial⟩ (And.intro h0 (fun a' => hN a')) (by kernel_rfl)
theorem st_r29 {k : Int} {b115 : Bool} (hs : Sl 171 a l) (e68 : l.lookup 68 = some (.int .i64 k)) (h0 : decide (k = 7) = b115)
    (hN : ∀ a', Sl 171 a' ((110, .bool b115) :: dropL [110, 115] l) → N a' w) : (r_st 29).wp Tryd.prog (Exit.then N Q) a w :=
  reg (l0 := [(68, .int .i64 k)]) [110] [110, 115] [.bit b115] hs ⟨e68, trivial⟩ (And.intro h0 (fun a' => hN a')) (by kernel_rfl)
theorem st_r30_t {m : Int} (hs : Sl 171 a l) (e9 : l.lookup 9 = some (.int .i64 m)) (h0 : decide (m = 0) = true)
    (hN : ∀ a' m, Sl 171 a' ((139, .bool true) :: dropL (List.range' 116 24) l) → N a' (w.drewN m)) : (r_st 30).wp Tryd.prog (Exit.then N Q) a w :=
  regQ (l0 := [(9, .int .i64 m)]) [139] (List.range' 116 24) [.bit true] hs ⟨e9, trivial⟩ (And.intro h0 (fun a' => hN a')) (by kernel_rfl)
theorem st_r30_ft {m : Int} {g : Nat} {v120 : Int} {s : ByteArray} (hs : Sl 171 a l) (e9 : l.lookup 9 = some (.int .i64 m)) (e8 : l.lookup 8 = some (.pointer (some (⟨g, 0, none⟩)))) (e0 : l.lookup 0 = some (.string s)) (h0 : decide (m = 0) = false) (l1 : Lds Tryd.prog 3 (.pointer (some (⟨g, 2, none⟩))) (.int .i64 v120) w) (h2 : -9223372036854775808 ≤ v120 + m ∧ v120 + m ≤ 9223372036854775807) (h3 : decide ((s.size : Int) < (v120 + m)) = true)
    (hN : ∀ a' m, Sl 171 a' ((139, .bool true) :: dropL (List.range' 116 24) l) → N a' (w.drewN m)) : (r_st 30).wp Tryd.prog (Exit.then N Q) a w :=
  regQ (l0 := [(9, .int .i64 m), (8, .pointer (some (⟨g, 0, none⟩))), (0, .string s)]) [139] (List.range' 116 24) [.bit false, .val (.int .i64 v120), .ari, .bit true] hs ⟨e9, e8, e0, trivial⟩ (And.intro h0 (And.intro l1 (And.intro h2 (And.intro h3 (fun a' => hN a'))))) (by kernel_rfl)
theorem st_r30_ff {m : Int} {g : Nat} {v120 : Int} {s : ByteArray} {s135 : ByteArray} {s137 : ByteArray} {b138 : Bool} (hs : Sl 171 a l) (e9 : l.lookup 9 = some (.int .i64 m)) (e8 : l.lookup 8 = some (.pointer (some (⟨g, 0, none⟩)))) (e0 : l.lookup 0 = some (.string s)) (h0 : decide (m = 0) = false) (l1 : Lds Tryd.prog 3 (.pointer (some (⟨g, 2, none⟩))) (.int .i64 v120) w) (h2 : -9223372036854775808 ≤ v120 + m ∧ v120 + m ≤ 9223372036854775807) (h3 : decide ((s.size : Int) < (v120 + m)) = false) (i4 : ∀ w, (Instr.sliceAt 9 (.string s) (some (.int .i64 v120)) (some (.int .i64 (v120 + m))) none).run Tryd.prog w = .ok (.string s135) w) (l5 : Lds Tryd.prog 9 (.pointer (some (⟨g, 1, none⟩))) (.string s137) w) (h6 : decide (s135 ≠ s137) = b138)
    (hN : ∀ a' m, Sl 171 a' ((139, .bool b138) :: dropL (List.range' 116 24) l) → N a' (w.drewN m)) : (r_st 30).wp Tryd.prog (Exit.then N Q) a w :=
  regQ (l0 := [(9, .int .i64 m), (8, .pointer (some (⟨g, 0, none⟩))), (0, .string s)]) [139] (List.range' 116 24) [.bit false, .val (.int .i64 v120), .ari, .bit false, .val (.int .i64 v120), .val (.int .i64 v120), .ari, .val (.string s135), .val (.string s137), .bit b138] hs ⟨e9, e8, e0, trivial⟩ (And.intro h0 (And.intro l1 (And.intro h2 (And.intro h3 (And.intro l1 (And.intro l1 (And.intro h2 (And.intro i4 (And.intro l5 (And.intro h6 (fun a' => hN a'))))))))))) (by kernel_rfl)
theorem st_r32 {g : Nat} {s141 : ByteArray} {b142 : Bool} {C0 : World → Prop} (hs : Sl 171 a l) (e8 : l.lookup 8 = some (.pointer (some (⟨g, 0, none⟩)))) (l0 : Lds Tryd.prog 9 (.pointer (some (⟨g, 1, none⟩))) (.string s141) w) (k1 : Calls Tryd.prog 24 #[.string s141] w fun e w' => e = .returned (.bool b142) ∧ C0 w')
    (hN : ∀ a' (w1 : World), C0 w1 → Sl 171 a' ((10, .bool b142) :: dropL [10, 140, 141, 142] l) → N a' w1) : (r_st 32).wp Tryd.prog (Exit.then N Q) a w :=
  reg (l0 := [(8, .pointer (some (⟨g, 0, none⟩)))]) [10] [10, 140, 141, 142] [.val (.string s141), .ret (.bool b142) C0] hs ⟨e8, trivial⟩ (And.intro (l0).run (And.intro k1 (fun (w1 : World) (hc0 : C0 w1) => (fun a' => hN a' w1 hc0)))) (by kernel_rfl)
theorem st_r33 {g : Nat} {s144 : ByteArray} {b145 : Bool} {C0 : World → Prop} (hs : Sl 171 a l) (e8 : l.lookup 8 = some (.pointer (some (⟨g, 0, none⟩)))) (l0 : Lds Tryd.prog 9 (.pointer (some (⟨g, 1, none⟩))) (.string s144) w) (k1 : Calls Tryd.prog 23 #[.string s144] w fun e w' => e = .returned (.bool b145) ∧ C0 w')
    (hN : ∀ a' (w1 : World), C0 w1 → Sl 171 a' ((11, .bool b145) :: dropL [11, 143, 144, 145] l) → N a' w1) : (r_st 33).wp Tryd.prog (Exit.then N Q) a w :=
  reg (l0 := [(8, .pointer (some (⟨g, 0, none⟩)))]) [11] [11, 143, 144, 145] [.val (.string s144), .ret (.bool b145) C0] hs ⟨e8, trivial⟩ (And.intro (l0).run (And.intro k1 (fun (w1 : World) (hc0 : C0 w1) => (fun a' => hN a' w1 hc0)))) (by kernel_rfl)
theorem st_r34_t {nm : Bool} {g : Nat} {v148 : Int} {b149 : Bool} (hs : Sl 171 a l) (e10 : l.lookup 10 = some (.bool nm)) (e8 : l.lookup 8 = some (.pointer (some (⟨g, 0, none⟩)))) (l0 : Lds Tryd.prog 3 (.pointer (some (⟨g, 0, none⟩))) (.int .i64 v148) w) (h1 : decide (v148 = 2) = b149) (h2 : ∀ w, (binOp .neq 4 (.bool nm) (.bool b149)).run Tryd.prog w = .ok (.bool true) w)
    (hN : ∀ a', Sl 171 a' ((157, .bool true) :: dropL (List.range' 146 12) l) → N a' w) : (r_st 34).wp Tryd.prog (Exit.then N Q) a w :=
  reg (l0 := [(10, .bool nm), (8, .pointer (some (⟨g, 0, none⟩)))]) [157] (List.range' 146 12) [.val (.int .i64 v148), .bit b149, .bin (.bool true)] hs ⟨e10, e8, trivial⟩ (And.intro (l0).run (And.intro h1 (And.intro (bin_run (x := .tmp 146) (y := .tmp 149) (by kernel_rfl) (h2 w)) (fun a' => hN a')))) (by kernel_rfl)
theorem st_r34_f {nm : Bool} {g : Nat} {v148 : Int} {b149 : Bool} {wd : Bool} {b155 : Bool} {b156 : Bool} (hs : Sl 171 a l) (e10 : l.lookup 10 = some (.bool nm)) (e8 : l.lookup 8 = some (.pointer (some (⟨g, 0, none⟩)))) (e11 : l.lookup 11 = some (.bool wd)) (l0 : Lds Tryd.prog 3 (.pointer (some (⟨g, 0, none⟩))) (.int .i64 v148) w) (h1 : decide (v148 = 2) = b149) (h2 : ∀ w, (binOp .neq 4 (.bool nm) (.bool b149)).run Tryd.prog w = .ok (.bool false) w) (h3 : decide (v148 = 3) = b155) (h4 : ∀ w, (binOp .neq 4 (.bool wd) (.bool b155)).run Tryd.prog w = .ok (.bool b156) w)
    (hN : ∀ a', Sl 171 a' ((157, .bool b156) :: dropL (List.range' 146 12) l) → N a' w) : (r_st 34).wp Tryd.prog (Exit.then N Q) a w :=
  reg (l0 := [(10, .bool nm), (8, .pointer (some (⟨g, 0, none⟩))), (11, .bool wd)]) [157] (List.range' 146 12) [.val (.int .i64 v148), .bit b149, .bin (.bool false), .val (.int .i64 v148), .bit b155, .bin (.bool b156)] hs ⟨e10, e8, e11, trivial⟩ (And.intro (l0).run (And.intro h1 (And.intro (bin_run (x := .tmp 146) (y := .tmp 149) (by kernel_rfl) (h2 w)) (And.intro (l0).run (And.intro h3 (And.intro (bin_run (x := .tmp 152) (y := .tmp 155) (by kernel_rfl) (h4 w)) (fun a' => hN a'))))))) (by kernel_rfl)
theorem st_r36 {g : Nat} {v159 : Int} {m : Int} (hs : Sl 171 a l) (e8 : l.lookup 8 = some (.pointer (some (⟨g, 0, none⟩)))) (e9 : l.lookup 9 = some (.int .i64 m)) (l0 : Lds Tryd.prog 3 (.pointer (some (⟨g, 2, none⟩))) (.int .i64 v159) w) (h1 : -9223372036854775808 ≤ v159 + m ∧ v159 + m ≤ 9223372036854775807)
    (hN : ∀ a', Sl 171 a' ((6, .int .i64 (v159 + m)) :: dropL [6, 158, 159, 160, 161] l) → N a' w) : (r_st 36).wp Tryd.prog (Exit.then N Q) a w :=
  reg (l0 := [(8, .pointer (some (⟨g, 0, none⟩))), (9, .int .i64 m)]) [6] [6, 158, 159, 160, 161] [.val (.int .i64 v159), .ari] hs ⟨e8, e9, trivial⟩ (And.intro (l0).run (And.intro h1 (fun a' => hN a'))) (by kernel_rfl)
theorem st_r37_t {d4 : Option Addr} {n4 : Nat} {q4 : Nat} (hs : Sl 171 a l) (e4 : l.lookup 4 = some (.slice d4 n4 q4)) (h0 : decide ((3000 : Int) ≤ (n4 : Int)) = true)
    (hN : ∀ a', Sl 171 a' ((2, .bool true) :: dropL (2 :: List.range' 162 9) l) → N a' w) : (r_st 37).wp Tryd.prog (Exit.then N Q) a w :=
  reg (l0 := [(4, .slice d4 n4 q4)]) [2] (2 :: List.range' 162 9) [.bit true] hs ⟨e4, trivial⟩ (And.intro h0 (fun a' => hN a')) (by kernel_rfl)
theorem st_r37_f {d4 : Option Addr} {n4 : Nat} {q4 : Nat} {s : ByteArray} {p : Int} {s168 : ByteArray} {b169 : Bool} {C0 : World → Prop} (hs : Sl 171 a l) (e4 : l.lookup 4 = some (.slice d4 n4 q4)) (e0 : l.lookup 0 = some (.string s)) (e6 : l.lookup 6 = some (.int .i64 p)) (h0 : decide ((3000 : Int) ≤ (n4 : Int)) = false) (i1 : ∀ w, (Instr.sliceAt 9 (.string s) (some (.int .i64 p)) none none).run Tryd.prog w = .ok (.string s168) w) (k2 : Calls Tryd.prog 28 #[.string s168] w fun e w' => e = .returned (.bool b169) ∧ C0 w')
    (hN : ∀ a' (w1 : World), C0 w1 → Sl 171 a' ((2, .bool b169) :: dropL (2 :: List.range' 162 9) l) → N a' w1) : (r_st 37).wp Tryd.prog (Exit.then N Q) a w :=
  reg (l0 := [(4, .slice d4 n4 q4), (0, .string s), (6, .int .i64 p)]) [2] (2 :: List.range' 162 9) [.bit false, .val (.string s168), .ret (.bool b169) C0] hs ⟨e4, e0, e6, trivial⟩ (And.intro h0 (And.intro (i1 w) (And.intro k2 (fun (w1 : World) (hc0 : C0 w1) => (fun a' => hN a' w1 hc0))))) (by kernel_rfl)
end Go.Proofs.YtpggcmlddmckcaaDoor
