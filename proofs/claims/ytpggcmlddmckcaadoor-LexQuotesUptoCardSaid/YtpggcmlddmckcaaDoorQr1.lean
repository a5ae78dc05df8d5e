/-
  The regions of the reference's Quote and Unquote, and of LexQuotes. Written by an AI agent.
-/
import Derived.Test.YtpggcmlddmckcaaDoorGv
import Derived.Test.YtpggcmlddmckcaaDoorEe
namespace Go.Proofs.YtpggcmlddmckcaaDoor
open Go.RowKit Go.Sort
set_option maxRecDepth 100000
variable {a : Act} {w : World} {N : Act → World → Prop} {Q : Exit → Act → World → Prop} {l : List (Nat × Value)}
noncomputable def r_rq (n : Nat) : Code := ((Tryd.f20.body.bind (findR n)).getD .skip)
noncomputable def rqL0 : Code := (.seq (.seq (r_rq 3) (.cond (.tmp 10) .skip (.exit 0))) (.seq (.block 1 (.seq (r_rq 5) (.block 2 (.seq (r_rq 7) (.cond (.tmp 20) (r_rq 8) (.seq (r_rq 9) (.cond (.tmp 26) (r_rq 10) (.seq (r_rq 11) (.cond (.tmp 32) (r_rq 12) (.seq (r_rq 13) (.cond (.tmp 43) (r_rq 14) (r_rq 6)))))))))))) (r_rq 4)))
noncomputable def rqBody : Code := (.seq (r_rq 0) (.seq (r_rq 1) (.seq (.seq (r_rq 2) (.block 0 (.loop rqL0))) (.seq (r_rq 15) .ret))))
theorem rq_body : Tryd.f20.body = some rqBody := by kernel_rfl
theorem rq_r0 (hs : Sl 63 a l)
    (hN : ∀ a', Sl 63 a' ((2, .string (⟨#[]⟩)) :: dropL [2] l) → N a' w) : (r_rq 0).wp Tryd.prog (Exit.then N Q) a w :=
  reg (l0 := []) [2] [2] [] hs trivial (fun a' => hN a') (by kernel_rfl)
theorem rq_r1 (hs : Sl 63 a l)
    (hN : ∀ a', Sl 63 a' ((3, .slice (some ⟨w.heap.size, 0, none⟩) 1 1) :: dropL [3, 6] l) → N a' (w.alloc (.cells #[.int .u8 34] 5))) : (r_rq 1).wp Tryd.prog (Exit.then N Q) a w :=
  reg (l0 := []) [3] [3, 6] [.raw] hs trivial (fun a' => hN a') (by kernel_rfl)
theorem rq_r2 (hs : Sl 63 a l)
    (hN : ∀ a', Sl 63 a' ((4, .int .i64 0) :: dropL [4] l) → N a' w) : (r_rq 2).wp Tryd.prog (Exit.then N Q) a w :=
  reg (l0 := []) [4] [4] [] hs trivial (fun a' => hN a') (by kernel_rfl)
theorem rq_r3 {i : Nat} {s : ByteArray} {b10 : Bool} (hs : Sl 63 a l) (e4 : l.lookup 4 = some (.int .i64 (i : Int))) (e0 : l.lookup 0 = some (.string s)) (h0 : decide ((i : Int) < (s.size : Int)) = b10)
    (hN : ∀ a', Sl 63 a' ((10, .bool b10) :: dropL [7, 8, 9, 10] l) → N a' w) : (r_rq 3).wp Tryd.prog (Exit.then N Q) a w :=
  reg (l0 := [(4, .int .i64 (i : Int)), (0, .string s)]) [10] [7, 8, 9, 10] [.bit b10] hs ⟨e4, e0, trivial⟩ (And.intro h0 (fun a' => hN a')) (by kernel_rfl)
theorem rq_r4 {i : Nat} (hs : Sl 63 a l) (e4 : l.lookup 4 = some (.int .i64 (i : Int))) (h0 : -9223372036854775808 ≤ (i : Int) + 1 ∧ (i : Int) + 1 ≤ 9223372036854775807)
    (hN : ∀ a', Sl 63 a' ((4, .int .i64 ((i : Int) + 1)) :: dropL [4, 11, 12] l) → N a' w) : (r_rq 4).wp Tryd.prog (Exit.then N Q) a w :=
  reg (l0 := [(4, .int .i64 (i : Int))]) [4] [4, 11, 12] [.ari] hs ⟨e4, trivial⟩ (And.intro h0 (fun a' => hN a')) (by kernel_rfl)
theorem rq_r5 {s : ByteArray} {i : Nat} {c15 : Int} (hs : Sl 63 a l) (e0 : l.lookup 0 = some (.string s)) (e4 : l.lookup 4 = some (.int .i64 (i : Int))) (i0 : ∀ w, (Instr.index 9 (.string s) (.int .i64 (i : Int))).run Tryd.prog w = .ok (.int .u8 c15) w)
    (hN : ∀ a', Sl 63 a' ((5, .int .u8 c15) :: dropL [5, 13, 14, 15] l) → N a' w) : (r_rq 5).wp Tryd.prog (Exit.then N Q) a w :=
  reg (l0 := [(0, .string s), (4, .int .i64 (i : Int))]) [5] [5, 13, 14, 15] [.val (.int .u8 c15)] hs ⟨e0, e4, trivial⟩ (And.intro (i0 w) (fun a' => hN a')) (by kernel_rfl)
theorem rq_r6 {v3 : Value} {c : Int} {C0 : Value → World → Prop} (hs : Sl 63 a l) (e3 : l.lookup 3 = some (v3)) (e5 : l.lookup 5 = some (.int .u8 c)) (k0 : ∀ ty, ∃ v w', (Builtin.append_ #[52, 52] ty #[v3, .slice (some ⟨w.heap.size, 0, none⟩) 1 1]).run Tryd.prog (w.alloc (.cells #[.int .u8 c] 5)) = .ok v w' ∧ C0 v w')
    (hN : ∀ a' (x19 : Value) (w1 : World), C0 x19 w1 → Sl 63 a' ((3, x19) :: dropL [3, 16, 17, 18, 19] l) → N a' w1) : (r_rq 6).wp Tryd.prog (Exit.then N Q) a w :=
  reg (l0 := [(3, v3), (5, .int .u8 c)]) [3] [3, 16, 17, 18, 19] [.raw, .app C0] hs ⟨e3, e5, trivial⟩ (And.intro k0 (fun (x19 : Value) (w1 : World) (hc0 : C0 x19 w1) => (fun a' => hN a' x19 w1 hc0))) (by kernel_rfl)
theorem rq_r7 {c : Int} {b22 : Bool} (hs : Sl 63 a l) (e5 : l.lookup 5 = some (.int .u8 c)) (h0 : decide (c = 10) = b22)
    (hN : ∀ a', Sl 63 a' ((20, .bool b22) :: dropL [20, 21, 22] l) → N a' w) : (r_rq 7).wp Tryd.prog (Exit.then N Q) a w :=
  reg (l0 := [(5, .int .u8 c)]) [20] [20, 21, 22] [.bit b22] hs ⟨e5, trivial⟩ (And.intro h0 (fun a' => hN a')) (by kernel_rfl)
theorem rq_r8 {v3 : Value} {C0 : Value → World → Prop} (hs : Sl 63 a l) (e3 : l.lookup 3 = some (v3)) (k0 : ∀ ty, ∃ v w', (Builtin.append_ #[52, 52] ty #[v3, .slice (some ⟨w.heap.size, 0, none⟩) 2 2]).run Tryd.prog (w.alloc (.cells #[.int .u8 92, .int .u8 110] 5)) = .ok v w' ∧ C0 v w')
    (hN : ∀ a' (x25 : Value) (w1 : World), C0 x25 w1 → Sl 63 a' ((3, x25) :: dropL [3, 23, 24, 25] l) → N a' w1) : (r_rq 8).wp Tryd.prog (Exit.then N Q) a w :=
  reg (l0 := [(3, v3)]) [3] [3, 23, 24, 25] [.raw, .app C0] hs ⟨e3, trivial⟩ (And.intro k0 (fun (x25 : Value) (w1 : World) (hc0 : C0 x25 w1) => (fun a' => hN a' x25 w1 hc0))) (by kernel_rfl)
theorem rq_r9 {c : Int} {b28 : Bool} (hs : Sl 63 a l) (e5 : l.lookup 5 = some (.int .u8 c)) (h0 : decide (c = 9) = b28)
    (hN : ∀ a', Sl 63 a' ((26, .bool b28) :: dropL [26, 27, 28] l) → N a' w) : (r_rq 9).wp Tryd.prog (Exit.then N Q) a w :=
  reg (l0 := [(5, .int .u8 c)]) [26] [26, 27, 28] [.bit b28] hs ⟨e5, trivial⟩ (And.intro h0 (fun a' => hN a')) (by kernel_rfl)
theorem rq_r10 {v3 : Value} {C0 : Value → World → Prop} (hs : Sl 63 a l) (e3 : l.lookup 3 = some (v3)) (k0 : ∀ ty, ∃ v w', (Builtin.append_ #[52, 52] ty #[v3, .slice (some ⟨w.heap.size, 0, none⟩) 2 2]).run Tryd.prog (w.alloc (.cells #[.int .u8 92, .int .u8 116] 5)) = .ok v w' ∧ C0 v w')
    (hN : ∀ a' (x31 : Value) (w1 : World), C0 x31 w1 → Sl 63 a' ((3, x31) :: dropL [3, 29, 30, 31] l) → N a' w1) : (r_rq 10).wp Tryd.prog (Exit.then N Q) a w :=
  reg (l0 := [(3, v3)]) [3] [3, 29, 30, 31] [.raw, .app C0] hs ⟨e3, trivial⟩ (And.intro k0 (fun (x31 : Value) (w1 : World) (hc0 : C0 x31 w1) => (fun a' => hN a' x31 w1 hc0))) (by kernel_rfl)
theorem rq_r11_t {c : Int} (hs : Sl 63 a l) (e5 : l.lookup 5 = some (.int .u8 c)) (h0 : decide (c = 34) = true)
    (hN : ∀ a', Sl 63 a' ((32, .bool true) :: dropL (List.range' 32 7) l) → N a' w) : (r_rq 11).wp Tryd.prog (Exit.then N Q) a w :=
  reg (l0 := [(5, .int .u8 c)]) [32] (List.range' 32 7) [.bit true] hs ⟨e5, trivial⟩ (And.intro h0 (fun a' => hN a')) (by kernel_rfl)
theorem rq_r11_f {c : Int} {b37 : Bool} (hs : Sl 63 a l) (e5 : l.lookup 5 = some (.int .u8 c)) (h0 : decide (c = 34) = false) (h1 : decide (c = 92) = b37)
    (hN : ∀ a', Sl 63 a' ((32, .bool b37) :: dropL (List.range' 32 7) l) → N a' w) : (r_rq 11).wp Tryd.prog (Exit.then N Q) a w :=
  reg (l0 := [(5, .int .u8 c)]) [32] (List.range' 32 7) [.bit false, .bit b37] hs ⟨e5, trivial⟩ (And.intro h0 (And.intro h1 (fun a' => hN a'))) (by kernel_rfl)
theorem rq_r12 {v3 : Value} {c : Int} {C0 : Value → World → Prop} (hs : Sl 63 a l) (e3 : l.lookup 3 = some (v3)) (e5 : l.lookup 5 = some (.int .u8 c)) (k0 : ∀ ty, ∃ v w', (Builtin.append_ #[52, 52] ty #[v3, .slice (some ⟨w.heap.size, 0, none⟩) 2 2]).run Tryd.prog (w.alloc (.cells #[.int .u8 92, .int .u8 c] 5)) = .ok v w' ∧ C0 v w')
    (hN : ∀ a' (x42 : Value) (w1 : World), C0 x42 w1 → Sl 63 a' ((3, x42) :: dropL [3, 39, 40, 41, 42] l) → N a' w1) : (r_rq 12).wp Tryd.prog (Exit.then N Q) a w :=
  reg (l0 := [(3, v3), (5, .int .u8 c)]) [3] [3, 39, 40, 41, 42] [.raw, .app C0] hs ⟨e3, e5, trivial⟩ (And.intro k0 (fun (x42 : Value) (w1 : World) (hc0 : C0 x42 w1) => (fun a' => hN a' x42 w1 hc0))) (by kernel_rfl)
theorem rq_r13_t {c : Int} (hs : Sl 63 a l) (e5 : l.lookup 5 = some (.int .u8 c)) (h0 : decide (c < 32) = true)
    (hN : ∀ a', Sl 63 a' ((43, .bool true) :: dropL (List.range' 43 7) l) → N a' w) : (r_rq 13).wp Tryd.prog (Exit.then N Q) a w :=
  reg (l0 := [(5, .int .u8 c)]) [43] (List.range' 43 7) [.bit true] hs ⟨e5, trivial⟩ (And.intro h0 (fun a' => hN a')) (by kernel_rfl)
theorem rq_r13_f {c : Int} {b48 : Bool} (hs : Sl 63 a l) (e5 : l.lookup 5 = some (.int .u8 c)) (h0 : decide (c < 32) = false) (h1 : decide ((126 : Int) < c) = b48)
    (hN : ∀ a', Sl 63 a' ((43, .bool b48) :: dropL (List.range' 43 7) l) → N a' w) : (r_rq 13).wp Tryd.prog (Exit.then N Q) a w :=
  reg (l0 := [(5, .int .u8 c)]) [43] (List.range' 43 7) [.bit false, .bit b48] hs ⟨e5, trivial⟩ (And.intro h0 (And.intro h1 (fun a' => hN a'))) (by kernel_rfl)
theorem rq_r14 {C : World → Prop} {v3 : Value} {c : Int} {v52 : Int} {c53 : Int} {v55 : Int} {c56 : Int} {C0 : Value → World → Prop} (hs : Sl 63 a l) (e3 : l.lookup 3 = some (v3)) (e5 : l.lookup 5 = some (.int .u8 c)) (h0 : ∀ w, (binOp .quo 5 (.int .u8 c) (.int .u8 16)).run Tryd.prog w = .ok (.int .u8 v52) w) (i1 : ∀ w, (Instr.index 9 (.string (⟨#[48, 49, 50, 51, 52, 53, 54, 55, 56, 57, 97, 98, 99, 100, 101, 102]⟩)) (.int .u8 v52)).run Tryd.prog w = .ok (.int .u8 c53) w) (h2 : ∀ w, (binOp .rem 5 (.int .u8 c) (.int .u8 16)).run Tryd.prog w = .ok (.int .u8 v55) w) (i3 : ∀ w, (Instr.index 9 (.string (⟨#[48, 49, 50, 51, 52, 53, 54, 55, 56, 57, 97, 98, 99, 100, 101, 102]⟩)) (.int .u8 v55)).run Tryd.prog w = .ok (.int .u8 c56) w) (c4 : C (w.drewN 1)) (c5 : C ((w.drewN 1).alloc (.cells #[.int .u8 92, .int .u8 120, .int .u8 c53, .int .u8 c56] 5))) (k6 : ∀ ty, ∃ v w', (Builtin.append_ #[52, 52] ty #[v3, .slice (some ⟨(w.drewN 1).heap.size, 0, none⟩) 4 4]).run Tryd.prog ((w.drewN 1).alloc (.cells #[.int .u8 92, .int .u8 120, .int .u8 c53, .int .u8 c56] 5)) = .ok v w' ∧ C0 v w')
    (hN : ∀ a' (x58 : Value) (w1 : World), C0 x58 w1 → Sl 63 a' ((3, x58) :: dropL (3 :: List.range' 50 9) l) → N a' w1) : (r_rq 14).wp Tryd.prog (Exit.then N Q) a w :=
  regE (l0 := [(3, v3), (5, .int .u8 c)]) 8 [0, 1, 2, 3, 4, 5, 6] [7] C [3] (3 :: List.range' 50 9) [.val (.int .u8 v52), .val (.int .u8 c53), .val (.int .u8 v55), .val (.int .u8 c56)] [.raw, .app C0] hs ⟨e3, e5, trivial⟩ (And.intro (fun w' => bin_run (x := .tmp 51) (y := .const (.int .u8 16)) (by kernel_rfl) (h0 w')) (And.intro i1 (And.intro (fun w' => bin_run (x := .tmp 54) (y := .const (.int .u8 16)) (by kernel_rfl) (h2 w')) (And.intro i3 (And.intro c4 (And.intro c5 (And.intro k6 (fun (x58 : Value) (w1 : World) (hc0 : C0 x58 w1) => (fun a' => hN a' x58 w1 hc0))))))))) (by kernel_rfl)
theorem rq_r15 {v3 : Value} {C0 : Value → World → Prop} {s62 : ByteArray} (hs : Sl 63 a l) (e3 : l.lookup 3 = some (v3)) (k0 : ∀ ty, ∃ v w', (Builtin.append_ #[52, 52] ty #[v3, .slice (some ⟨w.heap.size, 0, none⟩) 1 1]).run Tryd.prog (w.alloc (.cells #[.int .u8 34] 5)) = .ok v w' ∧ C0 v w') (i1 : ∀ (x61 : Value) (w1 : World), C0 x61 w1 → (convert 52 9 (x61)).run Tryd.prog w1 = .ok (.string s62) w1)
    (hN : ∀ a' (x61 : Value) (w1 : World), C0 x61 w1 → Sl 63 a' ((2, .string s62) :: dropL [2, 59, 60, 61, 62] l) → N a' w1) : (r_rq 15).wp Tryd.prog (Exit.then N Q) a w :=
  reg (l0 := [(3, v3)]) [2] [2, 59, 60, 61, 62] [.raw, .app C0, .val (.string s62)] hs ⟨e3, trivial⟩ (And.intro k0 (fun (x61 : Value) (w1 : World) (hc0 : C0 x61 w1) => (And.intro (i1 x61 w1 hc0) (fun a' => hN a' x61 w1 hc0)))) (by kernel_rfl)
noncomputable def r_ru (n : Nat) : Code := ((Tryd.f17.body.bind (findR n)).getD .skip)
noncomputable def ruBody : Code := (.seq (r_ru 0) (.seq (.seq (r_ru 1) (.cond (.tmp 13) (.seq (r_ru 2) .ret) .skip)) (.seq (r_ru 3) (.seq (.block 0 (.seq (r_ru 4) (.cond (.tmp 21) (.seq (r_ru 5) .ret) (.seq (r_ru 6) (.cond (.tmp 26) (.seq (r_ru 7) .ret) (.seq (r_ru 8) (.cond (.tmp 33) (.seq (r_ru 9) .ret) .skip))))))) (.seq (r_ru 10) .ret)))))
theorem ru_body : Tryd.f17.body = some ruBody := by kernel_rfl
theorem ru_r0 (hs : Sl 40 a l)
    (hN : ∀ a', Sl 40 a' ((2, .string (⟨#[]⟩)) :: (3, .pointer (some (⟨w.heap.size, 0, none⟩))) :: dropL [2, 3] l) → N a' (w.alloc (.cells #[.int .i64 0, .int .i64 0, .string (⟨#[]⟩)] 26))) : (r_ru 0).wp Tryd.prog (Exit.then N Q) a w :=
  reg (l0 := []) [2, 3] [2, 3] [.raw] hs trivial (fun a' => hN a') (by kernel_rfl)
theorem ru_r1_t {s : ByteArray} (hs : Sl 40 a l) (e0 : l.lookup 0 = some (.string s)) (h0 : decide (s = (⟨#[]⟩)) = true)
    (hN : ∀ a', Sl 40 a' ((13, .bool true) :: dropL (List.range' 7 7) l) → N a' w) : (r_ru 1).wp Tryd.prog (Exit.then N Q) a w :=
  reg (l0 := [(0, .string s)]) [13] (List.range' 7 7) [.bit true] hs ⟨e0, trivial⟩ (And.intro h0 (fun a' => hN a')) (by kernel_rfl)
theorem ru_r1_f {s : ByteArray} {c11 : Int} {b12 : Bool} (hs : Sl 40 a l) (e0 : l.lookup 0 = some (.string s)) (h0 : decide (s = (⟨#[]⟩)) = false) (i1 : ∀ w, (Instr.index 9 (.string s) (.int .i64 0)).run Tryd.prog w = .ok (.int .u8 c11) w) (h2 : decide (c11 ≠ 34) = b12)
    (hN : ∀ a', Sl 40 a' ((13, .bool b12) :: dropL (List.range' 7 7) l) → N a' w) : (r_ru 1).wp Tryd.prog (Exit.then N Q) a w :=
  reg (l0 := [(0, .string s)]) [13] (List.range' 7 7) [.bit false, .val (.int .u8 c11), .bit b12] hs ⟨e0, trivial⟩ (And.intro h0 (And.intro (i1 w) (And.intro h2 (fun a' => hN a')))) (by kernel_rfl)
theorem ru_r2 {g3 : Nat} (hs : Sl 40 a l) (e3 : l.lookup 3 = some (.pointer (some (⟨g3, 0, none⟩)))) (s0 : (Instr.storeAt 26 (.pointer (some (⟨g3, 0, none⟩))) (.agg #[.int .i64 11, .int .i64 0, .string (⟨#[]⟩)])).run Tryd.prog w = .ok () (w.setCells g3 0 [.int .i64 11, .int .i64 0, .string (⟨#[]⟩)]))
    (hN : ∀ a', Sl 40 a' ((2, .string (⟨#[]⟩)) :: dropL [2, 14] l) → N a' (w.setCells g3 0 [.int .i64 11, .int .i64 0, .string (⟨#[]⟩)])) : (r_ru 2).wp Tryd.prog (Exit.then N Q) a w :=
  reg (l0 := [(3, .pointer (some (⟨g3, 0, none⟩)))]) [2] [2, 14] [.raw, .sto] hs ⟨e3, trivial⟩ (And.intro s0 (fun a' => hN a')) (by kernel_rfl)
theorem ru_r3 {s : ByteArray} {t : ByteArray} {n : Int} {c : Int} {p : Int} {x : ByteArray} {C0 : World → Prop} (hs : Sl 40 a l) (e0 : l.lookup 0 = some (.string s)) (k0 : Calls Tryd.prog 38 #[.string s, .int .i64 0] w fun e w' => e = .returned (.tuple #[.string t, .int .i64 n, .agg #[.int .i64 c, .int .i64 p, .string x]]) ∧ C0 w') (s1 : ∀ (w1 : World), C0 w1 → (Instr.storeAt 26 (.pointer (some (⟨w1.heap.size, 0, none⟩))) (.agg #[.int .i64 c, .int .i64 p, .string x])).run Tryd.prog (w1.alloc (.cells #[.int .i64 0, .int .i64 0, .string (⟨#[]⟩)] 26)) = .ok () ((w1.alloc (.cells #[.int .i64 0, .int .i64 0, .string (⟨#[]⟩)] 26)).setCells w1.heap.size 0 [.int .i64 c, .int .i64 p, .string x]))
    (hN : ∀ a' (w1 : World), C0 w1 → Sl 40 a' ((4, .string t) :: (5, .int .i64 n) :: (6, .pointer (some (⟨w1.heap.size, 0, none⟩))) :: dropL (4 :: 5 :: 6 :: List.range' 15 6) l) → N a' ((w1.alloc (.cells #[.int .i64 0, .int .i64 0, .string (⟨#[]⟩)] 26)).setCells w1.heap.size 0 [.int .i64 c, .int .i64 p, .string x])) : (r_ru 3).wp Tryd.prog (Exit.then N Q) a w :=
  reg (l0 := [(0, .string s)]) [4, 5, 6] (4 :: 5 :: 6 :: List.range' 15 6) [.ret (.tuple #[.string t, .int .i64 n, .agg #[.int .i64 c, .int .i64 p, .string x]]) C0, .raw, .sto] hs ⟨e0, trivial⟩ (And.intro k0 (fun (w1 : World) (hc0 : C0 w1) => (And.intro (s1 w1 hc0) (fun a' => hN a' w1 hc0)))) (by kernel_rfl)
theorem ru_r4 {g6 : Nat} {c : Int} {b24 : Bool} (hs : Sl 40 a l) (e6 : l.lookup 6 = some (.pointer (some (⟨g6, 0, none⟩)))) (l0 : Lds Tryd.prog 24 (.pointer (some (⟨g6, 0, none⟩))) (.int .i64 c) w) (h1 : decide (c ≠ 0) = b24)
    (hN : ∀ a', Sl 40 a' ((21, .bool b24) :: dropL [21, 22, 23, 24] l) → N a' w) : (r_ru 4).wp Tryd.prog (Exit.then N Q) a w :=
  reg (l0 := [(6, .pointer (some (⟨g6, 0, none⟩)))]) [21] [21, 22, 23, 24] [.val (.int .i64 c), .bit b24] hs ⟨e6, trivial⟩ (And.intro (l0).run (And.intro h1 (fun a' => hN a'))) (by kernel_rfl)
theorem ru_r5 {g6 : Nat} {c : Int} {p : Int} {x : ByteArray} {g3 : Nat} (hs : Sl 40 a l) (e6 : l.lookup 6 = some (.pointer (some (⟨g6, 0, none⟩)))) (e3 : l.lookup 3 = some (.pointer (some (⟨g3, 0, none⟩)))) (l0 : Lds Tryd.prog 26 (.pointer (some (⟨g6, 0, none⟩))) (.agg #[.int .i64 c, .int .i64 p, .string x]) w) (s1 : (Instr.storeAt 26 (.pointer (some (⟨g3, 0, none⟩))) (.agg #[.int .i64 c, .int .i64 p, .string x])).run Tryd.prog (w.drewN 1) = .ok () ((w.drewN 1).setCells g3 0 [.int .i64 c, .int .i64 p, .string x]))
    (hN : ∀ a', Sl 40 a' ((2, .string (⟨#[]⟩)) :: dropL [2, 25] l) → N a' ((w.drewN 1).setCells g3 0 [.int .i64 c, .int .i64 p, .string x])) : (r_ru 5).wp Tryd.prog (Exit.then N Q) a w :=
  regT (l0 := [(6, .pointer (some (⟨g6, 0, none⟩))), (3, .pointer (some (⟨g3, 0, none⟩)))]) 2 [2] [2, 25] [.val (.agg #[.int .i64 c, .int .i64 p, .string x])] [.sto] hs ⟨e6, e3, trivial⟩ (And.intro l0 (And.intro s1 (fun a' => hN a'))) (by kernel_rfl)
theorem ru_r6 {n : Int} {s : ByteArray} {b30 : Bool} (hs : Sl 40 a l) (e5 : l.lookup 5 = some (.int .i64 n)) (e0 : l.lookup 0 = some (.string s)) (h0 : decide (n < (s.size : Int)) = b30)
    (hN : ∀ a', Sl 40 a' ((26, .bool b30) :: dropL [26, 27, 28, 29, 30] l) → N a' w) : (r_ru 6).wp Tryd.prog (Exit.then N Q) a w :=
  reg (l0 := [(5, .int .i64 n), (0, .string s)]) [26] [26, 27, 28, 29, 30] [.bit b30] hs ⟨e5, e0, trivial⟩ (And.intro h0 (fun a' => hN a')) (by kernel_rfl)
theorem ru_r7 {n : Int} {g3 : Nat} (hs : Sl 40 a l) (e5 : l.lookup 5 = some (.int .i64 n)) (e3 : l.lookup 3 = some (.pointer (some (⟨g3, 0, none⟩)))) (s0 : (Instr.storeAt 26 (.pointer (some (⟨g3, 0, none⟩))) (.agg #[.int .i64 11, .int .i64 n, .string (⟨#[]⟩)])).run Tryd.prog w = .ok () (w.setCells g3 0 [.int .i64 11, .int .i64 n, .string (⟨#[]⟩)]))
    (hN : ∀ a', Sl 40 a' ((2, .string (⟨#[]⟩)) :: dropL [2, 31, 32] l) → N a' (w.setCells g3 0 [.int .i64 11, .int .i64 n, .string (⟨#[]⟩)])) : (r_ru 7).wp Tryd.prog (Exit.then N Q) a w :=
  reg (l0 := [(5, .int .i64 n), (3, .pointer (some (⟨g3, 0, none⟩)))]) [2] [2, 31, 32] [.raw, .sto] hs ⟨e5, e3, trivial⟩ (And.intro s0 (fun a' => hN a')) (by kernel_rfl)
theorem ru_r8 {t : ByteArray} {b36 : Bool} (hs : Sl 40 a l) (e4 : l.lookup 4 = some (.string t)) (h0 : decide ((65536 : Int) < (t.size : Int)) = b36)
    (hN : ∀ a', Sl 40 a' ((33, .bool b36) :: dropL [33, 34, 35, 36] l) → N a' w) : (r_ru 8).wp Tryd.prog (Exit.then N Q) a w :=
  reg (l0 := [(4, .string t)]) [33] [33, 34, 35, 36] [.bit b36] hs ⟨e4, trivial⟩ (And.intro h0 (fun a' => hN a')) (by kernel_rfl)
theorem ru_r9 {g3 : Nat} (hs : Sl 40 a l) (e3 : l.lookup 3 = some (.pointer (some (⟨g3, 0, none⟩)))) (s0 : (Instr.storeAt 26 (.pointer (some (⟨g3, 0, none⟩))) (.agg #[.int .i64 13, .int .i64 0, .string (⟨#[]⟩)])).run Tryd.prog w = .ok () (w.setCells g3 0 [.int .i64 13, .int .i64 0, .string (⟨#[]⟩)]))
    (hN : ∀ a', Sl 40 a' ((2, .string (⟨#[]⟩)) :: dropL [2, 37] l) → N a' (w.setCells g3 0 [.int .i64 13, .int .i64 0, .string (⟨#[]⟩)])) : (r_ru 9).wp Tryd.prog (Exit.then N Q) a w :=
  reg (l0 := [(3, .pointer (some (⟨g3, 0, none⟩)))]) [2] [2, 37] [.raw, .sto] hs ⟨e3, trivial⟩ (And.intro s0 (fun a' => hN a')) (by kernel_rfl)
theorem ru_r10 {t : ByteArray} {g3 : Nat} (hs : Sl 40 a l) (e4 : l.lookup 4 = some (.string t)) (e3 : l.lookup 3 = some (.pointer (some (⟨g3, 0, none⟩)))) (s0 : (Instr.storeAt 26 (.pointer (some (⟨g3, 0, none⟩))) (.agg #[.int .i64 0, .int .i64 0, .string (⟨#[]⟩)])).run Tryd.prog w = .ok () (w.setCells g3 0 [.int .i64 0, .int .i64 0, .string (⟨#[]⟩)]))
    (hN : ∀ a', Sl 40 a' ((2, .string t) :: dropL [2, 38, 39] l) → N a' (w.setCells g3 0 [.int .i64 0, .int .i64 0, .string (⟨#[]⟩)])) : (r_ru 10).wp Tryd.prog (Exit.then N Q) a w :=
  reg (l0 := [(4, .string t), (3, .pointer (some (⟨g3, 0, none⟩)))]) [2] [2, 38, 39] [.raw, .sto] hs ⟨e4, e3, trivial⟩ (And.intro s0 (fun a' => hN a')) (by kernel_rfl)
noncomputable def r_lq (n : Nat) : Code := ((Tryd.f4.body.bind (findR n)).getD .skip)
noncomputable def lqBody : Code := (.seq (r_lq 0) (.seq (r_lq 1) (.seq (r_lq 2) (.seq (r_lq 3) (.seq (r_lq 4) (.seq (r_lq 5) (.seq (r_lq 6) (.seq (r_lq 7) (.seq (r_lq 8) .ret)))))))))
theorem lq_body : Tryd.f4.body = some lqBody := by kernel_rfl
theorem lq_r0 (hs : Sl 65 a l)
    (hN : ∀ a', Sl 65 a' ((2, .bool false) :: dropL [2] l) → N a' w) : (r_lq 0).wp Tryd.prog (Exit.then N Q) a w :=
  reg (l0 := []) [2] [2] [] hs trivial (fun a' => hN a') (by kernel_rfl)
theorem lq_r1 {C0 : World → Prop} (hs : Sl 65 a l) (k0 : Calls Tryd.prog 10 #[] w fun e w' => e = .returned (.bool true) ∧ C0 w')
    (hN : ∀ a' (w1 : World), C0 w1 → Sl 65 a' ((3, .bool true) :: dropL [3, 13] l) → N a' w1) : (r_lq 1).wp Tryd.prog (Exit.then N Q) a w :=
  reg (l0 := []) [3] [3, 13] [.ret (.bool true) C0] hs trivial (And.intro k0 (fun (w1 : World) (hc0 : C0 w1) => (fun a' => hN a' w1 hc0))) (by kernel_rfl)
theorem lq_r2 {s : ByteArray} {t : ByteArray} {c : Int} {p : Int} {x : ByteArray} {C0 : World → Prop} (hs : Sl 65 a l) (e0 : l.lookup 0 = some (.string s)) (k0 : Calls Tryd.prog 17 #[.string s] w fun e w' => e = .returned (.tuple #[.string t, .agg #[.int .i64 c, .int .i64 p, .string x]]) ∧ C0 w') (s1 : ∀ (w1 : World), C0 w1 → (Instr.storeAt 26 (.pointer (some (⟨w1.heap.size, 0, none⟩))) (.agg #[.int .i64 c, .int .i64 p, .string x])).run Tryd.prog (w1.alloc (.cells #[.int .i64 0, .int .i64 0, .string (⟨#[]⟩)] 26)) = .ok () ((w1.alloc (.cells #[.int .i64 0, .int .i64 0, .string (⟨#[]⟩)] 26)).setCells w1.heap.size 0 [.int .i64 c, .int .i64 p, .string x]))
    (hN : ∀ a' (w1 : World), C0 w1 → Sl 65 a' ((4, .string t) :: (5, .pointer (some (⟨w1.heap.size, 0, none⟩))) :: dropL [4, 5, 14, 15, 16, 17, 18] l) → N a' ((w1.alloc (.cells #[.int .i64 0, .int .i64 0, .string (⟨#[]⟩)] 26)).setCells w1.heap.size 0 [.int .i64 c, .int .i64 p, .string x])) : (r_lq 2).wp Tryd.prog (Exit.then N Q) a w :=
  reg (l0 := [(0, .string s)]) [4, 5] [4, 5, 14, 15, 16, 17, 18] [.ret (.tuple #[.string t, .agg #[.int .i64 c, .int .i64 p, .string x]]) C0, .raw, .sto] hs ⟨e0, trivial⟩ (And.intro k0 (fun (w1 : World) (hc0 : C0 w1) => (And.intro (s1 w1 hc0) (fun a' => hN a' w1 hc0)))) (by kernel_rfl)
theorem lq_r3 {s : ByteArray} {C0 : Value → Value → World → Prop} (hs : Sl 65 a l) (e0 : l.lookup 0 = some (.string s)) (k0 : Calls Tryd.prog 18 #[.string s] w fun e w' => ∃ x21a x21b, e = .returned (.tuple #[x21a, x21b]) ∧ C0 x21a x21b w')
    (hN : ∀ a' (x21a : Value) (x21b : Value) (w1 : World), C0 x21a x21b w1 → Sl 65 a' ((6, x21a) :: (7, x21b) :: dropL [6, 7, 19, 20, 21, 22, 23] l) → N a' w1) : (r_lq 3).wp Tryd.prog (Exit.then N Q) a w :=
  reg (l0 := [(0, .string s)]) [6, 7] [6, 7, 19, 20, 21, 22, 23] [.con2 C0] hs ⟨e0, trivial⟩ (And.intro k0 (fun (x21a : Value) (x21b : Value) (w1 : World) (hc0 : C0 x21a x21b w1) => (fun a' => hN a' x21a x21b w1 hc0))) (by kernel_rfl)
theorem lq_r4 {s : ByteArray} {C0 : Value → Value → World → Prop} (hs : Sl 65 a l) (e0 : l.lookup 0 = some (.string s)) (k0 : Calls Tryd.prog 18 #[.string s] w fun e w' => ∃ x26a x26b, e = .returned (.tuple #[x26a, x26b]) ∧ C0 x26a x26b w')
    (hN : ∀ a' (x26a : Value) (x26b : Value) (w1 : World), C0 x26a x26b w1 → Sl 65 a' ((8, x26a) :: (9, x26b) :: dropL [8, 9, 24, 25, 26, 27, 28] l) → N a' w1) : (r_lq 4).wp Tryd.prog (Exit.then N Q) a w :=
  reg (l0 := [(0, .string s)]) [8, 9] [8, 9, 24, 25, 26, 27, 28] [.con2 C0] hs ⟨e0, trivial⟩ (And.intro k0 (fun (x26a : Value) (x26b : Value) (w1 : World) (hc0 : C0 x26a x26b w1) => (fun a' => hN a' x26a x26b w1 hc0))) (by kernel_rfl)
theorem lq_r5 {ea : Value} {g5 : Nat} {c : Int} {p : Int} {x : ByteArray} {b10 : Bool} {C0 : World → Prop} (hs : Sl 65 a l) (e7 : l.lookup 7 = some (ea)) (e5 : l.lookup 5 = some (.pointer (some (⟨g5, 0, none⟩)))) (l0 : Lds Tryd.prog 26 (.pointer (some (⟨g5, 0, none⟩))) (.agg #[.int .i64 c, .int .i64 p, .string x]) w) (k1 : Calls Tryd.prog 14 #[ea, .agg #[.int .i64 c, .int .i64 p, .string x]] w fun e w' => e = .returned (.bool b10) ∧ C0 w')
    (hN : ∀ a' (w1 : World), C0 w1 → Sl 65 a' ((10, .bool b10) :: dropL [10, 29, 30, 31] l) → N a' w1) : (r_lq 5).wp Tryd.prog (Exit.then N Q) a w :=
  reg (l0 := [(7, ea), (5, .pointer (some (⟨g5, 0, none⟩)))]) [10] [10, 29, 30, 31] [.val (.agg #[.int .i64 c, .int .i64 p, .string x]), .ret (.bool b10) C0] hs ⟨e7, e5, trivial⟩ (And.intro (l0).run (And.intro k1 (fun (w1 : World) (hc0 : C0 w1) => (fun a' => hN a' w1 hc0)))) (by kernel_rfl)
theorem lq_r6 {eb : Value} {g5 : Nat} {c : Int} {p : Int} {x : ByteArray} {b11 : Bool} {C0 : World → Prop} (hs : Sl 65 a l) (e9 : l.lookup 9 = some (eb)) (e5 : l.lookup 5 = some (.pointer (some (⟨g5, 0, none⟩)))) (l0 : Lds Tryd.prog 26 (.pointer (some (⟨g5, 0, none⟩))) (.agg #[.int .i64 c, .int .i64 p, .string x]) w) (k1 : Calls Tryd.prog 14 #[eb, .agg #[.int .i64 c, .int .i64 p, .string x]] w fun e w' => e = .returned (.bool b11) ∧ C0 w')
    (hN : ∀ a' (w1 : World), C0 w1 → Sl 65 a' ((11, .bool b11) :: dropL [11, 32, 33, 34] l) → N a' w1) : (r_lq 6).wp Tryd.prog (Exit.then N Q) a w :=
  reg (l0 := [(9, eb), (5, .pointer (some (⟨g5, 0, none⟩)))]) [11] [11, 32, 33, 34] [.val (.agg #[.int .i64 c, .int .i64 p, .string x]), .ret (.bool b11) C0] hs ⟨e9, e5, trivial⟩ (And.intro (l0).run (And.intro k1 (fun (w1 : World) (hc0 : C0 w1) => (fun a' => hN a' w1 hc0)))) (by kernel_rfl)
theorem lq_r7 {ea : Value} {eb : Value} {b12 : Bool} {C0 : World → Prop} (hs : Sl 65 a l) (e7 : l.lookup 7 = some (ea)) (e9 : l.lookup 9 = some (eb)) (k0 : Calls Tryd.prog 15 #[ea, eb] w fun e w' => e = .returned (.bool b12) ∧ C0 w')
    (hN : ∀ a' (w1 : World), C0 w1 → Sl 65 a' ((12, .bool b12) :: dropL [12, 35, 36, 37] l) → N a' w1) : (r_lq 7).wp Tryd.prog (Exit.then N Q) a w :=
  reg (l0 := [(7, ea), (9, eb)]) [12] [12, 35, 36, 37] [.ret (.bool b12) C0] hs ⟨e7, e9, trivial⟩ (And.intro k0 (fun (w1 : World) (hc0 : C0 w1) => (fun a' => hN a' w1 hc0))) (by kernel_rfl)
theorem lq_r8_ttt {s : ByteArray} {s41 : ByteArray} {C0 : World → Prop} {s43 : ByteArray} {C1 : World → Prop} {x : ByteArray} {t : ByteArray} {y : ByteArray} (hs : Sl 65 a l) (e3 : l.lookup 3 = some (.bool true)) (e0 : l.lookup 0 = some (.string s)) (e6 : l.lookup 6 = some (.string x)) (e4 : l.lookup 4 = some (.string t)) (e8 : l.lookup 8 = some (.string y)) (e10 : l.lookup 10 = some (.bool true)) (e11 : l.lookup 11 = some (.bool true)) (e12 : l.lookup 12 = some (.bool true)) (k0 : Calls Tryd.prog 19 #[.string s] w fun e w' => e = .returned (.string s41) ∧ C0 w') (k1 : ∀ (w1 : World), C0 w1 → Calls Tryd.prog 20 #[.string s] w1 fun e w' => e = .returned (.string s43) ∧ C1 w') (h2 : decide (s41 = s43) = true) (h3 : decide (x = t) = true) (h4 : decide (y = t) = true)
    (hN : ∀ a' (w1 : World) (w2 : World), C0 w1 → C1 w2 → Sl 65 a' ((2, .bool true) :: dropL (2 :: List.range' 38 27) l) → N a' w2) : (r_lq 8).wp Tryd.prog (Exit.then N Q) a w :=
  reg (l0 := [(3, .bool true), (0, .string s), (6, .string x), (4, .string t), (8, .string y), (10, .bool true), (11, .bool true), (12, .bool true)]) [2] (2 :: List.range' 38 27) [.ret (.string s41) C0, .ret (.string s43) C1, .bit true, .bit true, .bit true] hs ⟨e3, e0, e6, e4, e8, e10, e11, e12, trivial⟩ (And.intro k0 (fun (w1 : World) (hc0 : C0 w1) => (And.intro (k1 w1 hc0) (fun (w2 : World) (hc1 : C1 w2) => (And.intro h2 (And.intro h3 (And.intro h4 (fun a' => hN a' w1 w2 hc0 hc1)))))))) (by kernel_rfl)
end Go.Proofs.YtpggcmlddmckcaaDoor
