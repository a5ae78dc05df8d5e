/-
  The regions of owns. Rows of tokens that are written over and grown; contract of owns. Written by an AI agent.
-/
import Derived.Test.YtpggcmlddmckcaaDoorGv
import Derived.Test.YtpggcmlddmckcaaDoorRf7
import Derived.Test.YtpggcmlddmckcaaDoorBl2
namespace Go.Proofs.YtpggcmlddmckcaaDoor
open Go.RowKit Go.Sort
set_option maxRecDepth 100000
variable {a : Act} {w : World} {N : Act → World → Prop} {Q : Exit → Act → World → Prop} {l : List (Nat × Value)}
noncomputable def r_ow (n : Nat) : Code := ((Tryd.f16.body.bind (findR n)).getD .skip)
noncomputable def owL0 : Code := (.seq (.seq (r_ow 21) (.cond (.tmp 59) .skip (.exit 8))) (.seq (.block 9 (.seq (r_ow 23) (.cond (.tmp 67) (.seq (r_ow 24) .ret) .skip))) (r_ow 22)))
noncomputable def owL1 : Code := (.seq (.seq (r_ow 17) (.cond (.tmp 49) .skip (.exit 6))) (.seq (.block 7 (r_ow 19)) (r_ow 18)))
noncomputable def owL2 : Code := (.seq (.seq (r_ow 12) (.cond (.tmp 40) .skip (.exit 4))) (.seq (.block 5 (r_ow 14)) (r_ow 13)))
noncomputable def owL3 : Code := (.seq (.seq (r_ow 7) (.cond (.tmp 27) .skip (.exit 2))) (.seq (.block 3 (r_ow 9)) (r_ow 8)))
noncomputable def owL4 : Code := (.seq (.seq (r_ow 2) (.cond (.tmp 18) .skip (.exit 0))) (.seq (.block 1 (r_ow 4)) (r_ow 3)))
noncomputable def owBody : Code := (.seq (r_ow 0) (.seq (.seq (r_ow 1) (.block 0 (.loop owL4))) (.seq (r_ow 5) (.seq (.seq (r_ow 6) (.block 2 (.loop owL3))) (.seq (r_ow 10) (.seq (.seq (r_ow 11) (.block 4 (.loop owL2))) (.seq (r_ow 15) (.seq (.seq (r_ow 16) (.block 6 (.loop owL1))) (.seq (.seq (r_ow 20) (.block 8 (.loop owL0))) (.seq (r_ow 25) .ret))))))))))
theorem ow_body : Tryd.f16.body = some owBody := by kernel_rfl
theorem ow_r0 (hs : Sl 77 a l)
    (hN : ∀ a', Sl 77 a' ((6, .bool false) :: dropL [6] l) → N a' w) : (r_ow 0).wp Tryd.prog (Exit.then N Q) a w :=
  reg (l0 := []) [6] [6] [] hs trivial (fun a' => hN a') (by kernel_rfl)
theorem ow_r1 (hs : Sl 77 a l)
    (hN : ∀ a', Sl 77 a' ((7, .int .i64 0) :: dropL [7] l) → N a' w) : (r_ow 1).wp Tryd.prog (Exit.then N Q) a w :=
  reg (l0 := []) [7] [7] [] hs trivial (fun a' => hN a') (by kernel_rfl)
theorem ow_r2 {i : Nat} {d0 : Option Addr} {n0 : Nat} {q0 : Nat} {b18 : Bool} (hs : Sl 77 a l) (e7 : l.lookup 7 = some (.int .i64 (i : Int))) (e0 : l.lookup 0 = some (.slice d0 n0 q0)) (h0 : decide ((i : Int) < (n0 : Int)) = b18)
    (hN : ∀ a', Sl 77 a' ((18, .bool b18) :: dropL [15, 16, 17, 18] l) → N a' w) : (r_ow 2).wp Tryd.prog (Exit.then N Q) a w :=
  reg (l0 := [(7, .int .i64 (i : Int)), (0, .slice d0 n0 q0)]) [18] [15, 16, 17, 18] [.bit b18] hs ⟨e7, e0, trivial⟩ (And.intro h0 (fun a' => hN a')) (by kernel_rfl)
theorem ow_r3 {i : Nat} (hs : Sl 77 a l) (e7 : l.lookup 7 = some (.int .i64 (i : Int))) (h0 : -9223372036854775808 ≤ (i : Int) + 1 ∧ (i : Int) + 1 ≤ 9223372036854775807)
    (hN : ∀ a', Sl 77 a' ((7, .int .i64 ((i : Int) + 1)) :: dropL [7, 19, 20] l) → N a' w) : (r_ow 3).wp Tryd.prog (Exit.then N Q) a w :=
  reg (l0 := [(7, .int .i64 (i : Int))]) [7] [7, 19, 20] [.ari] hs ⟨e7, trivial⟩ (And.intro h0 (fun a' => hN a')) (by kernel_rfl)
theorem ow_r4 {d0 : Option Addr} {n0 : Nat} {q0 : Nat} {i : Nat} {g24 : Nat} {o24 : Nat} (hs : Sl 77 a l) (e0 : l.lookup 0 = some (.slice d0 n0 q0)) (e7 : l.lookup 7 = some (.int .i64 (i : Int))) (i0 : ∀ w, (Instr.indexAt 23 (.slice d0 n0 q0) (.int .i64 (i : Int))).run Tryd.prog w = .ok (.pointer (some (⟨g24, o24, none⟩))) w) (s1 : (Instr.storeAt 48 (.pointer (some (⟨g24, o24, none⟩))) (.agg #[.int .i64 (-9), .string (⟨#[]⟩), .int .i64 0])).run Tryd.prog w = .ok () (w.setCells g24 o24 [.int .i64 (-9), .string (⟨#[]⟩), .int .i64 0]))
    (hN : ∀ a', Sl 77 a' (dropL [21, 22, 23, 24] l) → N a' (w.setCells g24 o24 [.int .i64 (-9), .string (⟨#[]⟩), .int .i64 0])) : (r_ow 4).wp Tryd.prog (Exit.then N Q) a w :=
  reg (l0 := [(0, .slice d0 n0 q0), (7, .int .i64 (i : Int))]) [] [21, 22, 23, 24] [.raw, .val (.pointer (some (⟨g24, o24, none⟩))), .sto] hs ⟨e0, e7, trivial⟩ (And.intro (i0 w) (And.intro s1 (fun a' => hN a'))) (by kernel_rfl)
theorem ow_r5 {v0 : Value} (hs : Sl 77 a l) (e0 : l.lookup 0 = some (v0))
    (hN : ∀ a', Sl 77 a' ((8, v0) :: dropL [8, 25] l) → N a' w) : (r_ow 5).wp Tryd.prog (Exit.then N Q) a w :=
  reg (l0 := [(0, v0)]) [8] [8, 25] [] hs ⟨e0, trivial⟩ (fun a' => hN a') (by kernel_rfl)
theorem ow_r6 (hs : Sl 77 a l)
    (hN : ∀ a', Sl 77 a' ((9, .int .i64 0) :: dropL [9] l) → N a' w) : (r_ow 6).wp Tryd.prog (Exit.then N Q) a w :=
  reg (l0 := []) [9] [9] [] hs trivial (fun a' => hN a') (by kernel_rfl)
theorem ow_r7 {j : Int} {b27 : Bool} (hs : Sl 77 a l) (e9 : l.lookup 9 = some (.int .i64 j)) (h0 : decide (j < 20) = b27)
    (hN : ∀ a', Sl 77 a' ((27, .bool b27) :: dropL [26, 27] l) → N a' w) : (r_ow 7).wp Tryd.prog (Exit.then N Q) a w :=
  reg (l0 := [(9, .int .i64 j)]) [27] [26, 27] [.bit b27] hs ⟨e9, trivial⟩ (And.intro h0 (fun a' => hN a')) (by kernel_rfl)
theorem ow_r8 {j : Int} (hs : Sl 77 a l) (e9 : l.lookup 9 = some (.int .i64 j)) (h0 : -9223372036854775808 ≤ j + 1 ∧ j + 1 ≤ 9223372036854775807)
    (hN : ∀ a', Sl 77 a' ((9, .int .i64 (j + 1)) :: dropL [9, 28, 29] l) → N a' w) : (r_ow 8).wp Tryd.prog (Exit.then N Q) a w :=
  reg (l0 := [(9, .int .i64 j)]) [9] [9, 28, 29] [.ari] hs ⟨e9, trivial⟩ (And.intro h0 (fun a' => hN a')) (by kernel_rfl)
theorem ow_r9 {v8 : Value} {C0 : Value → World → Prop} (hs : Sl 77 a l) (e8 : l.lookup 8 = some (v8)) (k0 : ∀ ty, ∃ v w', (Builtin.append_ #[23, 23] ty #[v8, .slice (some ⟨w.heap.size, 0, none⟩) 1 1]).run Tryd.prog (w.alloc (.cells #[.int .i64 (-9), .string (⟨#[]⟩), .int .i64 0] 48)) = .ok v w' ∧ C0 v w')
    (hN : ∀ a' (x33 : Value) (w1 : World), C0 x33 w1 → Sl 77 a' ((8, x33) :: dropL [8, 30, 31, 32, 33] l) → N a' w1) : (r_ow 9).wp Tryd.prog (Exit.then N Q) a w :=
  reg (l0 := [(8, v8)]) [8] [8, 30, 31, 32, 33] [.raw, .raw, .app C0] hs ⟨e8, trivial⟩ (And.intro k0 (fun (x33 : Value) (w1 : World) (hc0 : C0 x33 w1) => (fun a' => hN a' x33 w1 hc0))) (by kernel_rfl)
theorem ow_r10 {v1 : Value} {wv : Value} {kp : Bool} {C0 : World → Prop} (hs : Sl 77 a l) (e1 : l.lookup 1 = some (v1)) (e2 : l.lookup 2 = some (wv)) (k0 : Calls Tryd.prog 13 #[v1, wv] w fun e w' => e = .returned (.bool kp) ∧ C0 w')
    (hN : ∀ a' (w1 : World), C0 w1 → Sl 77 a' ((10, .bool kp) :: dropL [10, 34, 35, 36] l) → N a' w1) : (r_ow 10).wp Tryd.prog (Exit.then N Q) a w :=
  reg (l0 := [(1, v1), (2, wv)]) [10] [10, 34, 35, 36] [.ret (.bool kp) C0] hs ⟨e1, e2, trivial⟩ (And.intro k0 (fun (w1 : World) (hc0 : C0 w1) => (fun a' => hN a' w1 hc0))) (by kernel_rfl)
theorem ow_r11 (hs : Sl 77 a l)
    (hN : ∀ a', Sl 77 a' ((11, .int .i64 0) :: dropL [11] l) → N a' w) : (r_ow 11).wp Tryd.prog (Exit.then N Q) a w :=
  reg (l0 := []) [11] [11] [] hs trivial (fun a' => hN a') (by kernel_rfl)
theorem ow_r12 {i : Nat} {d1 : Option Addr} {n1 : Nat} {q1 : Nat} {b40 : Bool} (hs : Sl 77 a l) (e11 : l.lookup 11 = some (.int .i64 (i : Int))) (e1 : l.lookup 1 = some (.slice d1 n1 q1)) (h0 : decide ((i : Int) < (n1 : Int)) = b40)
    (hN : ∀ a', Sl 77 a' ((40, .bool b40) :: dropL [37, 38, 39, 40] l) → N a' w) : (r_ow 12).wp Tryd.prog (Exit.then N Q) a w :=
  reg (l0 := [(11, .int .i64 (i : Int)), (1, .slice d1 n1 q1)]) [40] [37, 38, 39, 40] [.bit b40] hs ⟨e11, e1, trivial⟩ (And.intro h0 (fun a' => hN a')) (by kernel_rfl)
theorem ow_r13 {i : Nat} (hs : Sl 77 a l) (e11 : l.lookup 11 = some (.int .i64 (i : Int))) (h0 : -9223372036854775808 ≤ (i : Int) + 1 ∧ (i : Int) + 1 ≤ 9223372036854775807)
    (hN : ∀ a', Sl 77 a' ((11, .int .i64 ((i : Int) + 1)) :: dropL [11, 41, 42] l) → N a' w) : (r_ow 13).wp Tryd.prog (Exit.then N Q) a w :=
  reg (l0 := [(11, .int .i64 (i : Int))]) [11] [11, 41, 42] [.ari] hs ⟨e11, trivial⟩ (And.intro h0 (fun a' => hN a')) (by kernel_rfl)
theorem ow_r14 {d1 : Option Addr} {n1 : Nat} {q1 : Nat} {i : Nat} {g46 : Nat} {o46 : Nat} (hs : Sl 77 a l) (e1 : l.lookup 1 = some (.slice d1 n1 q1)) (e11 : l.lookup 11 = some (.int .i64 (i : Int))) (i0 : ∀ w, (Instr.indexAt 23 (.slice d1 n1 q1) (.int .i64 (i : Int))).run Tryd.prog w = .ok (.pointer (some (⟨g46, o46, none⟩))) w) (s1 : (Instr.storeAt 48 (.pointer (some (⟨g46, o46, none⟩))) (.agg #[.int .i64 (-8), .string (⟨#[]⟩), .int .i64 0])).run Tryd.prog w = .ok () (w.setCells g46 o46 [.int .i64 (-8), .string (⟨#[]⟩), .int .i64 0]))
    (hN : ∀ a', Sl 77 a' (dropL [43, 44, 45, 46] l) → N a' (w.setCells g46 o46 [.int .i64 (-8), .string (⟨#[]⟩), .int .i64 0])) : (r_ow 14).wp Tryd.prog (Exit.then N Q) a w :=
  reg (l0 := [(1, .slice d1 n1 q1), (11, .int .i64 (i : Int))]) [] [43, 44, 45, 46] [.raw, .val (.pointer (some (⟨g46, o46, none⟩))), .sto] hs ⟨e1, e11, trivial⟩ (And.intro (i0 w) (And.intro s1 (fun a' => hN a'))) (by kernel_rfl)
theorem ow_r15 {v1 : Value} (hs : Sl 77 a l) (e1 : l.lookup 1 = some (v1))
    (hN : ∀ a', Sl 77 a' ((12, v1) :: dropL [12, 47] l) → N a' w) : (r_ow 15).wp Tryd.prog (Exit.then N Q) a w :=
  reg (l0 := [(1, v1)]) [12] [12, 47] [] hs ⟨e1, trivial⟩ (fun a' => hN a') (by kernel_rfl)
theorem ow_r16 (hs : Sl 77 a l)
    (hN : ∀ a', Sl 77 a' ((13, .int .i64 0) :: dropL [13] l) → N a' w) : (r_ow 16).wp Tryd.prog (Exit.then N Q) a w :=
  reg (l0 := []) [13] [13] [] hs trivial (fun a' => hN a') (by kernel_rfl)
theorem ow_r17 {j : Int} {b49 : Bool} (hs : Sl 77 a l) (e13 : l.lookup 13 = some (.int .i64 j)) (h0 : decide (j < 20) = b49)
    (hN : ∀ a', Sl 77 a' ((49, .bool b49) :: dropL [48, 49] l) → N a' w) : (r_ow 17).wp Tryd.prog (Exit.then N Q) a w :=
  reg (l0 := [(13, .int .i64 j)]) [49] [48, 49] [.bit b49] hs ⟨e13, trivial⟩ (And.intro h0 (fun a' => hN a')) (by kernel_rfl)
theorem ow_r18 {j : Int} (hs : Sl 77 a l) (e13 : l.lookup 13 = some (.int .i64 j)) (h0 : -9223372036854775808 ≤ j + 1 ∧ j + 1 ≤ 9223372036854775807)
    (hN : ∀ a', Sl 77 a' ((13, .int .i64 (j + 1)) :: dropL [13, 50, 51] l) → N a' w) : (r_ow 18).wp Tryd.prog (Exit.then N Q) a w :=
  reg (l0 := [(13, .int .i64 j)]) [13] [13, 50, 51] [.ari] hs ⟨e13, trivial⟩ (And.intro h0 (fun a' => hN a')) (by kernel_rfl)
theorem ow_r19 {v12 : Value} {C0 : Value → World → Prop} (hs : Sl 77 a l) (e12 : l.lookup 12 = some (v12)) (k0 : ∀ ty, ∃ v w', (Builtin.append_ #[23, 23] ty #[v12, .slice (some ⟨w.heap.size, 0, none⟩) 1 1]).run Tryd.prog (w.alloc (.cells #[.int .i64 (-8), .string (⟨#[]⟩), .int .i64 0] 48)) = .ok v w' ∧ C0 v w')
    (hN : ∀ a' (x55 : Value) (w1 : World), C0 x55 w1 → Sl 77 a' ((12, x55) :: dropL [12, 52, 53, 54, 55] l) → N a' w1) : (r_ow 19).wp Tryd.prog (Exit.then N Q) a w :=
  reg (l0 := [(12, v12)]) [12] [12, 52, 53, 54, 55] [.raw, .raw, .app C0] hs ⟨e12, trivial⟩ (And.intro k0 (fun (x55 : Value) (w1 : World) (hc0 : C0 x55 w1) => (fun a' => hN a' x55 w1 hc0))) (by kernel_rfl)
theorem ow_r20 (hs : Sl 77 a l)
    (hN : ∀ a', Sl 77 a' ((14, .int .i64 0) :: dropL [14] l) → N a' w) : (r_ow 20).wp Tryd.prog (Exit.then N Q) a w :=
  reg (l0 := []) [14] [14] [] hs trivial (fun a' => hN a') (by kernel_rfl)
theorem ow_r21 {i : Nat} {d8 : Option Addr} {n8 : Nat} {q8 : Nat} {b59 : Bool} (hs : Sl 77 a l) (e14 : l.lookup 14 = some (.int .i64 (i : Int))) (e8 : l.lookup 8 = some (.slice d8 n8 q8)) (h0 : decide ((i : Int) < (n8 : Int)) = b59)
    (hN : ∀ a', Sl 77 a' ((59, .bool b59) :: dropL [56, 57, 58, 59] l) → N a' w) : (r_ow 21).wp Tryd.prog (Exit.then N Q) a w :=
  reg (l0 := [(14, .int .i64 (i : Int)), (8, .slice d8 n8 q8)]) [59] [56, 57, 58, 59] [.bit b59] hs ⟨e14, e8, trivial⟩ (And.intro h0 (fun a' => hN a')) (by kernel_rfl)
theorem ow_r22 {i : Nat} (hs : Sl 77 a l) (e14 : l.lookup 14 = some (.int .i64 (i : Int))) (h0 : -9223372036854775808 ≤ (i : Int) + 1 ∧ (i : Int) + 1 ≤ 9223372036854775807)
    (hN : ∀ a', Sl 77 a' ((14, .int .i64 ((i : Int) + 1)) :: dropL [14, 60, 61] l) → N a' w) : (r_ow 22).wp Tryd.prog (Exit.then N Q) a w :=
  reg (l0 := [(14, .int .i64 (i : Int))]) [14] [14, 60, 61] [.ari] hs ⟨e14, trivial⟩ (And.intro h0 (fun a' => hN a')) (by kernel_rfl)
theorem ow_r23 {d8 : Option Addr} {n8 : Nat} {q8 : Nat} {i : Nat} {g64 : Nat} {o64 : Nat} {k : Int} {b67 : Bool} (hs : Sl 77 a l) (e8 : l.lookup 8 = some (.slice d8 n8 q8)) (e14 : l.lookup 14 = some (.int .i64 (i : Int))) (i0 : ∀ w, (Instr.indexAt 23 (.slice d8 n8 q8) (.int .i64 (i : Int))).run Tryd.prog w = .ok (.pointer (some (⟨g64, o64, none⟩))) w) (l1 : Lds Tryd.prog 3 (.pointer (some (⟨g64, o64 + 0, none⟩))) (.int .i64 k) w) (h2 : decide (k ≠ (-9)) = b67)
    (hN : ∀ a', Sl 77 a' ((67, .bool b67) :: dropL [62, 63, 64, 65, 66, 67] l) → N a' w) : (r_ow 23).wp Tryd.prog (Exit.then N Q) a w :=
  reg (l0 := [(8, .slice d8 n8 q8), (14, .int .i64 (i : Int))]) [67] [62, 63, 64, 65, 66, 67] [.val (.pointer (some (⟨g64, o64, none⟩))), .val (.int .i64 k), .bit b67] hs ⟨e8, e14, trivial⟩ (And.intro (i0 w) (And.intro (l1).run (And.intro h2 (fun a' => hN a')))) (by kernel_rfl)
theorem ow_r24 (hs : Sl 77 a l)
    (hN : ∀ a', Sl 77 a' ((6, .bool false) :: dropL [6] l) → N a' w) : (r_ow 24).wp Tryd.prog (Exit.then N Q) a w :=
  reg (l0 := []) [6] [6] [] hs trivial (fun a' => hN a') (by kernel_rfl)
theorem ow_r25_t {d2 : Option Addr} {n2 : Nat} {q2 : Nat} {d1 : Option Addr} {n1 : Nat} {q1 : Nat} {b75 : Bool} (hs : Sl 77 a l) (e10 : l.lookup 10 = some (.bool true)) (e12 : l.lookup 12 = some (.slice d2 n2 q2)) (e1 : l.lookup 1 = some (.slice d1 n1 q1)) (h0 : -9223372036854775808 ≤ (n1 : Int) + 20 ∧ (n1 : Int) + 20 ≤ 9223372036854775807) (h1 : decide ((n2 : Int) = ((n1 : Int) + 20)) = b75)
    (hN : ∀ a', Sl 77 a' ((6, .bool b75) :: dropL (6 :: List.range' 68 9) l) → N a' w) : (r_ow 25).wp Tryd.prog (Exit.then N Q) a w :=
  reg (l0 := [(10, .bool true), (12, .slice d2 n2 q2), (1, .slice d1 n1 q1)]) [6] (6 :: List.range' 68 9) [.ari, .bit b75] hs ⟨e10, e12, e1, trivial⟩ (And.intro h0 (And.intro h1 (fun a' => hN a'))) (by kernel_rfl)
theorem ow_r25_f (hs : Sl 77 a l) (e10 : l.lookup 10 = some (.bool false))
    (hN : ∀ a', Sl 77 a' ((6, .bool false) :: dropL (6 :: List.range' 68 9) l) → N a' w) : (r_ow 25).wp Tryd.prog (Exit.then N Q) a w :=
  reg (l0 := [(10, .bool false)]) [6] (6 :: List.range' 68 9) [] hs ⟨e10, trivial⟩ (fun a' => hN a') (by kernel_rfl)
end Go.Proofs.YtpggcmlddmckcaaDoor

namespace Go.Proofs.YtpggcmlddmckcaaDoor
open Go.RowKit Go.Sort
set_option maxRecDepth 100000

/-- A token of any kind appended: the row is the old one, or a new one at the heap's end. -/
theorem app_int {w : World} {B n : Nat} {v : Value} {xs : List Value} (k : Int) (h : w.ownsRow B 48 3 v n xs) (hB : B ≤ w.heap.size) (hz : n ≤ 1000000) (ty : TypeId) :
    ∃ v' w', (Builtin.append_ #[23, 23] ty #[v, .slice (some ⟨w.heap.size, 0, none⟩) 1 1]).run Tryd.prog (w.alloc (.cells #[.int .i64 k, .string ⟨#[]⟩, .int .i64 0] 48)) = .ok v' w' ∧
      (w'.ownsRow B 48 3 v' (n + 1) (xs ++ [.int .i64 k, .string ⟨#[]⟩, .int .i64 0]) ∧ w.grownBy w' v.ownBlock ∧ (v'.ownBlock = v.ownBlock ∨ ∃ g, v'.ownBlock = some g ∧ w.heap.size ≤ g)) := by
  obtain ⟨i, h1, h2'⟩ := Option.map_eq_some_iff.1 (show (Tryd.prog.info? 48).map (fun i => (i.size, i.bytes, i.zero)) = some (3, 32, some (.agg #[.int .i64 0, .string ⟨#[]⟩, .int .i64 0])) by kernel_rfl)
  injection h2' with h2 h3'
  injection h3' with h3 h4
  have hba := bl_alloc (Below.refl w.heap.size w) (.cells #[.int .i64 k, .string ⟨#[]⟩, .int .i64 0] 48)
  have had : ∀ g j, (⟨g, 0, none⟩ : Addr).add j = ⟨g, j, none⟩ := fun g j => by
    unfold Addr.add
    split <;> simp_all
  have hn := Blk.new w 48 #[.int .i64 k, .string ⟨#[]⟩, .int .i64 0]
  obtain ⟨v', w', hr, ho, hg, _, hat⟩ := run_append_own_at (P := Tryd.prog) (w := w.alloc (.cells #[.int .i64 k, .string ⟨#[]⟩, .int .i64 0] 48)) B 23 ty 48 i _ 3 32 Tryd.underlying23 h1 h4 h2 h3 rfl (by omega) v n _ (own_below' h hba)
    ⟨w.heap.size, 0, none⟩ 1 1 [.int .i64 k, .string ⟨#[]⟩, .int .i64 0] rfl (fun j u hu => by rw [had, hn.cell, ← Array.getElem?_toList]; exact hu) (fun u hu => by
      rcases List.mem_cons.1 hu with rfl | hu
      · rfl
      rcases List.mem_cons.1 hu with rfl | hu
      · rfl
      rcases List.mem_cons.1 hu with rfl | hu
      · rfl
      · cases hu) (by simp only [maxLen]; omega) (by omega) (Nat.le_trans hB hba.size)
  refine ⟨v', w', hr, ho, grown_front hba hg, ?_⟩
  rcases hat with hat | hat
  · exact .inl hat
  · exact .inr ⟨_, hat, hba.size⟩
/-- A token of one's own row written over. -/
theorem own_set {w : World} {B n g cap : Nat} {xs : List Value} (h : w.ownsRow B 48 3 (.slice (some ⟨g, 0, none⟩) n cap) n xs) (i : Nat) (hi : i < n) (k : Int) :
    (Instr.storeAt 48 (.pointer (some ⟨g, i * 3, none⟩)) (.agg #[.int .i64 k, .string ⟨#[]⟩, .int .i64 0])).run Tryd.prog w = .ok () (w.setCells g (i * 3) [.int .i64 k, .string ⟨#[]⟩, .int .i64 0]) ∧
    ∃ ys, (w.setCells g (i * 3) [.int .i64 k, .string ⟨#[]⟩, .int .i64 0]).ownsRow B 48 3 (.slice (some ⟨g, 0, none⟩) n cap) n ys ∧ ys[3 * i]? = some (.int .i64 k) ∧ ∀ j, j ≠ i → ys[3 * j]? = xs[3 * j]? := by
  rcases h.2 with h0 | ⟨g', cap', cur, e, hB, hh, hle, hcm, hsz, htk⟩
  · cases h0.1
  injection e with e1 e2 e3
  injection e1 with e1
  injection e1 with e1
  subst e1
  subst e3
  have hS := Blk.setL [.int .i64 k, .string ⟨#[]⟩, .int .i64 0] (i * 3) cur w hh
  refine ⟨stsA (there_blk hh (by simp; omega)) tokInf (by simp [Value.oneCell']), _, ⟨?_, .inr ⟨g, cap, _, rfl, hB, hS, hle, hcm, ?_, rfl⟩⟩, ?_, ?_⟩
  · simp; omega
  · simp; omega
  · rw [List.getElem?_take_of_lt (by omega), Array.getElem?_toList]
    simp only [List.foldl, Array.getElem?_setIfInBounds, Array.size_setIfInBounds]
    rw [if_neg (by omega), if_neg (by omega), if_pos (by omega), if_pos (by omega)]
  · intro j hj
    rw [← htk]
    by_cases hlt : 3 * j < n * 3
    · rw [List.getElem?_take_of_lt hlt, List.getElem?_take_of_lt hlt, Array.getElem?_toList, Array.getElem?_toList]
      simp only [List.foldl, Array.getElem?_setIfInBounds, Array.size_setIfInBounds]
      rw [if_neg (by omega), if_neg (by omega), if_neg (by omega)]
    · rw [List.getElem?_take_eq_none (by omega), List.getElem?_take_eq_none (by omega)]
theorem own_form {w : World} {B sz n : Nat} {e : TypeId} {v : Value} {xs : List Value} (h : w.ownsRow B e sz v n xs) : ∃ d cap, v = .slice d n cap := by
  rcases h.2 with ⟨rfl, rfl⟩ | ⟨g, cap, cur, rfl, _⟩
  · exact ⟨_, _, rfl⟩
  · exact ⟨_, _, rfl⟩
theorem own_some {w : World} {B sz n : Nat} {e : TypeId} {v : Value} {xs : List Value} (h : w.ownsRow B e sz v n xs) (hn : 0 < n) : ∃ g cap cur, v = .slice (some ⟨g, 0, none⟩) n cap ∧ B ≤ g ∧ Blk w g e cur ∧ cur.toList.take (n * sz) = xs := by
  rcases h.2 with ⟨rfl, rfl⟩ | ⟨g, cap, cur, rfl, hB, hh, _, _, _, ht⟩
  · omega
  · exact ⟨g, cap, cur, rfl, hB, hh, ht⟩
/-- A row keeps where another block is written. -/
theorem own_off {w : World} {B sz n g : Nat} {e : TypeId} {v : Value} {xs : List Value} (h : w.ownsRow B e sz v n xs) (hg : v.ownBlock ≠ some g) (o : Nat) (vs : List Value) : (w.setCells g o vs).ownsRow B e sz v n xs := by
  refine ⟨h.1, ?_⟩
  rcases h.2 with h0 | ⟨b, cap, cur, rfl, hB, hh, h1⟩
  · exact .inl h0
  · exact .inr ⟨b, cap, cur, rfl, hB, Blk.farL (fun e => hg (by rw [e]; rfl)) vs o w hh, h1⟩
/-- A row keeps where what lies below is kept. -/
theorem own_under {w w' : World} {B B' sz n : Nat} {e : TypeId} {v : Value} {xs : List Value} (h : w.ownsRow B e sz v n xs) (hg : ∀ g, v.ownBlock = some g → g < B') (hb : Below B' w w') : w'.ownsRow B e sz v n xs := by
  refine ⟨h.1, ?_⟩
  rcases h.2 with h0 | ⟨b, cap, cur, rfl, hB, hh, h1⟩
  · exact .inl h0
  · exact .inr ⟨b, cap, cur, rfl, hB, (hb.block b (hg b rfl)).trans hh, h1⟩
theorem len_own {w : World} {B sz n : Nat} {e : TypeId} {v : Value} {xs : List Value} (h : w.ownsRow B e sz v n xs) (g : Nat) (hg : v.ownBlock = some g) : B ≤ g ∧ g < w.heap.size := by
  rcases own_block h with h0 | ⟨b, cur, h1, h2, h3, _⟩
  · rw [h0] at hg; cases hg
  · rw [h1] at hg; injection hg with hg; subst hg; exact ⟨h2, h3⟩
theorem snoc_kind {xs : List Value} {n : Nat} {k : Int} (hl : xs.length = n * 3) (h : ∀ j, j < n → xs[3 * j]? = some (.int .i64 k)) : ∀ j, j < n + 1 → (xs ++ [.int .i64 k, .string ⟨#[]⟩, .int .i64 0])[3 * j]? = some (.int .i64 k) := fun j hj => by
  by_cases hjn : j < n
  · rw [List.getElem?_append_left (by omega)]
    exact h j hjn
  · rw [List.getElem?_append_right (by omega), show 3 * j - xs.length = 0 by omega]
    rfl

set_option maxHeartbeats 8000000 in
/-- Of three rows alike that lie apart, owns answers true: one is written over and grown, then the next. -/
theorem owns_any (ts : List Tok) (hz : ts.length ≤ 900000) (w : World) (B0 B1 B2 : Nat) (vw va vb : Value) (hw : Toks w B0 vw ts) (ha : Toks w B1 va ts) (hb : Toks w B2 vb ts)
    (h1 : ∀ g, vw.ownBlock = some g → g < B1) (h2 : ∀ g, va.ownBlock = some g → g < B2) (h12 : B1 ≤ B2) (hB2 : B2 ≤ w.heap.size) :
    Calls Tryd.prog 16 #[va, vb, vw] w fun e w' => e = .returned (.bool true) ∧ Below B1 w w' := by
  obtain ⟨n, hn⟩ : ∃ n, n = ts.length := ⟨_, rfl⟩
  obtain ⟨da, ca, hva⟩ := own_form ha
  obtain ⟨db, cb, hvb⟩ := own_form hb
  rw [← hn] at hva hvb
  refine calls_ev (vs := [va, vb, vw]) 77 Tryd.func16 ow_body (by kernel_rfl) (by simp) fun a0 k0 => ?_
  unfold owBody
  refine wp_seq (ow_r0 k0 fun a1 k1 => ?_)
  refine wp_seq (wp_seq (ow_r1 k1 fun a2 k2 => ?_))
  refine wp_block ?_
  refine wp_loop (fun a' wr => ∃ (i : Nat) (xs : List Value), i ≤ n ∧ wr.ownsRow B1 48 3 va n xs ∧ (∀ j, j < i → xs[3 * j]? = some (.int .i64 (-9))) ∧ Below B1 w wr ∧ Toks wr B2 vb ts ∧ Sl 77 a' [(7, .int .i64 (i : Int)), (0, va), (1, vb), (2, vw)]) (fun a' _ => muTo n (slot a' 7))
    ⟨0, toksC ts, Nat.zero_le _, hn ▸ ha, (fun j hj => by omega), Below.refl _ _, hb, k2.to ⟨rfl, rfl, rfl, rfl, trivial⟩⟩ ?_
  rintro a3 w3 ⟨i, xs, hi, q1, q2, q3, q4, k3⟩
  rw [k3.look 7 rfl, muTo_int]
  unfold owL4
  by_cases hlt : i < n
  · obtain ⟨g, cap, cur, hv, hBg, _, _⟩ := own_some q1 (by omega)
    rw [hv] at k3
    refine wp_seq (wp_seq (ow_r2 k3 rfl rfl (decide_eq_true (by omega)) fun a4 k4 => wpn (k4.look 18 rfl) ?_))
    rw [hv] at q1
    obtain ⟨s1, ys, s2, s3, s4⟩ := own_set q1 i hlt (-9)
    refine wp_seq (wp_block ?_)
    refine wpl (ow_r4 k4 rfl rfl (ix_at (o := i * 3) i rfl Tryd.underlying23 tokInf hlt rfl) s1 fun a5 k5 => ?_)
    refine wpl (ow_r3 k5 rfl (by omega) fun a6 k6 => ?_)
    have hne : vb.ownBlock ≠ some g := fun e => by
      have := (len_own q4 g e).1
      have := h2 g (by rw [hv]; rfl)
      omega
    refine ⟨⟨i + 1, ys, hlt, by rw [hv]; exact s2, fun j hj => ?_, below_setCells _ _ _ q3 hBg, own_off q4 hne _ _, k6.to ⟨rfl, by rw [hv]; rfl, rfl, rfl, trivial⟩⟩, ?_⟩
    · by_cases hji : j = i
      · rw [hji]; exact s3
      · rw [s4 j hji]; exact q2 j (by omega)
    · rw [k6.look 7 rfl]
      show muTo n (.int .i64 ((i + 1 : Nat) : Int)) < _
      rw [muTo_int]
      omega
  have q2 : ∀ j, j < n → xs[3 * j]? = some (.int .i64 (-9)) := fun j hj => q2 j (by omega)
  rw [hva] at k3
  refine wp_seq (wp_seq (ow_r2 k3 rfl rfl (decide_eq_false (by omega)) fun a4 k4 => wpx (k4.look 18 rfl) ?_))
  refine then_exit (in_block' ?_)
  rw [← hva] at k4
  refine wp_seq (ow_r5 k4 rfl fun a5 k5 => ?_)
  refine wp_seq (wp_seq (ow_r6 k5 fun a6 k6 => ?_))
  refine wp_block ?_
  have hab : ∀ g, va.ownBlock = some g → vb.ownBlock ≠ some g := fun g e e' => by
    have := (len_own q4 g e').1
    have := h2 g e
    omega
  refine wp_loop (fun a' wr => ∃ (j : Nat) (x : Value) (xs : List Value), j ≤ 20 ∧ wr.ownsRow B1 48 3 x (n + j) xs ∧ (∀ m, m < n + j → xs[3 * m]? = some (.int .i64 (-9))) ∧ (∀ g, x.ownBlock = some g → vb.ownBlock ≠ some g) ∧ Below B1 w wr ∧ Toks wr B2 vb ts ∧ Sl 77 a' [(9, .int .i64 (j : Int)), (8, x), (1, vb), (2, vw)]) (fun a' _ => muTo 20 (slot a' 9))
    ⟨0, va, xs, Nat.zero_le _, q1, q2, hab, q3, q4, k6.to ⟨rfl, rfl, rfl, rfl, trivial⟩⟩ ?_
  clear q1 q2 q3 q4 k3 k4 k5 k6 hab
  rintro a7 w7 ⟨j, x, xs, hj, q1, q2, q5, q3, q4, k7⟩
  rw [k7.look 9 rfl, muTo_int]
  unfold owL3
  by_cases hlt : j < 20
  · refine wp_seq (wp_seq (ow_r7 k7 rfl (decide_eq_true (by omega)) fun a8 k8 => wpn (k8.look 27 rfl) ?_))
    refine wp_seq (wp_block ?_)
    have hsz := q3.size
    refine wpl (ow_r9 k8 rfl (fun ty => app_int (-9) q1 (by omega) (by omega) ty) fun a9 y w9 hy k9 => ?_)
    refine wpl (ow_r8 k9 rfl (by omega) fun a10 k10 => ?_)
    obtain ⟨y1, y2, y3⟩ := hy
    have hk : vb.ownBlock = none ∨ vb.ownBlock ≠ x.ownBlock := by
      cases hx : x.ownBlock with
      | none => cases hb' : vb.ownBlock with
        | none => exact .inl rfl
        | some g => exact .inr (by simp)
      | some g => exact .inr (q5 g hx)
    refine ⟨⟨j + 1, y, _, hlt, y1, snoc_kind q1.1 q2, fun g hg => ?_, q3.trans (own_grew q1 (by omega) y2), own_keep q4 y2 hk, k10.to ⟨rfl, rfl, rfl, rfl, trivial⟩⟩, ?_⟩
    · rcases y3 with y3 | ⟨g', y3, y4⟩
      · exact q5 g (by rw [← y3]; exact hg)
      · intro e
        have := (len_own q4 g e).2
        rw [y3] at hg
        injection hg with hg
        omega
    · rw [k10.look 9 rfl]
      show muTo 20 (.int .i64 ((j + 1 : Nat) : Int)) < _
      rw [muTo_int]
      omega
  have hj20 : j = 20 := by omega
  subst hj20
  refine wp_seq (wp_seq (ow_r7 k7 rfl (decide_eq_false (by omega)) fun a8 k8 => wpx (k8.look 27 rfl) ?_))
  refine then_exit (in_block' ?_)
  -- the second row is the wanted one
  have hw7 : Toks w7 B0 vw ts := own_under hw h1 q3
  obtain ⟨dw, cw, rfl, tw⟩ := hw7.form
  have hb7 := q4
  obtain ⟨db', cb', hvb', tb⟩ := q4.form
  have hsame := same_eq ts (by omega) db' dw cb' cw w7 tb tw
  rw [← hvb'] at hsame
  refine wp_seq (ow_r10 k8 rfl rfl hsame fun a9 w9 hb9 k9 => ?_)
  have r1 := own_below' q1 hb9
  have r4 : Toks w9 B2 vb ts := own_below' q4 hb9
  have hsz7 := q3.size
  have r3 := q3.trans (hb9.mono (by omega))
  clear q1 q4 k7 k8 hw7 hsame tb tw hb7
  refine wp_seq (wp_seq (ow_r11 k9 fun a10 k10 => ?_))
  refine wp_block ?_
  refine wp_loop (fun a' wr => ∃ (i : Nat) (ys : List Value), i ≤ n ∧ wr.ownsRow B2 48 3 vb n ys ∧ wr.ownsRow B1 48 3 x (n + 20) xs ∧ Below B1 w wr ∧ Sl 77 a' [(11, .int .i64 (i : Int)), (1, vb), (8, x), (10, .bool true)]) (fun a' _ => muTo n (slot a' 11))
    ⟨0, toksC ts, Nat.zero_le _, hn ▸ r4, r1, r3, k10.to ⟨rfl, rfl, rfl, rfl, trivial⟩⟩ ?_
  clear r1 r3 r4 k9 k10
  rintro a11 w11 ⟨i, ys, hi, r4, r1, r3, k11⟩
  rw [k11.look 11 rfl, muTo_int]
  unfold owL2
  by_cases hlt : i < n
  · obtain ⟨g, cap, cur, hv, hBg, _, _⟩ := own_some r4 (by omega)
    rw [hv] at k11
    refine wp_seq (wp_seq (ow_r12 k11 rfl rfl (decide_eq_true (by omega)) fun a12 k12 => wpn (k12.look 40 rfl) ?_))
    rw [hv] at r4
    obtain ⟨s1, zs, s2, s3, s4⟩ := own_set r4 i hlt (-8)
    refine wp_seq (wp_block ?_)
    refine wpl (ow_r14 k12 rfl rfl (ix_at (o := i * 3) i rfl Tryd.underlying23 tokInf hlt rfl) s1 fun a13 k13 => ?_)
    refine wpl (ow_r13 k13 rfl (by omega) fun a14 k14 => ?_)
    have hne : x.ownBlock ≠ some g := fun e => q5 g e (by rw [hv]; rfl)
    refine ⟨⟨i + 1, zs, hlt, by rw [hv]; exact s2, own_off r1 hne _ _, below_setCells _ _ _ r3 (by omega), k14.to ⟨rfl, by rw [hv]; rfl, rfl, rfl, trivial⟩⟩, ?_⟩
    rw [k14.look 11 rfl]
    show muTo n (.int .i64 ((i + 1 : Nat) : Int)) < _
    rw [muTo_int]
    omega
  rw [hvb] at k11
  refine wp_seq (wp_seq (ow_r12 k11 rfl rfl (decide_eq_false (by omega)) fun a12 k12 => wpx (k12.look 40 rfl) ?_))
  refine then_exit (in_block' ?_)
  rw [← hvb] at k12
  refine wp_seq (ow_r15 k12 rfl fun a13 k13 => ?_)
  refine wp_seq (wp_seq (ow_r16 k13 fun a14 k14 => ?_))
  refine wp_block ?_
  have hxb : ∀ g, vb.ownBlock = some g → x.ownBlock ≠ some g := fun g e e' => q5 g e' e
  refine wp_loop (fun a' wr => ∃ (j : Nat) (y : Value) (ys : List Value), j ≤ 20 ∧ wr.ownsRow B2 48 3 y (n + j) ys ∧ wr.ownsRow B1 48 3 x (n + 20) xs ∧ (∀ g, y.ownBlock = some g → x.ownBlock ≠ some g) ∧ Below B1 w wr ∧ Sl 77 a' [(13, .int .i64 (j : Int)), (12, y), (1, vb), (8, x), (10, .bool true)]) (fun a' _ => muTo 20 (slot a' 13))
    ⟨0, vb, ys, Nat.zero_le _, r4, r1, hxb, r3, k14.to ⟨rfl, rfl, rfl, rfl, rfl, trivial⟩⟩ ?_
  clear r1 r3 r4 k11 k12 k13 k14 hxb hi
  rintro a15 w15 ⟨j, y, zs, hj, r4, r1, r5, r3, k15⟩
  rw [k15.look 13 rfl, muTo_int]
  unfold owL1
  by_cases hlt : j < 20
  · refine wp_seq (wp_seq (ow_r17 k15 rfl (decide_eq_true (by omega)) fun a16 k16 => wpn (k16.look 49 rfl) ?_))
    refine wp_seq (wp_block ?_)
    have hsz := r3.size
    refine wpl (ow_r19 k16 rfl (fun ty => app_int (-8) r4 (by omega) (by omega) ty) fun a17 z w17 hy k17 => ?_)
    refine wpl (ow_r18 k17 rfl (by omega) fun a18 k18 => ?_)
    obtain ⟨y1, y2, y3⟩ := hy
    have hk : x.ownBlock = none ∨ x.ownBlock ≠ y.ownBlock := by
      cases hx : y.ownBlock with
      | none => cases hb' : x.ownBlock with
        | none => exact .inl rfl
        | some g => exact .inr (by simp)
      | some g => exact .inr (r5 g hx)
    refine ⟨⟨j + 1, z, _, hlt, y1, own_keep r1 y2 hk, fun g hg => ?_, r3.trans ((own_grew r4 (by omega) y2).mono h12), k18.to ⟨rfl, rfl, rfl, rfl, rfl, trivial⟩⟩, ?_⟩
    · rcases y3 with y3 | ⟨g', y3, y4⟩
      · exact r5 g (by rw [← y3]; exact hg)
      · intro e
        have := (len_own r1 g e).2
        rw [y3] at hg
        injection hg with hg
        omega
    · rw [k18.look 13 rfl]
      show muTo 20 (.int .i64 ((j + 1 : Nat) : Int)) < _
      rw [muTo_int]
      omega
  have hj20 : j = 20 := by omega
  subst hj20
  refine wp_seq (wp_seq (ow_r17 k15 rfl (decide_eq_false (by omega)) fun a16 k16 => wpx (k16.look 49 rfl) ?_))
  refine then_exit (in_block' ?_)
  obtain ⟨g, cap, cur, hx, _, hC, ht⟩ := own_some r1 (by omega)
  obtain ⟨dy, cy, hy⟩ := own_form r4
  rw [hx, hy, hvb] at k16
  refine wp_seq (wp_seq (ow_r20 k16 fun a17 k17 => ?_))
  refine wp_block ?_
  refine wp_loop (fun a' wr => ∃ (i : Nat), i ≤ n + 20 ∧ Sl 77 a' [(14, .int .i64 (i : Int)), (8, .slice (some ⟨g, 0, none⟩) (n + 20) cap), (12, .slice dy (n + 20) cy), (1, .slice db n cb), (10, .bool true)] ∧ w15 = wr) (fun a' _ => muTo (n + 20) (slot a' 14))
    ⟨0, Nat.zero_le _, k17.to ⟨rfl, rfl, rfl, rfl, rfl, trivial⟩, rfl⟩ ?_
  rintro a18 _ ⟨i, hi, k18, rfl⟩
  rw [k18.look 14 rfl, muTo_int]
  unfold owL0
  by_cases hlt : i < n + 20
  · refine wp_seq (wp_seq (ow_r21 k18 rfl rfl (decide_eq_true (by omega)) fun a19 k19 => wpn (k19.look 59 rfl) ?_))
    refine wp_seq (wp_block ?_)
    have hcell : w15.cell? ⟨g, i * 3 + 0, none⟩ = some (.int .i64 (-9)) := by
      have := q2 i hlt
      rw [← ht, List.getElem?_take_of_lt (by omega), Array.getElem?_toList] at this
      rw [hC.cell, ← this]
      congr 1
      omega
    refine wp_seq (ow_r23 k19 rfl rfl (ix_at (o := i * 3) i rfl Tryd.underlying23 tokInf hlt rfl) (lds1 Tryd.underlying3 rfl hcell) (decide_eq_false (by simp)) fun a20 k20 => wpc_off (k20.look 67 rfl) ?_)
    refine wpl (ow_r22 k20 rfl (by omega) fun a21 k21 => ?_)
    refine ⟨⟨i + 1, hlt, k21.to ⟨rfl, rfl, rfl, rfl, rfl, trivial⟩, rfl⟩, ?_⟩
    rw [k21.look 14 rfl]
    show muTo (n + 20) (.int .i64 ((i + 1 : Nat) : Int)) < _
    rw [muTo_int]
    omega
  refine wp_seq (wp_seq (ow_r21 k18 rfl rfl (decide_eq_false (by omega)) fun a19 k19 => wpx (k19.look 59 rfl) ?_))
  refine then_exit (in_block' ?_)
  refine wp_seq (ow_r25_t k19 rfl rfl rfl (by omega) (decide_eq_true (by omega)) fun a20 k20 => wp_ret ?_)
  exact ret1 rfl k20 rfl ⟨rfl, r3⟩
end Go.Proofs.YtpggcmlddmckcaaDoor
