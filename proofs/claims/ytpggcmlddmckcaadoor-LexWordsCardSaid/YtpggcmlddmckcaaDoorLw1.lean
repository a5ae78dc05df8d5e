/-
  The regions of LexWords. Written by an AI agent.
-/
import Derived.Test.YtpggcmlddmckcaaDoorGv
namespace Go.Proofs.YtpggcmlddmckcaaDoor
open Go.RowKit Go.Sort
set_option maxRecDepth 100000
variable {a : Act} {w : World} {N : Act → World → Prop} {Q : Exit → Act → World → Prop} {l : List (Nat × Value)}
noncomputable def r_lw (n : Nat) : Code := ((Tryd.f5.body.bind (findR n)).getD .skip)
noncomputable def lwL0 : Code := (.seq (.seq (r_lw 18) (.cond (.tmp 56) .skip (.exit 4))) (.seq (.block 5 (.seq (r_lw 20) (.cond (.tmp 67) (.seq (r_lw 21) .ret) .skip))) (r_lw 19)))
noncomputable def lwL1 : Code := (.seq (.seq (r_lw 11) (.cond (.tmp 35) .skip (.exit 2))) (.seq (.block 3 (.seq (.seq (r_lw 13) (.cond (.tmp 46) (.seq (r_lw 14) .ret) .skip)) (r_lw 15))) (r_lw 12)))
noncomputable def lwL2 : Code := (.seq (.seq (r_lw 4) (.cond (.tmp 15) .skip (.exit 0))) (.seq (.block 1 (.seq (r_lw 6) (.seq (r_lw 7) (.seq (.seq (r_lw 8) (.cond (.tmp 31) (.seq (r_lw 9) .ret) .skip)) (.seq (.seq (r_lw 10) (.block 2 (.loop lwL1))) (.seq (r_lw 16) (.seq (r_lw 17) (.block 4 (.loop lwL0))))))))) (r_lw 5)))
noncomputable def lwBody : Code := (.seq (r_lw 0) (.seq (r_lw 1) (.seq (r_lw 2) (.seq (.seq (r_lw 3) (.block 0 (.loop lwL2))) (.seq (r_lw 22) (.seq (r_lw 23) (.seq (r_lw 24) .ret)))))))
theorem lw_body : Tryd.f5.body = some lwBody := by kernel_rfl
theorem lw_r0 (hs : Sl 85 a l)
    (hN : ∀ a', Sl 85 a' ((2, .bool false) :: dropL [2] l) → N a' w) : (r_lw 0).wp Tryd.prog (Exit.then N Q) a w :=
  reg (l0 := []) [2] [2] [] hs trivial (fun a' => hN a') (by kernel_rfl)
theorem lw_r1 {b12 : Bool} {C0 : World → Prop} (hs : Sl 85 a l) (k0 : Calls Tryd.prog 10 #[] w fun e w' => e = .returned (.bool b12) ∧ C0 w')
    (hN : ∀ a' (w1 : World), C0 w1 → Sl 85 a' ((3, .bool b12) :: dropL [3, 12] l) → N a' w1) : (r_lw 1).wp Tryd.prog (Exit.then N Q) a w :=
  reg (l0 := []) [3] [3, 12] [.ret (.bool b12) C0] hs trivial (And.intro k0 (fun (w1 : World) (hc0 : C0 w1) => (fun a' => hN a' w1 hc0))) (by kernel_rfl)
theorem lw_r2 {C0 : Value → World → Prop} (hs : Sl 85 a l) (k0 : Calls Tryd.prog 21 #[] w fun e w' => ∃ x13, e = .returned x13 ∧ C0 x13 w')
    (hN : ∀ a' (x13 : Value) (w1 : World), C0 x13 w1 → Sl 85 a' ((4, x13) :: dropL [4, 13] l) → N a' w1) : (r_lw 2).wp Tryd.prog (Exit.then N Q) a w :=
  reg (l0 := []) [4] [4, 13] [.con C0] hs trivial (And.intro k0 (fun (x13 : Value) (w1 : World) (hc0 : C0 x13 w1) => (fun a' => hN a' x13 w1 hc0))) (by kernel_rfl)
theorem lw_r3 (hs : Sl 85 a l)
    (hN : ∀ a', Sl 85 a' ((5, .int .i64 0) :: dropL [5] l) → N a' w) : (r_lw 3).wp Tryd.prog (Exit.then N Q) a w :=
  reg (l0 := []) [5] [5] [] hs trivial (fun a' => hN a') (by kernel_rfl)
theorem lw_r4 {t : Int} {b15 : Bool} (hs : Sl 85 a l) (e5 : l.lookup 5 = some (.int .i64 t)) (h0 : decide (t < 2) = b15)
    (hN : ∀ a', Sl 85 a' ((15, .bool b15) :: dropL [14, 15] l) → N a' w) : (r_lw 4).wp Tryd.prog (Exit.then N Q) a w :=
  reg (l0 := [(5, .int .i64 t)]) [15] [14, 15] [.bit b15] hs ⟨e5, trivial⟩ (And.intro h0 (fun a' => hN a')) (by kernel_rfl)
theorem lw_r5 {t : Int} (hs : Sl 85 a l) (e5 : l.lookup 5 = some (.int .i64 t)) (h0 : -9223372036854775808 ≤ t + 1 ∧ t + 1 ≤ 9223372036854775807)
    (hN : ∀ a', Sl 85 a' ((5, .int .i64 (t + 1)) :: dropL [5, 16, 17] l) → N a' w) : (r_lw 5).wp Tryd.prog (Exit.then N Q) a w :=
  reg (l0 := [(5, .int .i64 t)]) [5] [5, 16, 17] [.ari] hs ⟨e5, trivial⟩ (And.intro h0 (fun a' => hN a')) (by kernel_rfl)
theorem lw_r6 {C0 : Value → World → Prop} (hs : Sl 85 a l) (k0 : Calls Tryd.prog 22 #[] w fun e w' => ∃ x18, e = .returned x18 ∧ C0 x18 w')
    (hN : ∀ a' (x18 : Value) (w1 : World), C0 x18 w1 → Sl 85 a' ((6, x18) :: dropL [6, 18] l) → N a' w1) : (r_lw 6).wp Tryd.prog (Exit.then N Q) a w :=
  reg (l0 := []) [6] [6, 18] [.con C0] hs trivial (And.intro k0 (fun (x18 : Value) (w1 : World) (hc0 : C0 x18 w1) => (fun a' => hN a' x18 w1 hc0))) (by kernel_rfl)
theorem lw_r7 {C0 : Value → World → Prop} (hs : Sl 85 a l) (k0 : Calls Tryd.prog 22 #[] w fun e w' => ∃ x19, e = .returned x19 ∧ C0 x19 w')
    (hN : ∀ a' (x19 : Value) (w1 : World), C0 x19 w1 → Sl 85 a' ((7, x19) :: dropL [7, 19] l) → N a' w1) : (r_lw 7).wp Tryd.prog (Exit.then N Q) a w :=
  reg (l0 := []) [7] [7, 19] [.con C0] hs trivial (And.intro k0 (fun (x19 : Value) (w1 : World) (hc0 : C0 x19 w1) => (fun a' => hN a' x19 w1 hc0))) (by kernel_rfl)
theorem lw_r8_f {d6 : Option Addr} {n6 : Nat} {q6 : Nat} {d4 : Option Addr} {n4 : Nat} {q4 : Nat} {d7 : Option Addr} {n7 : Nat} {q7 : Nat} {b30 : Bool} (hs : Sl 85 a l) (e6 : l.lookup 6 = some (.slice d6 n6 q6)) (e4 : l.lookup 4 = some (.slice d4 n4 q4)) (e7 : l.lookup 7 = some (.slice d7 n7 q7)) (h0 : decide ((n6 : Int) ≠ (n4 : Int)) = false) (h1 : decide ((n7 : Int) ≠ (n4 : Int)) = b30)
    (hN : ∀ a', Sl 85 a' ((31, .bool b30) :: dropL (List.range' 20 12) l) → N a' w) : (r_lw 8).wp Tryd.prog (Exit.then N Q) a w :=
  reg (l0 := [(6, .slice d6 n6 q6), (4, .slice d4 n4 q4), (7, .slice d7 n7 q7)]) [31] (List.range' 20 12) [.bit false, .bit b30] hs ⟨e6, e4, e7, trivial⟩ (And.intro h0 (And.intro h1 (fun a' => hN a'))) (by kernel_rfl)
theorem lw_r9 (hs : Sl 85 a l)
    (hN : ∀ a', Sl 85 a' ((2, .bool false) :: dropL [2] l) → N a' w) : (r_lw 9).wp Tryd.prog (Exit.then N Q) a w :=
  reg (l0 := []) [2] [2] [] hs trivial (fun a' => hN a') (by kernel_rfl)
theorem lw_r10 (hs : Sl 85 a l)
    (hN : ∀ a', Sl 85 a' ((8, .int .i64 0) :: dropL [8] l) → N a' w) : (r_lw 10).wp Tryd.prog (Exit.then N Q) a w :=
  reg (l0 := []) [8] [8] [] hs trivial (fun a' => hN a') (by kernel_rfl)
theorem lw_r11 {i : Nat} {d6 : Option Addr} {n6 : Nat} {q6 : Nat} {b35 : Bool} (hs : Sl 85 a l) (e8 : l.lookup 8 = some (.int .i64 (i : Int))) (e6 : l.lookup 6 = some (.slice d6 n6 q6)) (h0 : decide ((i : Int) < (n6 : Int)) = b35)
    (hN : ∀ a', Sl 85 a' ((35, .bool b35) :: dropL [32, 33, 34, 35] l) → N a' w) : (r_lw 11).wp Tryd.prog (Exit.then N Q) a w :=
  reg (l0 := [(8, .int .i64 (i : Int)), (6, .slice d6 n6 q6)]) [35] [32, 33, 34, 35] [.bit b35] hs ⟨e8, e6, trivial⟩ (And.intro h0 (fun a' => hN a')) (by kernel_rfl)
theorem lw_r12 {i : Nat} (hs : Sl 85 a l) (e8 : l.lookup 8 = some (.int .i64 (i : Int))) (h0 : -9223372036854775808 ≤ (i : Int) + 1 ∧ (i : Int) + 1 ≤ 9223372036854775807)
    (hN : ∀ a', Sl 85 a' ((8, .int .i64 ((i : Int) + 1)) :: dropL [8, 36, 37] l) → N a' w) : (r_lw 12).wp Tryd.prog (Exit.then N Q) a w :=
  reg (l0 := [(8, .int .i64 (i : Int))]) [8] [8, 36, 37] [.ari] hs ⟨e8, trivial⟩ (And.intro h0 (fun a' => hN a')) (by kernel_rfl)
theorem lw_r13 {d6 : Option Addr} {n6 : Nat} {q6 : Nat} {i : Nat} {g40 : Nat} {o40 : Nat} {s41 : ByteArray} {d4 : Option Addr} {n4 : Nat} {q4 : Nat} {g44 : Nat} {o44 : Nat} {s45 : ByteArray} {b46 : Bool} (hs : Sl 85 a l) (e6 : l.lookup 6 = some (.slice d6 n6 q6)) (e8 : l.lookup 8 = some (.int .i64 (i : Int))) (e4 : l.lookup 4 = some (.slice d4 n4 q4)) (i0 : ∀ w, (Instr.indexAt 43 (.slice d6 n6 q6) (.int .i64 (i : Int))).run Tryd.prog w = .ok (.pointer (some (⟨g40, o40, none⟩))) w) (l1 : Lds Tryd.prog 9 (.pointer (some (⟨g40, o40, none⟩))) (.string s41) w) (i2 : ∀ w, (Instr.indexAt 43 (.slice d4 n4 q4) (.int .i64 (i : Int))).run Tryd.prog w = .ok (.pointer (some (⟨g44, o44, none⟩))) w) (l3 : Lds Tryd.prog 9 (.pointer (some (⟨g44, o44, none⟩))) (.string s45) w) (h4 : decide (s41 ≠ s45) = b46)
    (hN : ∀ a' m, Sl 85 a' ((46, .bool b46) :: dropL (List.range' 38 9) l) → N a' (w.drewN m)) : (r_lw 13).wp Tryd.prog (Exit.then N Q) a w :=
  regQ (l0 := [(6, .slice d6 n6 q6), (8, .int .i64 (i : Int)), (4, .slice d4 n4 q4)]) [46] (List.range' 38 9) [.val (.pointer (some (⟨g40, o40, none⟩))), .val (.string s41), .val (.pointer (some (⟨g44, o44, none⟩))), .val (.string s45), .bit b46] hs ⟨e6, e8, e4, trivial⟩ (And.intro i0 (And.intro l1 (And.intro i2 (And.intro l3 (And.intro h4 (fun a' => hN a')))))) (by kernel_rfl)
theorem lw_r14 (hs : Sl 85 a l)
    (hN : ∀ a', Sl 85 a' ((2, .bool false) :: dropL [2] l) → N a' w) : (r_lw 14).wp Tryd.prog (Exit.then N Q) a w :=
  reg (l0 := []) [2] [2] [] hs trivial (fun a' => hN a') (by kernel_rfl)
theorem lw_r15 {d6 : Option Addr} {n6 : Nat} {q6 : Nat} {i : Nat} {g49 : Nat} {o49 : Nat} (hs : Sl 85 a l) (e6 : l.lookup 6 = some (.slice d6 n6 q6)) (e8 : l.lookup 8 = some (.int .i64 (i : Int))) (i0 : ∀ w, (Instr.indexAt 43 (.slice d6 n6 q6) (.int .i64 (i : Int))).run Tryd.prog w = .ok (.pointer (some (⟨g49, o49, none⟩))) w) (s1 : (Instr.storeAt 9 (.pointer (some (⟨g49, o49, none⟩))) (.string (⟨#[109, 105, 110, 101]⟩))).run Tryd.prog w = .ok () (w.setCells g49 o49 [.string (⟨#[109, 105, 110, 101]⟩)]))
    (hN : ∀ a', Sl 85 a' (dropL [47, 48, 49] l) → N a' (w.setCells g49 o49 [.string (⟨#[109, 105, 110, 101]⟩)])) : (r_lw 15).wp Tryd.prog (Exit.then N Q) a w :=
  reg (l0 := [(6, .slice d6 n6 q6), (8, .int .i64 (i : Int))]) [] [47, 48, 49] [.val (.pointer (some (⟨g49, o49, none⟩))), .sto] hs ⟨e6, e8, trivial⟩ (And.intro (i0 w) (And.intro s1 (fun a' => hN a'))) (by kernel_rfl)
theorem lw_r16 {d6 : Option Addr} {n6 : Nat} {q6 : Nat} {C0 : Value → World → Prop} (hs : Sl 85 a l) (e6 : l.lookup 6 = some (.slice d6 n6 q6)) (k0 : ∀ ty, ∃ v w', (Builtin.append_ #[43, 43] ty #[.slice d6 n6 q6, .slice (some ⟨w.heap.size, 0, none⟩) 2 2]).run Tryd.prog (w.alloc (.cells #[.string (⟨#[109, 105, 110, 101]⟩), .string (⟨#[109, 105, 110, 101]⟩)] 9)) = .ok v w' ∧ C0 v w')
    (hN : ∀ a' (x52 : Value) (w1 : World), C0 x52 w1 → Sl 85 a' ((6, x52) :: dropL [6, 50, 51, 52] l) → N a' w1) : (r_lw 16).wp Tryd.prog (Exit.then N Q) a w :=
  reg (l0 := [(6, .slice d6 n6 q6)]) [6] [6, 50, 51, 52] [.raw, .app C0] hs ⟨e6, trivial⟩ (And.intro k0 (fun (x52 : Value) (w1 : World) (hc0 : C0 x52 w1) => (fun a' => hN a' x52 w1 hc0))) (by kernel_rfl)
theorem lw_r17 (hs : Sl 85 a l)
    (hN : ∀ a', Sl 85 a' ((9, .int .i64 0) :: dropL [9] l) → N a' w) : (r_lw 17).wp Tryd.prog (Exit.then N Q) a w :=
  reg (l0 := []) [9] [9] [] hs trivial (fun a' => hN a') (by kernel_rfl)
theorem lw_r18 {j : Nat} {d7 : Option Addr} {n7 : Nat} {q7 : Nat} {b56 : Bool} (hs : Sl 85 a l) (e9 : l.lookup 9 = some (.int .i64 (j : Int))) (e7 : l.lookup 7 = some (.slice d7 n7 q7)) (h0 : decide ((j : Int) < (n7 : Int)) = b56)
    (hN : ∀ a', Sl 85 a' ((56, .bool b56) :: dropL [53, 54, 55, 56] l) → N a' w) : (r_lw 18).wp Tryd.prog (Exit.then N Q) a w :=
  reg (l0 := [(9, .int .i64 (j : Int)), (7, .slice d7 n7 q7)]) [56] [53, 54, 55, 56] [.bit b56] hs ⟨e9, e7, trivial⟩ (And.intro h0 (fun a' => hN a')) (by kernel_rfl)
theorem lw_r19 {j : Nat} (hs : Sl 85 a l) (e9 : l.lookup 9 = some (.int .i64 (j : Int))) (h0 : -9223372036854775808 ≤ (j : Int) + 1 ∧ (j : Int) + 1 ≤ 9223372036854775807)
    (hN : ∀ a', Sl 85 a' ((9, .int .i64 ((j : Int) + 1)) :: dropL [9, 57, 58] l) → N a' w) : (r_lw 19).wp Tryd.prog (Exit.then N Q) a w :=
  reg (l0 := [(9, .int .i64 (j : Int))]) [9] [9, 57, 58] [.ari] hs ⟨e9, trivial⟩ (And.intro h0 (fun a' => hN a')) (by kernel_rfl)
theorem lw_r20 {d7 : Option Addr} {n7 : Nat} {q7 : Nat} {j : Nat} {g61 : Nat} {o61 : Nat} {s62 : ByteArray} {d4 : Option Addr} {n4 : Nat} {q4 : Nat} {g65 : Nat} {o65 : Nat} {s66 : ByteArray} {b67 : Bool} (hs : Sl 85 a l) (e7 : l.lookup 7 = some (.slice d7 n7 q7)) (e9 : l.lookup 9 = some (.int .i64 (j : Int))) (e4 : l.lookup 4 = some (.slice d4 n4 q4)) (i0 : ∀ w, (Instr.indexAt 43 (.slice d7 n7 q7) (.int .i64 (j : Int))).run Tryd.prog w = .ok (.pointer (some (⟨g61, o61, none⟩))) w) (l1 : Lds Tryd.prog 9 (.pointer (some (⟨g61, o61, none⟩))) (.string s62) w) (i2 : ∀ w, (Instr.indexAt 43 (.slice d4 n4 q4) (.int .i64 (j : Int))).run Tryd.prog w = .ok (.pointer (some (⟨g65, o65, none⟩))) w) (l3 : Lds Tryd.prog 9 (.pointer (some (⟨g65, o65, none⟩))) (.string s66) w) (h4 : decide (s62 ≠ s66) = b67)
    (hN : ∀ a' m, Sl 85 a' ((67, .bool b67) :: dropL (List.range' 59 9) l) → N a' (w.drewN m)) : (r_lw 20).wp Tryd.prog (Exit.then N Q) a w :=
  regQ (l0 := [(7, .slice d7 n7 q7), (9, .int .i64 (j : Int)), (4, .slice d4 n4 q4)]) [67] (List.range' 59 9) [.val (.pointer (some (⟨g61, o61, none⟩))), .val (.string s62), .val (.pointer (some (⟨g65, o65, none⟩))), .val (.string s66), .bit b67] hs ⟨e7, e9, e4, trivial⟩ (And.intro i0 (And.intro l1 (And.intro i2 (And.intro l3 (And.intro h4 (fun a' => hN a')))))) (by kernel_rfl)
theorem lw_r21 (hs : Sl 85 a l)
    (hN : ∀ a', Sl 85 a' ((2, .bool false) :: dropL [2] l) → N a' w) : (r_lw 21).wp Tryd.prog (Exit.then N Q) a w :=
  reg (l0 := []) [2] [2] [] hs trivial (fun a' => hN a') (by kernel_rfl)
theorem lw_r22 {s : ByteArray} {b69 : Bool} {C0 : World → Prop} (hs : Sl 85 a l) (e0 : l.lookup 0 = some (.string s)) (k0 : Calls Tryd.prog 23 #[.string s] w fun e w' => e = .returned (.bool b69) ∧ C0 w')
    (hN : ∀ a' (w1 : World), C0 w1 → Sl 85 a' ((10, .bool b69) :: dropL [10, 68, 69] l) → N a' w1) : (r_lw 22).wp Tryd.prog (Exit.then N Q) a w :=
  reg (l0 := [(0, .string s)]) [10] [10, 68, 69] [.ret (.bool b69) C0] hs ⟨e0, trivial⟩ (And.intro k0 (fun (w1 : World) (hc0 : C0 w1) => (fun a' => hN a' w1 hc0))) (by kernel_rfl)
theorem lw_r23 {s : ByteArray} {b71 : Bool} {C0 : World → Prop} (hs : Sl 85 a l) (e0 : l.lookup 0 = some (.string s)) (k0 : Calls Tryd.prog 24 #[.string s] w fun e w' => e = .returned (.bool b71) ∧ C0 w')
    (hN : ∀ a' (w1 : World), C0 w1 → Sl 85 a' ((11, .bool b71) :: dropL [11, 70, 71] l) → N a' w1) : (r_lw 23).wp Tryd.prog (Exit.then N Q) a w :=
  reg (l0 := [(0, .string s)]) [11] [11, 70, 71] [.ret (.bool b71) C0] hs ⟨e0, trivial⟩ (And.intro k0 (fun (w1 : World) (hc0 : C0 w1) => (fun a' => hN a' w1 hc0))) (by kernel_rfl)
theorem lw_r24_t {wd : Bool} {s : ByteArray} {b76 : Bool} {C0 : World → Prop} {nm : Bool} {b82 : Bool} {C1 : World → Prop} {b83 : Bool} (hs : Sl 85 a l) (e3 : l.lookup 3 = some (.bool true)) (e10 : l.lookup 10 = some (.bool wd)) (e0 : l.lookup 0 = some (.string s)) (e11 : l.lookup 11 = some (.bool nm)) (k0 : Calls Tryd.prog 25 #[.string s] w fun e w' => e = .returned (.bool b76) ∧ C0 w') (h1 : ∀ w, (binOp .eql 4 (.bool wd) (.bool b76)).run Tryd.prog w = .ok (.bool true) w) (k2 : ∀ (w1 : World), C0 w1 → Calls Tryd.prog 26 #[.string s] w1 fun e w' => e = .returned (.bool b82) ∧ C1 w') (h3 : ∀ w, (binOp .eql 4 (.bool nm) (.bool b82)).run Tryd.prog w = .ok (.bool b83) w)
    (hN : ∀ a' (w1 : World) (w2 : World), C0 w1 → C1 w2 → Sl 85 a' ((2, .bool b83) :: dropL (2 :: List.range' 72 13) l) → N a' w2) : (r_lw 24).wp Tryd.prog (Exit.then N Q) a w :=
  reg (l0 := [(3, .bool true), (10, .bool wd), (0, .string s), (11, .bool nm)]) [2] (2 :: List.range' 72 13) [.ret (.bool b76) C0, .bin (.bool true), .ret (.bool b82) C1, .bin (.bool b83)] hs ⟨e3, e10, e0, e11, trivial⟩ (And.intro k0 (fun (w1 : World) (hc0 : C0 w1) => (And.intro (bin_run (x := .tmp 74) (y := .tmp 76) (by kernel_rfl) (h1 w1)) (And.intro (k2 w1 hc0) (fun (w2 : World) (hc1 : C1 w2) => (And.intro (bin_run (x := .tmp 80) (y := .tmp 82) (by kernel_rfl) (h3 w2)) (fun a' => hN a' w1 w2 hc0 hc1))))))) (by kernel_rfl)
end Go.Proofs.YtpggcmlddmckcaaDoor
