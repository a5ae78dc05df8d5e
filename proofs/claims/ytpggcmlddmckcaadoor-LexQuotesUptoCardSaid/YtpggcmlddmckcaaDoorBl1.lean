/-
  The regions of pick, same, LexBlanks. Written by an AI agent.
-/
import Derived.Test.YtpggcmlddmckcaaDoorGv
namespace Go.Proofs.YtpggcmlddmckcaaDoor
open Go.RowKit Go.Sort
set_option maxRecDepth 100000
variable {a : Act} {w : World} {N : Act → World → Prop} {Q : Exit → Act → World → Prop} {l : List (Nat × Value)}
noncomputable def r_pk (n : Nat) : Code := ((Tryd.f30.body.bind (findR n)).getD .skip)
noncomputable def pkBody : Code := (.seq (r_pk 0) (.seq (.seq (r_pk 1) (.cond (.tmp 6) (r_pk 2) .skip)) (.seq (r_pk 3) .ret)))
theorem pk_body : Tryd.f30.body = some pkBody := by kernel_rfl
theorem pk_r0 (hs : Sl 13 a l)
    (hN : ∀ a', Sl 13 a' ((4, .int .i64 0) :: dropL [4] l) → N a' w) : (r_pk 0).wp Tryd.prog (Exit.then N Q) a w :=
  reg (l0 := []) [4] [4] [] hs trivial (fun a' => hN a') (by kernel_rfl)
theorem pk_r1 {c : Int} {b6 : Bool} (hs : Sl 13 a l) (e0 : l.lookup 0 = some (.int .i64 c)) (h0 : decide (c < 0) = b6)
    (hN : ∀ a', Sl 13 a' ((6, .bool b6) :: dropL [5, 6] l) → N a' w) : (r_pk 1).wp Tryd.prog (Exit.then N Q) a w :=
  reg (l0 := [(0, .int .i64 c)]) [6] [5, 6] [.bit b6] hs ⟨e0, trivial⟩ (And.intro h0 (fun a' => hN a')) (by kernel_rfl)
theorem pk_r2 {c : Int} {v9 : Int} (hs : Sl 13 a l) (e0 : l.lookup 0 = some (.int .i64 c)) (h0 : -9223372036854775808 ≤ c + 1 ∧ c + 1 ≤ 9223372036854775807) (h1 : ∀ w, (Op.unary .neg (.int .i64 (c + 1))).run Tryd.prog w = .ok (.int .i64 v9) w)
    (hN : ∀ a', Sl 13 a' ((0, .int .i64 v9) :: dropL [0, 7, 8, 9] l) → N a' w) : (r_pk 2).wp Tryd.prog (Exit.then N Q) a w :=
  reg (l0 := [(0, .int .i64 c)]) [0] [0, 7, 8, 9] [.ari, .val (.int .i64 v9)] hs ⟨e0, trivial⟩ (And.intro h0 (And.intro (h1 w) (fun a' => hN a'))) (by kernel_rfl)
theorem pk_r3 {c : Int} {m : Int} {v12 : Int} (hs : Sl 13 a l) (e0 : l.lookup 0 = some (.int .i64 c)) (e1 : l.lookup 1 = some (.int .i64 m)) (h0 : ∀ w, (binOp .rem 3 (.int .i64 c) (.int .i64 m)).run Tryd.prog w = .ok (.int .i64 v12) w)
    (hN : ∀ a', Sl 13 a' ((4, .int .i64 v12) :: dropL [4, 10, 11, 12] l) → N a' w) : (r_pk 3).wp Tryd.prog (Exit.then N Q) a w :=
  reg (l0 := [(0, .int .i64 c), (1, .int .i64 m)]) [4] [4, 10, 11, 12] [.bin (.int .i64 v12)] hs ⟨e0, e1, trivial⟩ (And.intro (bin_run (x := .tmp 10) (y := .tmp 11) (by kernel_rfl) (h0 w)) (fun a' => hN a')) (by kernel_rfl)
noncomputable def r_sm (n : Nat) : Code := ((Tryd.f13.body.bind (findR n)).getD .skip)
noncomputable def smL0 : Code := (.seq (.seq (r_sm 4) (.cond (.tmp 14) .skip (.exit 0))) (.seq (.block 1 (.seq (r_sm 6) (.cond (.tmp 25) (.seq (r_sm 7) .ret) .skip))) (r_sm 5)))
noncomputable def smBody : Code := (.seq (r_sm 0) (.seq (.seq (r_sm 1) (.cond (.tmp 10) (.seq (r_sm 2) .ret) .skip)) (.seq (.seq (r_sm 3) (.block 0 (.loop smL0))) (.seq (r_sm 8) .ret))))
theorem sm_body : Tryd.f13.body = some smBody := by kernel_rfl
theorem sm_r0 (hs : Sl 26 a l)
    (hN : ∀ a', Sl 26 a' ((4, .bool false) :: dropL [4] l) → N a' w) : (r_sm 0).wp Tryd.prog (Exit.then N Q) a w :=
  reg (l0 := []) [4] [4] [] hs trivial (fun a' => hN a') (by kernel_rfl)
theorem sm_r1 {d0 : Option Addr} {n0 : Nat} {q0 : Nat} {d1 : Option Addr} {n1 : Nat} {q1 : Nat} {b10 : Bool} (hs : Sl 26 a l) (e0 : l.lookup 0 = some (.slice d0 n0 q0)) (e1 : l.lookup 1 = some (.slice d1 n1 q1)) (h0 : decide ((n0 : Int) ≠ (n1 : Int)) = b10)
    (hN : ∀ a', Sl 26 a' ((10, .bool b10) :: dropL [6, 7, 8, 9, 10] l) → N a' w) : (r_sm 1).wp Tryd.prog (Exit.then N Q) a w :=
  reg (l0 := [(0, .slice d0 n0 q0), (1, .slice d1 n1 q1)]) [10] [6, 7, 8, 9, 10] [.bit b10] hs ⟨e0, e1, trivial⟩ (And.intro h0 (fun a' => hN a')) (by kernel_rfl)
theorem sm_r2 (hs : Sl 26 a l)
    (hN : ∀ a', Sl 26 a' ((4, .bool false) :: dropL [4] l) → N a' w) : (r_sm 2).wp Tryd.prog (Exit.then N Q) a w :=
  reg (l0 := []) [4] [4] [] hs trivial (fun a' => hN a') (by kernel_rfl)
theorem sm_r3 (hs : Sl 26 a l)
    (hN : ∀ a', Sl 26 a' ((5, .int .i64 0) :: dropL [5] l) → N a' w) : (r_sm 3).wp Tryd.prog (Exit.then N Q) a w :=
  reg (l0 := []) [5] [5] [] hs trivial (fun a' => hN a') (by kernel_rfl)
theorem sm_r4 {i : Nat} {d0 : Option Addr} {n0 : Nat} {q0 : Nat} {b14 : Bool} (hs : Sl 26 a l) (e5 : l.lookup 5 = some (.int .i64 (i : Int))) (e0 : l.lookup 0 = some (.slice d0 n0 q0)) (h0 : decide ((i : Int) < (n0 : Int)) = b14)
    (hN : ∀ a', Sl 26 a' ((14, .bool b14) :: dropL [11, 12, 13, 14] l) → N a' w) : (r_sm 4).wp Tryd.prog (Exit.then N Q) a w :=
  reg (l0 := [(5, .int .i64 (i : Int)), (0, .slice d0 n0 q0)]) [14] [11, 12, 13, 14] [.bit b14] hs ⟨e5, e0, trivial⟩ (And.intro h0 (fun a' => hN a')) (by kernel_rfl)
theorem sm_r5 {i : Nat} (hs : Sl 26 a l) (e5 : l.lookup 5 = some (.int .i64 (i : Int))) (h0 : -9223372036854775808 ≤ (i : Int) + 1 ∧ (i : Int) + 1 ≤ 9223372036854775807)
    (hN : ∀ a', Sl 26 a' ((5, .int .i64 ((i : Int) + 1)) :: dropL [5, 15, 16] l) → N a' w) : (r_sm 5).wp Tryd.prog (Exit.then N Q) a w :=
  reg (l0 := [(5, .int .i64 (i : Int))]) [5] [5, 15, 16] [.ari] hs ⟨e5, trivial⟩ (And.intro h0 (fun a' => hN a')) (by kernel_rfl)
theorem sm_r6 {d0 : Option Addr} {n0 : Nat} {q0 : Nat} {i : Nat} {g19 : Nat} {o19 : Nat} {k20 : Int} {x20 : ByteArray} {p20 : Int} {d1 : Option Addr} {n1 : Nat} {q1 : Nat} {g23 : Nat} {o23 : Nat} {k24 : Int} {x24 : ByteArray} {p24 : Int} {b25 : Bool} (hs : Sl 26 a l) (e0 : l.lookup 0 = some (.slice d0 n0 q0)) (e5 : l.lookup 5 = some (.int .i64 (i : Int))) (e1 : l.lookup 1 = some (.slice d1 n1 q1)) (i0 : ∀ w, (Instr.indexAt 23 (.slice d0 n0 q0) (.int .i64 (i : Int))).run Tryd.prog w = .ok (.pointer (some (⟨g19, o19, none⟩))) w) (l1 : Lds Tryd.prog 48 (.pointer (some (⟨g19, o19, none⟩))) (.agg #[.int .i64 k20, .string x20, .int .i64 p20]) w) (i2 : ∀ w, (Instr.indexAt 23 (.slice d1 n1 q1) (.int .i64 (i : Int))).run Tryd.prog w = .ok (.pointer (some (⟨g23, o23, none⟩))) w) (l3 : Lds Tryd.prog 48 (.pointer (some (⟨g23, o23, none⟩))) (.agg #[.int .i64 k24, .string x24, .int .i64 p24]) w) (h4 : ∀ w, (binOp .neq 48 (.agg #[.int .i64 k20, .string x20, .int .i64 p20]) (.agg #[.int .i64 k24, .string x24, .int .i64 p24])).run Tryd.prog w = .ok (.bool b25) w)
    (hN : ∀ a' m, Sl 26 a' ((25, .bool b25) :: dropL (List.range' 17 9) l) → N a' (w.drewN m)) : (r_sm 6).wp Tryd.prog (Exit.then N Q) a w :=
  regQ (l0 := [(0, .slice d0 n0 q0), (5, .int .i64 (i : Int)), (1, .slice d1 n1 q1)]) [25] (List.range' 17 9) [.val (.pointer (some (⟨g19, o19, none⟩))), .val (.agg #[.int .i64 k20, .string x20, .int .i64 p20]), .val (.pointer (some (⟨g23, o23, none⟩))), .val (.agg #[.int .i64 k24, .string x24, .int .i64 p24]), .bin (.bool b25)] hs ⟨e0, e5, e1, trivial⟩ (And.intro i0 (And.intro l1 (And.intro i2 (And.intro l3 (And.intro (fun w' => bin_run (x := .tmp 20) (y := .tmp 24) (by kernel_rfl) (h4 w')) (fun a' => hN a')))))) (by kernel_rfl)
theorem sm_r7 (hs : Sl 26 a l)
    (hN : ∀ a', Sl 26 a' ((4, .bool false) :: dropL [4] l) → N a' w) : (r_sm 7).wp Tryd.prog (Exit.then N Q) a w :=
  reg (l0 := []) [4] [4] [] hs trivial (fun a' => hN a') (by kernel_rfl)
theorem sm_r8 (hs : Sl 26 a l)
    (hN : ∀ a', Sl 26 a' ((4, .bool true) :: dropL [4] l) → N a' w) : (r_sm 8).wp Tryd.prog (Exit.then N Q) a w :=
  reg (l0 := []) [4] [4] [] hs trivial (fun a' => hN a') (by kernel_rfl)
noncomputable def r_bl (n : Nat) : Code := ((Tryd.f9.body.bind (findR n)).getD .skip)
noncomputable def blL0 : Code := (.seq (.seq (r_bl 9) (.cond (.tmp 43) .skip (.exit 0))) (.seq (.block 1 (.seq (r_bl 11) (.seq (.seq (r_bl 12) (.cond (.tmp 60) (.seq (r_bl 13) .ret) .skip)) (.seq (r_bl 14) (.seq (r_bl 15) (.seq (r_bl 16) (.seq (.seq (r_bl 17) (.block 2 (.seq (r_bl 18) (.cond (.tmp 95) (r_bl 19) (.seq (r_bl 20) (.cond (.tmp 100) (r_bl 21) (.seq (r_bl 22) (.cond (.tmp 105) (.seq (r_bl 23) (.cond (.tmp 107) (r_bl 24) .skip)) (.seq (r_bl 25) (.cond (.tmp 110) (.seq (r_bl 26) (.cond (.tmp 112) (r_bl 27) .skip)) .skip)))))))))) (.seq (r_bl 28) (r_bl 29))))))))) (r_bl 10)))
noncomputable def blBody : Code := (.seq (r_bl 0) (.seq (r_bl 1) (.seq (r_bl 2) (.seq (.seq (r_bl 3) (.cond (.tmp 38) (.seq (r_bl 4) .ret) .skip)) (.seq (r_bl 5) (.seq (r_bl 6) (.seq (r_bl 7) (.seq (.seq (r_bl 8) (.block 0 (.loop blL0))) (.seq (r_bl 30) (.seq (.seq (r_bl 31) (.cond (.tmp 129) (.seq (r_bl 32) .ret) .skip)) (.seq (r_bl 33) (.seq (r_bl 34) (.seq (r_bl 35) .ret)))))))))))))
theorem bl_body : Tryd.f9.body = some blBody := by kernel_rfl
theorem bl_r0 (hs : Sl 144 a l)
    (hN : ∀ a', Sl 144 a' ((4, .bool false) :: dropL [4] l) → N a' w) : (r_bl 0).wp Tryd.prog (Exit.then N Q) a w :=
  reg (l0 := []) [4] [4] [] hs trivial (fun a' => hN a') (by kernel_rfl)
theorem bl_r1 {b17 : Bool} {C0 : World → Prop} (hs : Sl 144 a l) (k0 : Calls Tryd.prog 10 #[] w fun e w' => e = .returned (.bool b17) ∧ C0 w')
    (hN : ∀ a' (w1 : World), C0 w1 → Sl 144 a' ((5, .bool b17) :: dropL [5, 17] l) → N a' w1) : (r_bl 1).wp Tryd.prog (Exit.then N Q) a w :=
  reg (l0 := []) [5] [5, 17] [.ret (.bool b17) C0] hs trivial (And.intro k0 (fun (w1 : World) (hc0 : C0 w1) => (fun a' => hN a' w1 hc0))) (by kernel_rfl)
theorem bl_r2 {s : ByteArray} {C0 : Value → Value → World → Prop} (hs : Sl 144 a l) (e0 : l.lookup 0 = some (.string s)) (k0 : Calls Tryd.prog 12 #[.string s] w fun e w' => ∃ x20a x20b, e = .returned (.tuple #[x20a, x20b]) ∧ C0 x20a x20b w')
    (hN : ∀ a' (x20a : Value) (x20b : Value) (w1 : World), C0 x20a x20b w1 → Sl 144 a' ((6, x20a) :: (7, x20b) :: dropL [6, 7, 18, 19, 20, 21, 22] l) → N a' w1) : (r_bl 2).wp Tryd.prog (Exit.then N Q) a w :=
  reg (l0 := [(0, .string s)]) [6, 7] [6, 7, 18, 19, 20, 21, 22] [.con2 C0] hs ⟨e0, trivial⟩ (And.intro k0 (fun (x20a : Value) (x20b : Value) (w1 : World) (hc0 : C0 x20a x20b w1) => (fun a' => hN a' x20a x20b w1 hc0))) (by kernel_rfl)
theorem bl_r3n_t {s : ByteArray} (hs : Sl 144 a l) (e5 : l.lookup 5 = some (.bool true)) (e7 : l.lookup 7 = some (.nilIface)) (e0 : l.lookup 0 = some (.string s)) (h0 : decide ((20000 : Int) < (s.size : Int)) = true)
    (hN : ∀ a', Sl 144 a' ((38, .bool true) :: dropL (List.range' 23 16) l) → N a' w) : (r_bl 3).wp Tryd.prog (Exit.then N Q) a w :=
  reg (l0 := [(5, .bool true), (7, .nilIface), (0, .string s)]) [38] (List.range' 23 16) [.raw, .bit true] hs ⟨e5, e7, e0, trivial⟩ (And.intro h0 (fun a' => hN a')) (by kernel_rfl)
theorem bl_r3n_f {s : ByteArray} {d1 : Option Addr} {n1 : Nat} {q1 : Nat} {b37 : Bool} (hs : Sl 144 a l) (e5 : l.lookup 5 = some (.bool true)) (e7 : l.lookup 7 = some (.nilIface)) (e0 : l.lookup 0 = some (.string s)) (e1 : l.lookup 1 = some (.slice d1 n1 q1)) (h0 : decide ((20000 : Int) < (s.size : Int)) = false) (h1 : decide ((n1 : Int) = 0) = b37)
    (hN : ∀ a', Sl 144 a' ((38, .bool b37) :: dropL (List.range' 23 16) l) → N a' w) : (r_bl 3).wp Tryd.prog (Exit.then N Q) a w :=
  reg (l0 := [(5, .bool true), (7, .nilIface), (0, .string s), (1, .slice d1 n1 q1)]) [38] (List.range' 23 16) [.raw, .bit false, .bit b37] hs ⟨e5, e7, e0, e1, trivial⟩ (And.intro h0 (And.intro h1 (fun a' => hN a'))) (by kernel_rfl)
theorem bl_r3e {g : Nat} (hs : Sl 144 a l) (e5 : l.lookup 5 = some (.bool true)) (e7 : l.lookup 7 = some (.iface 58 (.pointer (some ⟨g, 0, none⟩))))
    (hN : ∀ a', Sl 144 a' ((38, .bool true) :: dropL (List.range' 23 16) l) → N a' w) : (r_bl 3).wp Tryd.prog (Exit.then N Q) a w :=
  reg (l0 := [(5, .bool true), (7, .iface 58 (.pointer (some ⟨g, 0, none⟩)))]) [38] (List.range' 23 16) [.raw] hs ⟨e5, e7, trivial⟩ (fun a' => hN a') (by kernel_rfl)
theorem bl_r4 {hd : Bool} (hs : Sl 144 a l) (e5 : l.lookup 5 = some (.bool hd))
    (hN : ∀ a', Sl 144 a' ((4, .bool hd) :: dropL [4, 39] l) → N a' w) : (r_bl 4).wp Tryd.prog (Exit.then N Q) a w :=
  reg (l0 := [(5, .bool hd)]) [4] [4, 39] [] hs ⟨e5, trivial⟩ (fun a' => hN a') (by kernel_rfl)
theorem bl_r5 (hs : Sl 144 a l)
    (hN : ∀ a', Sl 144 a' ((8, .slice none 0 0) :: dropL [8] l) → N a' w) : (r_bl 5).wp Tryd.prog (Exit.then N Q) a w :=
  reg (l0 := []) [8] [8] [] hs trivial (fun a' => hN a') (by kernel_rfl)
theorem bl_r6 (hs : Sl 144 a l)
    (hN : ∀ a', Sl 144 a' ((9, .slice none 0 0) :: dropL [9] l) → N a' w) : (r_bl 6).wp Tryd.prog (Exit.then N Q) a w :=
  reg (l0 := []) [9] [9] [] hs trivial (fun a' => hN a') (by kernel_rfl)
theorem bl_r7 (hs : Sl 144 a l)
    (hN : ∀ a', Sl 144 a' ((10, .int .i64 0) :: dropL [10] l) → N a' w) : (r_bl 7).wp Tryd.prog (Exit.then N Q) a w :=
  reg (l0 := []) [10] [10] [] hs trivial (fun a' => hN a') (by kernel_rfl)
theorem bl_r8 (hs : Sl 144 a l)
    (hN : ∀ a', Sl 144 a' ((11, .int .i64 0) :: dropL [11] l) → N a' w) : (r_bl 8).wp Tryd.prog (Exit.then N Q) a w :=
  reg (l0 := []) [11] [11] [] hs trivial (fun a' => hN a') (by kernel_rfl)
theorem bl_r9 {i : Nat} {d6 : Option Addr} {n6 : Nat} {q6 : Nat} {b43 : Bool} (hs : Sl 144 a l) (e11 : l.lookup 11 = some (.int .i64 (i : Int))) (e6 : l.lookup 6 = some (.slice d6 n6 q6)) (h0 : decide ((i : Int) < (n6 : Int)) = b43)
    (hN : ∀ a', Sl 144 a' ((43, .bool b43) :: dropL [40, 41, 42, 43] l) → N a' w) : (r_bl 9).wp Tryd.prog (Exit.then N Q) a w :=
  reg (l0 := [(11, .int .i64 (i : Int)), (6, .slice d6 n6 q6)]) [43] [40, 41, 42, 43] [.bit b43] hs ⟨e11, e6, trivial⟩ (And.intro h0 (fun a' => hN a')) (by kernel_rfl)
theorem bl_r10 {i : Nat} (hs : Sl 144 a l) (e11 : l.lookup 11 = some (.int .i64 (i : Int))) (h0 : -9223372036854775808 ≤ (i : Int) + 1 ∧ (i : Int) + 1 ≤ 9223372036854775807)
    (hN : ∀ a', Sl 144 a' ((11, .int .i64 ((i : Int) + 1)) :: dropL [11, 44, 45] l) → N a' w) : (r_bl 10).wp Tryd.prog (Exit.then N Q) a w :=
  reg (l0 := [(11, .int .i64 (i : Int))]) [11] [11, 44, 45] [.ari] hs ⟨e11, trivial⟩ (And.intro h0 (fun a' => hN a')) (by kernel_rfl)
theorem bl_r11 {d6 : Option Addr} {n6 : Nat} {q6 : Nat} {i : Nat} {g48 : Nat} {o48 : Nat} {k : Int} {x : ByteArray} {p : Int} (hs : Sl 144 a l) (e6 : l.lookup 6 = some (.slice d6 n6 q6)) (e11 : l.lookup 11 = some (.int .i64 (i : Int))) (i0 : ∀ w, (Instr.indexAt 23 (.slice d6 n6 q6) (.int .i64 (i : Int))).run Tryd.prog w = .ok (.pointer (some (⟨g48, o48, none⟩))) w) (l1 : Lds Tryd.prog 48 (.pointer (some (⟨g48, o48, none⟩))) (.agg #[.int .i64 k, .string x, .int .i64 p]) w) (s2 : (Instr.storeAt 48 (.pointer (some (⟨w.heap.size, 0, none⟩))) (.agg #[.int .i64 k, .string x, .int .i64 p])).run Tryd.prog (w.alloc (.cells #[.int .i64 0, .string (⟨#[]⟩), .int .i64 0] 48)) = .ok () ((w.alloc (.cells #[.int .i64 0, .string (⟨#[]⟩), .int .i64 0] 48)).setCells w.heap.size 0 [.int .i64 k, .string x, .int .i64 p]))
    (hN : ∀ a', Sl 144 a' ((12, .pointer (some (⟨w.heap.size, 0, none⟩))) :: dropL [12, 46, 47, 48, 49] l) → N a' ((w.alloc (.cells #[.int .i64 0, .string (⟨#[]⟩), .int .i64 0] 48)).setCells w.heap.size 0 [.int .i64 k, .string x, .int .i64 p])) : (r_bl 11).wp Tryd.prog (Exit.then N Q) a w :=
  reg (l0 := [(6, .slice d6 n6 q6), (11, .int .i64 (i : Int))]) [12] [12, 46, 47, 48, 49] [.val (.pointer (some (⟨g48, o48, none⟩))), .val (.agg #[.int .i64 k, .string x, .int .i64 p]), .raw, .sto] hs ⟨e6, e11, trivial⟩ (And.intro (i0 w) (And.intro (l1).run (And.intro s2 (fun a' => hN a')))) (by kernel_rfl)
theorem bl_r12_f {g : Nat} {tp : Int} {fr : Int} {s : ByteArray} {b59 : Bool} (hs : Sl 144 a l) (e12 : l.lookup 12 = some (.pointer (some (⟨g, 0, none⟩)))) (e10 : l.lookup 10 = some (.int .i64 fr)) (e0 : l.lookup 0 = some (.string s)) (l0 : Lds Tryd.prog 3 (.pointer (some (⟨g, 2, none⟩))) (.int .i64 tp) w) (h1 : decide (tp < fr) = false) (h2 : decide ((s.size : Int) < tp) = b59)
    (hN : ∀ a', Sl 144 a' ((60, .bool b59) :: dropL (List.range' 50 11) l) → N a' w) : (r_bl 12).wp Tryd.prog (Exit.then N Q) a w :=
  reg (l0 := [(12, .pointer (some (⟨g, 0, none⟩))), (10, .int .i64 fr), (0, .string s)]) [60] (List.range' 50 11) [.val (.int .i64 tp), .bit false, .val (.int .i64 tp), .bit b59] hs ⟨e12, e10, e0, trivial⟩ (And.intro (l0).run (And.intro h1 (And.intro (l0).run (And.intro h2 (fun a' => hN a'))))) (by kernel_rfl)
theorem bl_r14 {vb : Value} {s : ByteArray} {fr : Int} {g : Nat} {v65 : Int} {s66 : ByteArray} {C0 : Value → World → Prop} (hs : Sl 144 a l) (e8 : l.lookup 8 = some (vb)) (e0 : l.lookup 0 = some (.string s)) (e10 : l.lookup 10 = some (.int .i64 fr)) (e12 : l.lookup 12 = some (.pointer (some (⟨g, 0, none⟩)))) (l0 : Lds Tryd.prog 3 (.pointer (some (⟨g, 2, none⟩))) (.int .i64 v65) w) (i1 : ∀ w, (Instr.sliceAt 9 (.string s) (some (.int .i64 fr)) (some (.int .i64 v65)) none).run Tryd.prog w = .ok (.string s66) w) (k2 : ∀ ty, ∃ v w', (Builtin.append_ #[52, 9] ty #[vb, .string s66]).run Tryd.prog w = .ok v w' ∧ C0 v w')
    (hN : ∀ a' (x67 : Value) (w1 : World), C0 x67 w1 → Sl 144 a' ((8, x67) :: dropL (8 :: List.range' 61 7) l) → N a' w1) : (r_bl 14).wp Tryd.prog (Exit.then N Q) a w :=
  reg (l0 := [(8, vb), (0, .string s), (10, .int .i64 fr), (12, .pointer (some (⟨g, 0, none⟩)))]) [8] (8 :: List.range' 61 7) [.val (.int .i64 v65), .val (.string s66), .app C0] hs ⟨e8, e0, e10, e12, trivial⟩ (And.intro (l0).run (And.intro (i1 w) (And.intro k2 (fun (x67 : Value) (w1 : World) (hc0 : C0 x67 w1) => (fun a' => hN a' x67 w1 hc0))))) (by kernel_rfl)
theorem bl_r15 {g : Nat} {v69 : Int} (hs : Sl 144 a l) (e12 : l.lookup 12 = some (.pointer (some (⟨g, 0, none⟩)))) (l0 : Lds Tryd.prog 3 (.pointer (some (⟨g, 2, none⟩))) (.int .i64 v69) w)
    (hN : ∀ a', Sl 144 a' ((10, .int .i64 v69) :: dropL [10, 68, 69] l) → N a' w) : (r_bl 15).wp Tryd.prog (Exit.then N Q) a w :=
  reg (l0 := [(12, .pointer (some (⟨g, 0, none⟩)))]) [10] [10, 68, 69] [.val (.int .i64 v69)] hs ⟨e12, trivial⟩ (And.intro (l0).run (fun a' => hN a')) (by kernel_rfl)
theorem bl_r16_tt {g : Nat} {kd : Int} {tp : Int} {s : ByteArray} (hs : Sl 144 a l) (e12 : l.lookup 12 = some (.pointer (some (⟨g, 0, none⟩)))) (e0 : l.lookup 0 = some (.string s)) (l0 : Lds Tryd.prog 3 (.pointer (some (⟨g, 0, none⟩))) (.int .i64 kd) w) (h1 : decide (kd = 1) = true) (l2 : Lds Tryd.prog 3 (.pointer (some (⟨g, 2, none⟩))) (.int .i64 tp) w) (h3 : decide (tp = (s.size : Int)) = true)
    (hN : ∀ a', Sl 144 a' ((13, .bool true) :: dropL (13 :: List.range' 70 17) l) → N a' w) : (r_bl 16).wp Tryd.prog (Exit.then N Q) a w :=
  reg (l0 := [(12, .pointer (some (⟨g, 0, none⟩))), (0, .string s)]) [13] (13 :: List.range' 70 17) [.val (.int .i64 kd), .bit true, .val (.int .i64 tp), .bit true] hs ⟨e12, e0, trivial⟩ (And.intro (l0).run (And.intro h1 (And.intro (l2).run (And.intro h3 (fun a' => hN a'))))) (by kernel_rfl)
theorem bl_r16_tf {g : Nat} {kd : Int} {tp : Int} {s : ByteArray} {c83 : Int} {b84 : Bool} (hs : Sl 144 a l) (e12 : l.lookup 12 = some (.pointer (some (⟨g, 0, none⟩)))) (e0 : l.lookup 0 = some (.string s)) (l0 : Lds Tryd.prog 3 (.pointer (some (⟨g, 0, none⟩))) (.int .i64 kd) w) (h1 : decide (kd = 1) = true) (l2 : Lds Tryd.prog 3 (.pointer (some (⟨g, 2, none⟩))) (.int .i64 tp) w) (h3 : decide (tp = (s.size : Int)) = false) (i4 : ∀ w, (Instr.index 9 (.string s) (.int .i64 tp)).run Tryd.prog w = .ok (.int .u8 c83) w) (h5 : decide (c83 = 10) = b84)
    (hN : ∀ a', Sl 144 a' ((13, .bool b84) :: dropL (13 :: List.range' 70 17) l) → N a' w) : (r_bl 16).wp Tryd.prog (Exit.then N Q) a w :=
  reg (l0 := [(12, .pointer (some (⟨g, 0, none⟩))), (0, .string s)]) [13] (13 :: List.range' 70 17) [.val (.int .i64 kd), .bit true, .val (.int .i64 tp), .bit false, .val (.int .i64 tp), .val (.int .u8 c83), .bit b84] hs ⟨e12, e0, trivial⟩ (And.intro (l0).run (And.intro h1 (And.intro (l2).run (And.intro h3 (And.intro (l2).run (And.intro (i4 w) (And.intro h5 (fun a' => hN a')))))))) (by kernel_rfl)
theorem bl_r16_f {g : Nat} {kd : Int} (hs : Sl 144 a l) (e12 : l.lookup 12 = some (.pointer (some (⟨g, 0, none⟩)))) (l0 : Lds Tryd.prog 3 (.pointer (some (⟨g, 0, none⟩))) (.int .i64 kd) w) (h1 : decide (kd = 1) = false)
    (hN : ∀ a', Sl 144 a' ((13, .bool false) :: dropL (13 :: List.range' 70 17) l) → N a' w) : (r_bl 16).wp Tryd.prog (Exit.then N Q) a w :=
  reg (l0 := [(12, .pointer (some (⟨g, 0, none⟩)))]) [13] (13 :: List.range' 70 17) [.val (.int .i64 kd), .bit false] hs ⟨e12, trivial⟩ (And.intro (l0).run (And.intro h1 (fun a' => hN a'))) (by kernel_rfl)
theorem bl_r17 {d1 : Option Addr} {n1 : Nat} {q1 : Nat} {i : Nat} {j : Nat} {g92 : Nat} {o92 : Nat} {c : Int} {v94 : Int} {C0 : World → Prop} (hs : Sl 144 a l) (e1 : l.lookup 1 = some (.slice d1 n1 q1)) (e11 : l.lookup 11 = some (.int .i64 (i : Int))) (h0 : ∀ w, (binOp .rem 3 (.int .i64 (i : Int)) (.int .i64 (n1 : Int))).run Tryd.prog w = .ok (.int .i64 (j : Int)) w) (i1 : ∀ w, (Instr.indexAt 51 (.slice d1 n1 q1) (.int .i64 (j : Int))).run Tryd.prog w = .ok (.pointer (some (⟨g92, o92, none⟩))) w) (l2 : Lds Tryd.prog 3 (.pointer (some (⟨g92, o92, none⟩))) (.int .i64 c) w) (k3 : Calls Tryd.prog 30 #[.int .i64 c, .int .i64 6] w fun e w' => e = .returned (.int .i64 v94) ∧ C0 w')
    (hN : ∀ a' (w1 : World), C0 w1 → Sl 144 a' ((94, .int .i64 v94) :: dropL (List.range' 87 8) l) → N a' w1) : (r_bl 17).wp Tryd.prog (Exit.then N Q) a w :=
  reg (l0 := [(1, .slice d1 n1 q1), (11, .int .i64 (i : Int))]) [94] (List.range' 87 8) [.bin (.int .i64 (j : Int)), .val (.pointer (some (⟨g92, o92, none⟩))), .val (.int .i64 c), .ret (.int .i64 v94) C0] hs ⟨e1, e11, trivial⟩ (And.intro (bin_run (x := .tmp 88) (y := .tmp 90) (by kernel_rfl) (h0 w)) (And.intro (i1 w) (And.intro (l2).run (And.intro k3 (fun (w1 : World) (hc0 : C0 w1) => (fun a' => hN a' w1 hc0)))))) (by kernel_rfl)
theorem bl_r18 {k : Int} {b96 : Bool} (hs : Sl 144 a l) (e94 : l.lookup 94 = some (.int .i64 k)) (h0 : decide (k = 1) = b96)
    (hN : ∀ a', Sl 144 a' ((95, .bool b96) :: dropL [95, 96] l) → N a' w) : (r_bl 18).wp Tryd.prog (Exit.then N Q) a w :=
  reg (l0 := [(94, .int .i64 k)]) [95] [95, 96] [.bit b96] hs ⟨e94, trivial⟩ (And.intro h0 (fun a' => hN a')) (by kernel_rfl)
theorem bl_r19 {vb : Value} {C0 : Value → World → Prop} (hs : Sl 144 a l) (e8 : l.lookup 8 = some (vb)) (k0 : ∀ ty, ∃ v w', (Builtin.append_ #[52, 52] ty #[vb, .slice (some ⟨w.heap.size, 0, none⟩) 1 1]).run Tryd.prog (w.alloc (.cells #[.int .u8 32] 5)) = .ok v w' ∧ C0 v w')
    (hN : ∀ a' (x99 : Value) (w1 : World), C0 x99 w1 → Sl 144 a' ((8, x99) :: dropL [8, 97, 98, 99] l) → N a' w1) : (r_bl 19).wp Tryd.prog (Exit.then N Q) a w :=
  reg (l0 := [(8, vb)]) [8] [8, 97, 98, 99] [.raw, .app C0] hs ⟨e8, trivial⟩ (And.intro k0 (fun (x99 : Value) (w1 : World) (hc0 : C0 x99 w1) => (fun a' => hN a' x99 w1 hc0))) (by kernel_rfl)
theorem bl_r20 {k : Int} {b101 : Bool} (hs : Sl 144 a l) (e94 : l.lookup 94 = some (.int .i64 k)) (h0 : decide (k = 2) = b101)
    (hN : ∀ a', Sl 144 a' ((100, .bool b101) :: dropL [100, 101] l) → N a' w) : (r_bl 20).wp Tryd.prog (Exit.then N Q) a w :=
  reg (l0 := [(94, .int .i64 k)]) [100] [100, 101] [.bit b101] hs ⟨e94, trivial⟩ (And.intro h0 (fun a' => hN a')) (by kernel_rfl)
theorem bl_r21 {vb : Value} {C0 : Value → World → Prop} (hs : Sl 144 a l) (e8 : l.lookup 8 = some (vb)) (k0 : ∀ ty, ∃ v w', (Builtin.append_ #[52, 52] ty #[vb, .slice (some ⟨w.heap.size, 0, none⟩) 2 2]).run Tryd.prog (w.alloc (.cells #[.int .u8 9, .int .u8 32] 5)) = .ok v w' ∧ C0 v w')
    (hN : ∀ a' (x104 : Value) (w1 : World), C0 x104 w1 → Sl 144 a' ((8, x104) :: dropL [8, 102, 103, 104] l) → N a' w1) : (r_bl 21).wp Tryd.prog (Exit.then N Q) a w :=
  reg (l0 := [(8, vb)]) [8] [8, 102, 103, 104] [.raw, .app C0] hs ⟨e8, trivial⟩ (And.intro k0 (fun (x104 : Value) (w1 : World) (hc0 : C0 x104 w1) => (fun a' => hN a' x104 w1 hc0))) (by kernel_rfl)
theorem bl_r22 {k : Int} {b106 : Bool} (hs : Sl 144 a l) (e94 : l.lookup 94 = some (.int .i64 k)) (h0 : decide (k = 3) = b106)
    (hN : ∀ a', Sl 144 a' ((105, .bool b106) :: dropL [105, 106] l) → N a' w) : (r_bl 22).wp Tryd.prog (Exit.then N Q) a w :=
  reg (l0 := [(94, .int .i64 k)]) [105] [105, 106] [.bit b106] hs ⟨e94, trivial⟩ (And.intro h0 (fun a' => hN a')) (by kernel_rfl)
theorem bl_r23 {ln : Bool} (hs : Sl 144 a l) (e13 : l.lookup 13 = some (.bool ln))
    (hN : ∀ a', Sl 144 a' ((107, .bool ln) :: dropL [107] l) → N a' w) : (r_bl 23).wp Tryd.prog (Exit.then N Q) a w :=
  reg (l0 := [(13, .bool ln)]) [107] [107] [] hs ⟨e13, trivial⟩ (fun a' => hN a') (by kernel_rfl)
theorem bl_r24 {vb : Value} {C0 : Value → World → Prop} (hs : Sl 144 a l) (e8 : l.lookup 8 = some (vb)) (k0 : ∀ ty, ∃ v w', (Builtin.append_ #[52, 9] ty #[vb, .string (⟨#[32, 47, 47, 32, 34, 120]⟩)]).run Tryd.prog w = .ok v w' ∧ C0 v w')
    (hN : ∀ a' (x109 : Value) (w1 : World), C0 x109 w1 → Sl 144 a' ((8, x109) :: dropL [8, 108, 109] l) → N a' w1) : (r_bl 24).wp Tryd.prog (Exit.then N Q) a w :=
  reg (l0 := [(8, vb)]) [8] [8, 108, 109] [.app C0] hs ⟨e8, trivial⟩ (And.intro k0 (fun (x109 : Value) (w1 : World) (hc0 : C0 x109 w1) => (fun a' => hN a' x109 w1 hc0))) (by kernel_rfl)
theorem bl_r25 {k : Int} {b111 : Bool} (hs : Sl 144 a l) (e94 : l.lookup 94 = some (.int .i64 k)) (h0 : decide (k = 4) = b111)
    (hN : ∀ a', Sl 144 a' ((110, .bool b111) :: dropL [110, 111] l) → N a' w) : (r_bl 25).wp Tryd.prog (Exit.then N Q) a w :=
  reg (l0 := [(94, .int .i64 k)]) [110] [110, 111] [.bit b111] hs ⟨e94, trivial⟩ (And.intro h0 (fun a' => hN a')) (by kernel_rfl)
theorem bl_r26 {ln : Bool} (hs : Sl 144 a l) (e13 : l.lookup 13 = some (.bool ln))
    (hN : ∀ a', Sl 144 a' ((112, .bool ln) :: dropL [112] l) → N a' w) : (r_bl 26).wp Tryd.prog (Exit.then N Q) a w :=
  reg (l0 := [(13, .bool ln)]) [112] [112] [] hs ⟨e13, trivial⟩ (fun a' => hN a') (by kernel_rfl)
theorem bl_r27 {vb : Value} {C0 : Value → World → Prop} (hs : Sl 144 a l) (e8 : l.lookup 8 = some (vb)) (k0 : ∀ ty, ∃ v w', (Builtin.append_ #[52, 9] ty #[vb, .string (⟨#[47, 47, 47]⟩)]).run Tryd.prog w = .ok v w' ∧ C0 v w')
    (hN : ∀ a' (x114 : Value) (w1 : World), C0 x114 w1 → Sl 144 a' ((8, x114) :: dropL [8, 113, 114] l) → N a' w1) : (r_bl 27).wp Tryd.prog (Exit.then N Q) a w :=
  reg (l0 := [(8, vb)]) [8] [8, 113, 114] [.app C0] hs ⟨e8, trivial⟩ (And.intro k0 (fun (x114 : Value) (w1 : World) (hc0 : C0 x114 w1) => (fun a' => hN a' x114 w1 hc0))) (by kernel_rfl)
theorem bl_r28 {d8 : Option Addr} {n8 : Nat} {q8 : Nat} {g : Nat} (hs : Sl 144 a l) (e8 : l.lookup 8 = some (.slice d8 n8 q8)) (e12 : l.lookup 12 = some (.pointer (some (⟨g, 0, none⟩)))) (s0 : (Instr.storeAt 3 (.pointer (some (⟨g, 2, none⟩))) (.int .i64 (n8 : Int))).run Tryd.prog w = .ok () (w.setCells g 2 [.int .i64 (n8 : Int)]))
    (hN : ∀ a', Sl 144 a' (dropL [115, 116, 117] l) → N a' (w.setCells g 2 [.int .i64 (n8 : Int)])) : (r_bl 28).wp Tryd.prog (Exit.then N Q) a w :=
  reg (l0 := [(8, .slice d8 n8 q8), (12, .pointer (some (⟨g, 0, none⟩)))]) [] [115, 116, 117] [.sto] hs ⟨e8, e12, trivial⟩ (And.intro s0 (fun a' => hN a')) (by kernel_rfl)
theorem bl_r29 {vw : Value} {g : Nat} {k : Int} {x : ByteArray} {p : Int} {C0 : Value → World → Prop} (hs : Sl 144 a l) (e9 : l.lookup 9 = some (vw)) (e12 : l.lookup 12 = some (.pointer (some (⟨g, 0, none⟩)))) (l0 : Lds Tryd.prog 48 (.pointer (some (⟨g, 0, none⟩))) (.agg #[.int .i64 k, .string x, .int .i64 p]) w) (k1 : ∀ ty, ∃ v w', (Builtin.append_ #[23, 23] ty #[vw, .slice (some ⟨w.heap.size, 0, none⟩) 1 1]).run Tryd.prog (w.alloc (.cells #[.int .i64 k, .string x, .int .i64 p] 48)) = .ok v w' ∧ C0 v w')
    (hN : ∀ a' (x121 : Value) (w1 : World), C0 x121 w1 → Sl 144 a' ((9, x121) :: dropL [9, 118, 119, 120, 121] l) → N a' w1) : (r_bl 29).wp Tryd.prog (Exit.then N Q) a w :=
  reg (l0 := [(9, vw), (12, .pointer (some (⟨g, 0, none⟩)))]) [9] [9, 118, 119, 120, 121] [.val (.agg #[.int .i64 k, .string x, .int .i64 p]), .raw, .app C0] hs ⟨e9, e12, trivial⟩ (And.intro (l0).run (And.intro k1 (fun (x121 : Value) (w1 : World) (hc0 : C0 x121 w1) => (fun a' => hN a' x121 w1 hc0)))) (by kernel_rfl)
theorem bl_r30 {vb : Value} {s : ByteArray} {fr : Int} {s125 : ByteArray} {C0 : Value → World → Prop} (hs : Sl 144 a l) (e8 : l.lookup 8 = some (vb)) (e0 : l.lookup 0 = some (.string s)) (e10 : l.lookup 10 = some (.int .i64 fr)) (i0 : ∀ w, (Instr.sliceAt 9 (.string s) (some (.int .i64 fr)) none none).run Tryd.prog w = .ok (.string s125) w) (k1 : ∀ ty, ∃ v w', (Builtin.append_ #[52, 9] ty #[vb, .string s125]).run Tryd.prog w = .ok v w' ∧ C0 v w')
    (hN : ∀ a' (x126 : Value) (w1 : World), C0 x126 w1 → Sl 144 a' ((8, x126) :: dropL [8, 122, 123, 124, 125, 126] l) → N a' w1) : (r_bl 30).wp Tryd.prog (Exit.then N Q) a w :=
  reg (l0 := [(8, vb), (0, .string s), (10, .int .i64 fr)]) [8] [8, 122, 123, 124, 125, 126] [.val (.string s125), .app C0] hs ⟨e8, e0, e10, trivial⟩ (And.intro (i0 w) (And.intro k1 (fun (x126 : Value) (w1 : World) (hc0 : C0 x126 w1) => (fun a' => hN a' x126 w1 hc0)))) (by kernel_rfl)
theorem bl_r31 {d8 : Option Addr} {n8 : Nat} {q8 : Nat} {b129 : Bool} (hs : Sl 144 a l) (e8 : l.lookup 8 = some (.slice d8 n8 q8)) (h0 : decide ((60000 : Int) < (n8 : Int)) = b129)
    (hN : ∀ a', Sl 144 a' ((129, .bool b129) :: dropL [127, 128, 129] l) → N a' w) : (r_bl 31).wp Tryd.prog (Exit.then N Q) a w :=
  reg (l0 := [(8, .slice d8 n8 q8)]) [129] [127, 128, 129] [.bit b129] hs ⟨e8, trivial⟩ (And.intro h0 (fun a' => hN a')) (by kernel_rfl)
theorem bl_r32 (hs : Sl 144 a l)
    (hN : ∀ a', Sl 144 a' ((4, .bool true) :: dropL [4] l) → N a' w) : (r_bl 32).wp Tryd.prog (Exit.then N Q) a w :=
  reg (l0 := []) [4] [4] [] hs trivial (fun a' => hN a') (by kernel_rfl)
theorem bl_r33 {d8 : Option Addr} {n8 : Nat} {q8 : Nat} {s132 : ByteArray} {C0 : Value → Value → World → Prop} (hs : Sl 144 a l) (e8 : l.lookup 8 = some (.slice d8 n8 q8)) (i0 : (convert 52 9 (.slice d8 n8 q8)).run Tryd.prog w = .ok (.string s132) w) (k1 : Calls Tryd.prog 12 #[.string s132] w fun e w' => ∃ x133a x133b, e = .returned (.tuple #[x133a, x133b]) ∧ C0 x133a x133b w')
    (hN : ∀ a' (x133a : Value) (x133b : Value) (w1 : World), C0 x133a x133b w1 → Sl 144 a' ((14, x133a) :: (15, x133b) :: dropL (14 :: 15 :: List.range' 130 6) l) → N a' w1) : (r_bl 33).wp Tryd.prog (Exit.then N Q) a w :=
  reg (l0 := [(8, .slice d8 n8 q8)]) [14, 15] (14 :: 15 :: List.range' 130 6) [.val (.string s132), .con2 C0] hs ⟨e8, trivial⟩ (And.intro i0 (And.intro k1 (fun (x133a : Value) (x133b : Value) (w1 : World) (hc0 : C0 x133a x133b w1) => (fun a' => hN a' x133a x133b w1 hc0)))) (by kernel_rfl)
theorem bl_r34 {d14 : Option Addr} {n14 : Nat} {q14 : Nat} {d9 : Option Addr} {n9 : Nat} {q9 : Nat} {b138 : Bool} {C0 : World → Prop} (hs : Sl 144 a l) (e14 : l.lookup 14 = some (.slice d14 n14 q14)) (e9 : l.lookup 9 = some (.slice d9 n9 q9)) (k0 : Calls Tryd.prog 13 #[.slice d14 n14 q14, .slice d9 n9 q9] w fun e w' => e = .returned (.bool b138) ∧ C0 w')
    (hN : ∀ a' (w1 : World), C0 w1 → Sl 144 a' ((16, .bool b138) :: dropL [16, 136, 137, 138] l) → N a' w1) : (r_bl 34).wp Tryd.prog (Exit.then N Q) a w :=
  reg (l0 := [(14, .slice d14 n14 q14), (9, .slice d9 n9 q9)]) [16] [16, 136, 137, 138] [.ret (.bool b138) C0] hs ⟨e14, e9, trivial⟩ (And.intro k0 (fun (w1 : World) (hc0 : C0 w1) => (fun a' => hN a' w1 hc0))) (by kernel_rfl)
theorem bl_r35 {is : Bool} (hs : Sl 144 a l) (e15 : l.lookup 15 = some (.nilIface)) (e16 : l.lookup 16 = some (.bool is))
    (hN : ∀ a', Sl 144 a' ((4, .bool is) :: dropL [4, 139, 140, 141, 142, 143] l) → N a' w) : (r_bl 35).wp Tryd.prog (Exit.then N Q) a w :=
  reg (l0 := [(15, .nilIface), (16, .bool is)]) [4] [4, 139, 140, 141, 142, 143] [.raw] hs ⟨e15, e16, trivial⟩ (fun a' => hN a') (by kernel_rfl)
end Go.Proofs.YtpggcmlddmckcaaDoor
