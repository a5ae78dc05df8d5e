/-
  Regions of known. What Put and Drop do to a map's entries: the plain side. Written by an AI agent.
-/
import Derived.Test.YtlhfickniegooaaDoorProg
import Derived.Test.YtlhfickniegooaaDoorPk04
import Derived.Test.YtlhfickniegooaaDoorPk18
import Derived.Test.YtlhfickniegooaaDoorPk16
namespace Go.Proofs.YtlhfickniegooaaDoor
open Go.RowKit Go.Sort
set_option maxRecDepth 100000
variable {a : Act} {w : World} {df : List Deferred} {N : Act → World → Prop} {Q : Exit → Act → World → Prop} {l : List (Nat × Value)}
noncomputable def r_ln (n : Nat) : Code := ((Tryd.f6.body.bind (findR n)).getD .skip)
noncomputable def lnBody : Code := (.seq (r_ln 0) (.seq (r_ln 1) (.seq (.seq (r_ln 2) (.cond (.tmp 18) (.seq (r_ln 3) .ret) .skip)) (.seq (r_ln 4) (.seq (r_ln 5) (.seq (r_ln 6) (.seq (r_ln 7) (.seq (r_ln 8) (.seq (r_ln 9) (.seq (r_ln 10) (.seq (r_ln 11) (.seq (r_ln 12) .ret))))))))))))
theorem ln_body : Tryd.f6.body = some lnBody := by kernel_rfl
theorem ln_r0 (hs : Sl 123 a l df)
    (hN : ∀ a', Sl 123 a' ((0, .bool false) :: dropL [0] l) df → N a' w) : rg Tryd.prog (Exit.then N Q) a w (r_ln 0) :=
  reg (l0 := []) [0] [0] [] hs trivial (fun a' => hN a') (by kernel_rfl)
theorem ln_r1 {gm : Nat} {C0 : World → Prop} (hs : Sl 123 a l df) (k0 : Calls Tryd.prog 7 #[] w fun e w' => e = .returned (.pointer (some (⟨gm, 0, none⟩))) ∧ C0 w')
    (hN : ∀ a' (w1 : World), C0 w1 → Sl 123 a' ((1, .pointer (some (⟨gm, 0, none⟩))) :: dropL [1, 16] l) df → N a' w1) : rg Tryd.prog (Exit.then N Q) a w (r_ln 1) :=
  reg (l0 := []) [1] [1, 16] [.ret (.pointer (some (⟨gm, 0, none⟩))) C0] hs trivial (And.intro k0 (fun (w1 : World) (hc0 : C0 w1) => (fun a' => hN a' w1 hc0))) (by kernel_rfl)
theorem ln_r2 {gm : Nat} {b18 : Bool} (hs : Sl 123 a l df) (e1 : l.lookup 1 = some (.pointer (some (⟨gm, 0, none⟩)))) (h0 : ∀ w, (binOp .eql 24 (.pointer (some (⟨gm, 0, none⟩))) (.pointer none)).run Tryd.prog w = .ok (.bool b18) w)
    (hN : ∀ a', Sl 123 a' ((18, .bool b18) :: dropL [17, 18] l) df → N a' w) : rg Tryd.prog (Exit.then N Q) a w (r_ln 2) :=
  reg (l0 := [(1, .pointer (some (⟨gm, 0, none⟩)))]) [18] [17, 18] [.bin (.bool b18)] hs ⟨e1, trivial⟩ (And.intro (bin_run (x := .tmp 17) (y := .const (.pointer none)) (by kernel_rfl) (h0 w)) (fun a' => hN a')) (by kernel_rfl)
theorem ln_r3 (hs : Sl 123 a l df)
    (hN : ∀ a', Sl 123 a' ((0, .bool false) :: dropL [0] l) df → N a' w) : rg Tryd.prog (Exit.then N Q) a w (r_ln 3) :=
  reg (l0 := []) [0] [0] [] hs trivial (fun a' => hN a') (by kernel_rfl)
theorem ln_r4 {gm : Nat} {C0 : World → Prop} {C1 : World → Prop} {C2 : World → Prop} (hs : Sl 123 a l df) (e1 : l.lookup 1 = some (.pointer (some (⟨gm, 0, none⟩)))) (k0 : Calls Tryd.prog 8 #[.int .i64 1] w fun e w' => e = .returned (.agg ((wholeD 1).cs m0)) ∧ C0 w') (k1 : ∀ (w1 : World), C0 w1 → Calls Tryd.prog 20 #[.string (⟨#[97]⟩)] w1 fun e w' => e = .returned (.agg ((textD ⟨#[97]⟩).cs m0)) ∧ C1 w') (k2 : ∀ (w1 : World), C0 w1 → ∀ (w2 : World), C1 w2 → Calls Tryd.prog 9 #[.pointer (some (⟨gm, 0, none⟩)), .agg ((wholeD 1).cs m0), .agg ((textD ⟨#[97]⟩).cs m0)] w2 fun e w' => e = .returned (.nilIface) ∧ C2 w')
    (hN : ∀ a' (w1 : World) (w2 : World) (w3 : World), C0 w1 → C1 w2 → C2 w3 → Sl 123 a' ((2, .nilIface) :: dropL [2, 19, 20, 21, 22] l) df → N a' w3) : rg Tryd.prog (Exit.then N Q) a w (r_ln 4) :=
  reg (l0 := [(1, .pointer (some (⟨gm, 0, none⟩)))]) [2] [2, 19, 20, 21, 22] [.ret (.agg ((wholeD 1).cs m0)) C0, .ret (.agg ((textD ⟨#[97]⟩).cs m0)) C1, .ret (.nilIface) C2] hs ⟨e1, trivial⟩ (And.intro k0 (fun (w1 : World) (hc0 : C0 w1) => (And.intro (k1 w1 hc0) (fun (w2 : World) (hc1 : C1 w2) => (And.intro (k2 w1 hc0 w2 hc1) (fun (w3 : World) (hc2 : C2 w3) => (fun a' => hN a' w1 w2 w3 hc0 hc1 hc2))))))) (by kernel_rfl)
theorem ln_r5 {gm : Nat} {C0 : World → Prop} {C1 : World → Prop} {C2 : World → Prop} (hs : Sl 123 a l df) (e1 : l.lookup 1 = some (.pointer (some (⟨gm, 0, none⟩)))) (k0 : Calls Tryd.prog 8 #[.int .i64 2] w fun e w' => e = .returned (.agg ((wholeD 2).cs m0)) ∧ C0 w') (k1 : ∀ (w1 : World), C0 w1 → Calls Tryd.prog 20 #[.string (⟨#[98]⟩)] w1 fun e w' => e = .returned (.agg ((textD ⟨#[98]⟩).cs m0)) ∧ C1 w') (k2 : ∀ (w1 : World), C0 w1 → ∀ (w2 : World), C1 w2 → Calls Tryd.prog 9 #[.pointer (some (⟨gm, 0, none⟩)), .agg ((wholeD 2).cs m0), .agg ((textD ⟨#[98]⟩).cs m0)] w2 fun e w' => e = .returned (.nilIface) ∧ C2 w')
    (hN : ∀ a' (w1 : World) (w2 : World) (w3 : World), C0 w1 → C1 w2 → C2 w3 → Sl 123 a' ((3, .nilIface) :: dropL [3, 23, 24, 25, 26] l) df → N a' w3) : rg Tryd.prog (Exit.then N Q) a w (r_ln 5) :=
  reg (l0 := [(1, .pointer (some (⟨gm, 0, none⟩)))]) [3] [3, 23, 24, 25, 26] [.ret (.agg ((wholeD 2).cs m0)) C0, .ret (.agg ((textD ⟨#[98]⟩).cs m0)) C1, .ret (.nilIface) C2] hs ⟨e1, trivial⟩ (And.intro k0 (fun (w1 : World) (hc0 : C0 w1) => (And.intro (k1 w1 hc0) (fun (w2 : World) (hc1 : C1 w2) => (And.intro (k2 w1 hc0 w2 hc1) (fun (w3 : World) (hc2 : C2 w3) => (fun a' => hN a' w1 w2 w3 hc0 hc1 hc2))))))) (by kernel_rfl)
theorem ln_r6 {gm : Nat} {C0 : World → Prop} {C1 : World → Prop} {C2 : World → Prop} (hs : Sl 123 a l df) (e1 : l.lookup 1 = some (.pointer (some (⟨gm, 0, none⟩)))) (k0 : Calls Tryd.prog 8 #[.int .i64 1] w fun e w' => e = .returned (.agg ((wholeD 1).cs m0)) ∧ C0 w') (k1 : ∀ (w1 : World), C0 w1 → Calls Tryd.prog 20 #[.string (⟨#[99]⟩)] w1 fun e w' => e = .returned (.agg ((textD ⟨#[99]⟩).cs m0)) ∧ C1 w') (k2 : ∀ (w1 : World), C0 w1 → ∀ (w2 : World), C1 w2 → Calls Tryd.prog 9 #[.pointer (some (⟨gm, 0, none⟩)), .agg ((wholeD 1).cs m0), .agg ((textD ⟨#[99]⟩).cs m0)] w2 fun e w' => e = .returned (.nilIface) ∧ C2 w')
    (hN : ∀ a' (w1 : World) (w2 : World) (w3 : World), C0 w1 → C1 w2 → C2 w3 → Sl 123 a' ((4, .nilIface) :: dropL [4, 27, 28, 29, 30] l) df → N a' w3) : rg Tryd.prog (Exit.then N Q) a w (r_ln 6) :=
  reg (l0 := [(1, .pointer (some (⟨gm, 0, none⟩)))]) [4] [4, 27, 28, 29, 30] [.ret (.agg ((wholeD 1).cs m0)) C0, .ret (.agg ((textD ⟨#[99]⟩).cs m0)) C1, .ret (.nilIface) C2] hs ⟨e1, trivial⟩ (And.intro k0 (fun (w1 : World) (hc0 : C0 w1) => (And.intro (k1 w1 hc0) (fun (w2 : World) (hc1 : C1 w2) => (And.intro (k2 w1 hc0 w2 hc1) (fun (w3 : World) (hc2 : C2 w3) => (fun a' => hN a' w1 w2 w3 hc0 hc1 hc2))))))) (by kernel_rfl)
theorem ln_r7 {gm : Nat} {C0 : World → Prop} {d34 : Dt} {C1 : Dm → World → Prop} (hs : Sl 123 a l df) (e1 : l.lookup 1 = some (.pointer (some (⟨gm, 0, none⟩)))) (k0 : Calls Tryd.prog 8 #[.int .i64 1] w fun e w' => e = .returned (.agg ((wholeD 1).cs m0)) ∧ C0 w') (k1 : ∀ (w1 : World), C0 w1 → Calls Tryd.prog 10 #[.pointer (some (⟨gm, 0, none⟩)), .agg ((wholeD 1).cs m0)] w1 fun e w' => ∃ x34 : Dm, e = .returned (.tuple #[.agg (d34.cs x34), .bool true, .nilIface]) ∧ C1 x34 w') (s2 : ∀ (w1 : World), C0 w1 → ∀ (x34 : Dm) (w2 : World), C1 x34 w2 → (Instr.storeAt 31 (.pointer (some (⟨w2.heap.size, 0, none⟩))) (.agg (d34.cs x34))).run Tryd.prog (w2.alloc (.cells #[.int .i64 0, .string (⟨#[]⟩), .int .i64 0, .int .u64 0, .string (⟨#[]⟩), .int .i64 0, .int .i64 0, .int .i64 0, .int .i64 0, .slice none 0 0, .slice none 0 0] 31)) = .ok () ((w2.alloc (.cells #[.int .i64 0, .string (⟨#[]⟩), .int .i64 0, .int .u64 0, .string (⟨#[]⟩), .int .i64 0, .int .i64 0, .int .i64 0, .int .i64 0, .slice none 0 0, .slice none 0 0] 31)).setCells w2.heap.size 0 (d34.cs x34).toList))
    (hN : ∀ a' (w1 : World) (x34 : Dm) (w2 : World), C0 w1 → C1 x34 w2 → Sl 123 a' ((5, .pointer (some (⟨w2.heap.size, 0, none⟩))) :: (6, .bool true) :: (7, .nilIface) :: dropL (5 :: 6 :: 7 :: List.range' 31 7) l) df → N a' ((w2.alloc (.cells #[.int .i64 0, .string (⟨#[]⟩), .int .i64 0, .int .u64 0, .string (⟨#[]⟩), .int .i64 0, .int .i64 0, .int .i64 0, .int .i64 0, .slice none 0 0, .slice none 0 0] 31)).setCells w2.heap.size 0 (d34.cs x34).toList)) : rg Tryd.prog (Exit.then N Q) a w (r_ln 7) :=
  reg (l0 := [(1, .pointer (some (⟨gm, 0, none⟩)))]) [5, 6, 7] (5 :: 6 :: 7 :: List.range' 31 7) [.ret (.agg ((wholeD 1).cs m0)) C0, .ex (Dm) (fun x34 => .tuple #[.agg (d34.cs x34), .bool true, .nilIface]) C1, .raw, .sto] hs ⟨e1, trivial⟩ (And.intro k0 (fun (w1 : World) (hc0 : C0 w1) => (And.intro (k1 w1 hc0) (fun (x34 : Dm) (w2 : World) (hc1 : C1 x34 w2) => (And.intro (s2 w1 hc0 x34 w2 hc1) (fun a' => hN a' w1 x34 w2 hc0 hc1)))))) (by kernel_rfl)
theorem ln_r8 {gm : Nat} {C0 : World → Prop} {C1 : World → Prop} (hs : Sl 123 a l df) (e1 : l.lookup 1 = some (.pointer (some (⟨gm, 0, none⟩)))) (k0 : Calls Tryd.prog 8 #[.int .i64 2] w fun e w' => e = .returned (.agg ((wholeD 2).cs m0)) ∧ C0 w') (k1 : ∀ (w1 : World), C0 w1 → Calls Tryd.prog 11 #[.pointer (some (⟨gm, 0, none⟩)), .agg ((wholeD 2).cs m0)] w1 fun e w' => e = .returned (.tuple #[.bool true, .nilIface]) ∧ C1 w')
    (hN : ∀ a' (w1 : World) (w2 : World), C0 w1 → C1 w2 → Sl 123 a' ((8, .bool true) :: (9, .nilIface) :: dropL (8 :: 9 :: List.range' 38 6) l) df → N a' w2) : rg Tryd.prog (Exit.then N Q) a w (r_ln 8) :=
  reg (l0 := [(1, .pointer (some (⟨gm, 0, none⟩)))]) [8, 9] (8 :: 9 :: List.range' 38 6) [.ret (.agg ((wholeD 2).cs m0)) C0, .ret (.tuple #[.bool true, .nilIface]) C1] hs ⟨e1, trivial⟩ (And.intro k0 (fun (w1 : World) (hc0 : C0 w1) => (And.intro (k1 w1 hc0) (fun (w2 : World) (hc1 : C1 w2) => (fun a' => hN a' w1 w2 hc0 hc1))))) (by kernel_rfl)
theorem ln_r9 {gm : Nat} {C0 : World → Prop} {dz : Dt} {mz : Dm} {C1 : World → Prop} (hs : Sl 123 a l df) (e1 : l.lookup 1 = some (.pointer (some (⟨gm, 0, none⟩)))) (k0 : Calls Tryd.prog 8 #[.int .i64 2] w fun e w' => e = .returned (.agg ((wholeD 2).cs m0)) ∧ C0 w') (k1 : ∀ (w1 : World), C0 w1 → Calls Tryd.prog 10 #[.pointer (some (⟨gm, 0, none⟩)), .agg ((wholeD 2).cs m0)] w1 fun e w' => e = .returned (.tuple #[.agg (dz.cs mz), .bool false, .nilIface]) ∧ C1 w') (s2 : ∀ (w1 : World), C0 w1 → ∀ (w2 : World), C1 w2 → (Instr.storeAt 31 (.pointer (some (⟨w2.heap.size, 0, none⟩))) (.agg (dz.cs mz))).run Tryd.prog (w2.alloc (.cells #[.int .i64 0, .string (⟨#[]⟩), .int .i64 0, .int .u64 0, .string (⟨#[]⟩), .int .i64 0, .int .i64 0, .int .i64 0, .int .i64 0, .slice none 0 0, .slice none 0 0] 31)) = .ok () ((w2.alloc (.cells #[.int .i64 0, .string (⟨#[]⟩), .int .i64 0, .int .u64 0, .string (⟨#[]⟩), .int .i64 0, .int .i64 0, .int .i64 0, .int .i64 0, .slice none 0 0, .slice none 0 0] 31)).setCells w2.heap.size 0 (dz.cs mz).toList))
    (hN : ∀ a' (w1 : World) (w2 : World), C0 w1 → C1 w2 → Sl 123 a' ((11, .bool false) :: (12, .nilIface) :: dropL (10 :: 11 :: 12 :: List.range' 44 7) l) df → N a' ((w2.alloc (.cells #[.int .i64 0, .string (⟨#[]⟩), .int .i64 0, .int .u64 0, .string (⟨#[]⟩), .int .i64 0, .int .i64 0, .int .i64 0, .int .i64 0, .slice none 0 0, .slice none 0 0] 31)).setCells w2.heap.size 0 (dz.cs mz).toList)) : rg Tryd.prog (Exit.then N Q) a w (r_ln 9) :=
  reg (l0 := [(1, .pointer (some (⟨gm, 0, none⟩)))]) [11, 12] (10 :: 11 :: 12 :: List.range' 44 7) [.ret (.agg ((wholeD 2).cs m0)) C0, .ret (.tuple #[.agg (dz.cs mz), .bool false, .nilIface]) C1, .raw, .sto] hs ⟨e1, trivial⟩ (And.intro k0 (fun (w1 : World) (hc0 : C0 w1) => (And.intro (k1 w1 hc0) (fun (w2 : World) (hc1 : C1 w2) => (And.intro (s2 w1 hc0 w2 hc1) (fun a' => hN a' w1 w2 hc0 hc1)))))) (by kernel_rfl)
theorem ln_r10 {gm : Nat} {C0 : World → Prop} {C1 : Nat → World → Prop} (hs : Sl 123 a l df) (e1 : l.lookup 1 = some (.pointer (some (⟨gm, 0, none⟩)))) (k0 : Calls Tryd.prog 8 #[.int .i64 1] w fun e w' => e = .returned (.agg ((wholeD 1).cs m0)) ∧ C0 w') (k1 : ∀ (w1 : World), C0 w1 → Calls Tryd.prog 9 #[.pointer (some (⟨gm, 0, none⟩)), .agg #[.int .i64 5, .string (⟨#[108, 105, 115, 116]⟩), .int .i64 0, .int .u64 0, .string (⟨#[]⟩), .int .i64 0, .int .i64 0, .int .i64 0, .int .i64 0, .slice none 0 0, .slice none 0 0], .agg ((wholeD 1).cs m0)] w1 fun e w' => ∃ x54 : Nat, e = .returned (.iface 68 (.pointer (some ⟨x54, 0, none⟩))) ∧ C1 x54 w')
    (hN : ∀ a' (w1 : World) (x54 : Nat) (w2 : World), C0 w1 → C1 x54 w2 → Sl 123 a' ((13, .iface 68 (.pointer (some ⟨x54, 0, none⟩))) :: dropL [13, 51, 52, 53, 54] l) df → N a' w2) : rg Tryd.prog (Exit.then N Q) a w (r_ln 10) :=
  reg (l0 := [(1, .pointer (some (⟨gm, 0, none⟩)))]) [13] [13, 51, 52, 53, 54] [.raw, .ret (.agg ((wholeD 1).cs m0)) C0, .ex (Nat) (fun x54 => .iface 68 (.pointer (some ⟨x54, 0, none⟩))) C1] hs ⟨e1, trivial⟩ (And.intro k0 (fun (w1 : World) (hc0 : C0 w1) => (And.intro (k1 w1 hc0) (fun (x54 : Nat) (w2 : World) (hc1 : C1 x54 w2) => (fun a' => hN a' w1 x54 w2 hc0 hc1))))) (by kernel_rfl)
theorem ln_r11 {gf : Nat} (hs : Sl 123 a l df) (e13 : l.lookup 13 = some (.iface 68 (.pointer (some ⟨gf, 0, none⟩)))) (i0 : ∀ w, (Instr.typeAssert (.iface 68 (.pointer (some ⟨gf, 0, none⟩))) 34 68 true).run Tryd.prog w = .ok (.tuple #[.pointer (some (⟨gf, 0, none⟩)), .bool true]) w)
    (hN : ∀ a', Sl 123 a' ((14, .pointer (some (⟨gf, 0, none⟩))) :: (15, .bool true) :: dropL [14, 15, 55, 56, 57, 58, 59] l) df → N a' w) : rg Tryd.prog (Exit.then N Q) a w (r_ln 11) :=
  reg (l0 := [(13, .iface 68 (.pointer (some ⟨gf, 0, none⟩)))]) [14, 15] [14, 15, 55, 56, 57, 58, 59] [.val (.tuple #[.pointer (some (⟨gf, 0, none⟩)), .bool true])] hs ⟨e13, trivial⟩ (And.intro (i0 w) (fun a' => hN a')) (by kernel_rfl)
theorem ln_r12_tttt {g5 : Nat} {sv : ByteArray} {gm : Nat} {C0 : World → Prop} {gf : Nat} {w1s : ByteArray} {w2s : ByteArray} {b121 : Bool} (hs : Sl 123 a l df) (e2 : l.lookup 2 = some (.nilIface)) (e3 : l.lookup 3 = some (.nilIface)) (e4 : l.lookup 4 = some (.nilIface)) (e7 : l.lookup 7 = some (.nilIface)) (e9 : l.lookup 9 = some (.nilIface)) (e12 : l.lookup 12 = some (.nilIface)) (e6 : l.lookup 6 = some (.bool true)) (e5 : l.lookup 5 = some (.pointer (some (⟨g5, 0, none⟩)))) (e8 : l.lookup 8 = some (.bool true)) (e11 : l.lookup 11 = some (.bool false)) (e1 : l.lookup 1 = some (.pointer (some (⟨gm, 0, none⟩)))) (e15 : l.lookup 15 = some (.bool true)) (e14 : l.lookup 14 = some (.pointer (some (⟨gf, 0, none⟩)))) (l0 : Lds Tryd.prog 9 (.pointer (some (⟨g5, 4, none⟩))) (.string sv) w) (h1 : decide (sv = (⟨#[99]⟩)) = true) (k2 : Calls Tryd.prog 14 #[.pointer (some (⟨gm, 0, none⟩))] w fun e w' => e = .returned (.int .i64 1) ∧ C0 w') (h3 : ∀ w, (binOp .eql 3 (.int .i64 1) (.int .i64 1)).run Tryd.prog w = .ok (.bool true) w) (h4 : ∀ w, (binOp .neq 68 (.pointer (some (⟨gf, 0, none⟩))) (.pointer none)).run Tryd.prog w = .ok (.bool true) w) (l5 : ∀ (w1 : World), C0 w1 → Lds Tryd.prog 9 (.pointer (some (⟨gf, 0, none⟩))) (.string w1s) w1) (h6 : decide (w1s = (⟨#[107, 101, 121]⟩)) = true) (l7 : ∀ (w1 : World), C0 w1 → Lds Tryd.prog 9 (.pointer (some (⟨gf, 1, none⟩))) (.string w2s) w1) (h8 : decide (w2s = (⟨#[108, 105, 115, 116]⟩)) = b121)
    (hN : ∀ a' (w1 : World), C0 w1 → Sl 123 a' ((0, .bool b121) :: dropL (0 :: List.range' 60 63) l) df → N a' w1) : rg Tryd.prog (Exit.then N Q) a w (r_ln 12) :=
  reg (l0 := [(2, .nilIface), (3, .nilIface), (4, .nilIface), (7, .nilIface), (9, .nilIface), (12, .nilIface), (6, .bool true), (5, .pointer (some (⟨g5, 0, none⟩))), (8, .bool true), (11, .bool false), (1, .pointer (some (⟨gm, 0, none⟩))), (15, .bool true), (14, .pointer (some (⟨gf, 0, none⟩)))]) [0] (0 :: List.range' 60 63) [.raw, .raw, .raw, .raw, .raw, .raw, .val (.string sv), .bit true, .ret (.int .i64 1) C0, .bin (.bool true), .bin (.bool true), .val (.string w1s), .bit true, .val (.string w2s), .bit b121] hs ⟨e2, e3, e4, e7, e9, e12, e6, e5, e8, e11, e1, e15, e14, trivial⟩ (And.intro (l0).run (And.intro h1 (And.intro k2 (fun (w1 : World) (hc0 : C0 w1) => (And.intro (bin_run (x := .tmp 99) (y := .const (.int .i64 1)) (by kernel_rfl) (h3 w1)) (And.intro (bin_run (x := .tmp 106) (y := .const (.pointer none)) (by kernel_rfl) (h4 w1)) (And.intro (l5 w1 hc0).run (And.intro h6 (And.intro (l7 w1 hc0).run (And.intro h8 (fun a' => hN a' w1 hc0))))))))))) (by kernel_rfl)
theorem ln_r12_tttf {g5 : Nat} {sv : ByteArray} {gm : Nat} {C0 : World → Prop} {gf : Nat} {w1s : ByteArray} (hs : Sl 123 a l df) (e2 : l.lookup 2 = some (.nilIface)) (e3 : l.lookup 3 = some (.nilIface)) (e4 : l.lookup 4 = some (.nilIface)) (e7 : l.lookup 7 = some (.nilIface)) (e9 : l.lookup 9 = some (.nilIface)) (e12 : l.lookup 12 = some (.nilIface)) (e6 : l.lookup 6 = some (.bool true)) (e5 : l.lookup 5 = some (.pointer (some (⟨g5, 0, none⟩)))) (e8 : l.lookup 8 = some (.bool true)) (e11 : l.lookup 11 = some (.bool false)) (e1 : l.lookup 1 = some (.pointer (some (⟨gm, 0, none⟩)))) (e15 : l.lookup 15 = some (.bool true)) (e14 : l.lookup 14 = some (.pointer (some (⟨gf, 0, none⟩)))) (l0 : Lds Tryd.prog 9 (.pointer (some (⟨g5, 4, none⟩))) (.string sv) w) (h1 : decide (sv = (⟨#[99]⟩)) = true) (k2 : Calls Tryd.prog 14 #[.pointer (some (⟨gm, 0, none⟩))] w fun e w' => e = .returned (.int .i64 1) ∧ C0 w') (h3 : ∀ w, (binOp .eql 3 (.int .i64 1) (.int .i64 1)).run Tryd.prog w = .ok (.bool true) w) (h4 : ∀ w, (binOp .neq 68 (.pointer (some (⟨gf, 0, none⟩))) (.pointer none)).run Tryd.prog w = .ok (.bool true) w) (l5 : ∀ (w1 : World), C0 w1 → Lds Tryd.prog 9 (.pointer (some (⟨gf, 0, none⟩))) (.string w1s) w1) (h6 : decide (w1s = (⟨#[107, 101, 121]⟩)) = false)
    (hN : ∀ a' (w1 : World), C0 w1 → Sl 123 a' ((0, .bool false) :: dropL (0 :: List.range' 60 63) l) df → N a' w1) : rg Tryd.prog (Exit.then N Q) a w (r_ln 12) :=
  reg (l0 := [(2, .nilIface), (3, .nilIface), (4, .nilIface), (7, .nilIface), (9, .nilIface), (12, .nilIface), (6, .bool true), (5, .pointer (some (⟨g5, 0, none⟩))), (8, .bool true), (11, .bool false), (1, .pointer (some (⟨gm, 0, none⟩))), (15, .bool true), (14, .pointer (some (⟨gf, 0, none⟩)))]) [0] (0 :: List.range' 60 63) [.raw, .raw, .raw, .raw, .raw, .raw, .val (.string sv), .bit true, .ret (.int .i64 1) C0, .bin (.bool true), .bin (.bool true), .val (.string w1s), .bit false] hs ⟨e2, e3, e4, e7, e9, e12, e6, e5, e8, e11, e1, e15, e14, trivial⟩ (And.intro (l0).run (And.intro h1 (And.intro k2 (fun (w1 : World) (hc0 : C0 w1) => (And.intro (bin_run (x := .tmp 99) (y := .const (.int .i64 1)) (by kernel_rfl) (h3 w1)) (And.intro (bin_run (x := .tmp 106) (y := .const (.pointer none)) (by kernel_rfl) (h4 w1)) (And.intro (l5 w1 hc0).run (And.intro h6 (fun a' => hN a' w1 hc0))))))))) (by kernel_rfl)
theorem ln_r12_ttf {g5 : Nat} {sv : ByteArray} {gm : Nat} {C0 : World → Prop} {gf : Nat} (hs : Sl 123 a l df) (e2 : l.lookup 2 = some (.nilIface)) (e3 : l.lookup 3 = some (.nilIface)) (e4 : l.lookup 4 = some (.nilIface)) (e7 : l.lookup 7 = some (.nilIface)) (e9 : l.lookup 9 = some (.nilIface)) (e12 : l.lookup 12 = some (.nilIface)) (e6 : l.lookup 6 = some (.bool true)) (e5 : l.lookup 5 = some (.pointer (some (⟨g5, 0, none⟩)))) (e8 : l.lookup 8 = some (.bool true)) (e11 : l.lookup 11 = some (.bool false)) (e1 : l.lookup 1 = some (.pointer (some (⟨gm, 0, none⟩)))) (e15 : l.lookup 15 = some (.bool true)) (e14 : l.lookup 14 = some (.pointer (some (⟨gf, 0, none⟩)))) (l0 : Lds Tryd.prog 9 (.pointer (some (⟨g5, 4, none⟩))) (.string sv) w) (h1 : decide (sv = (⟨#[99]⟩)) = true) (k2 : Calls Tryd.prog 14 #[.pointer (some (⟨gm, 0, none⟩))] w fun e w' => e = .returned (.int .i64 1) ∧ C0 w') (h3 : ∀ w, (binOp .eql 3 (.int .i64 1) (.int .i64 1)).run Tryd.prog w = .ok (.bool true) w) (h4 : ∀ w, (binOp .neq 68 (.pointer (some (⟨gf, 0, none⟩))) (.pointer none)).run Tryd.prog w = .ok (.bool false) w)
    (hN : ∀ a' (w1 : World), C0 w1 → Sl 123 a' ((0, .bool false) :: dropL (0 :: List.range' 60 63) l) df → N a' w1) : rg Tryd.prog (Exit.then N Q) a w (r_ln 12) :=
  reg (l0 := [(2, .nilIface), (3, .nilIface), (4, .nilIface), (7, .nilIface), (9, .nilIface), (12, .nilIface), (6, .bool true), (5, .pointer (some (⟨g5, 0, none⟩))), (8, .bool true), (11, .bool false), (1, .pointer (some (⟨gm, 0, none⟩))), (15, .bool true), (14, .pointer (some (⟨gf, 0, none⟩)))]) [0] (0 :: List.range' 60 63) [.raw, .raw, .raw, .raw, .raw, .raw, .val (.string sv), .bit true, .ret (.int .i64 1) C0, .bin (.bool true), .bin (.bool false)] hs ⟨e2, e3, e4, e7, e9, e12, e6, e5, e8, e11, e1, e15, e14, trivial⟩ (And.intro (l0).run (And.intro h1 (And.intro k2 (fun (w1 : World) (hc0 : C0 w1) => (And.intro (bin_run (x := .tmp 99) (y := .const (.int .i64 1)) (by kernel_rfl) (h3 w1)) (And.intro (bin_run (x := .tmp 106) (y := .const (.pointer none)) (by kernel_rfl) (h4 w1)) (fun a' => hN a' w1 hc0))))))) (by kernel_rfl)
theorem ln_r12_tf {g5 : Nat} {sv : ByteArray} {gm : Nat} {C0 : World → Prop} (hs : Sl 123 a l df) (e2 : l.lookup 2 = some (.nilIface)) (e3 : l.lookup 3 = some (.nilIface)) (e4 : l.lookup 4 = some (.nilIface)) (e7 : l.lookup 7 = some (.nilIface)) (e9 : l.lookup 9 = some (.nilIface)) (e12 : l.lookup 12 = some (.nilIface)) (e6 : l.lookup 6 = some (.bool true)) (e5 : l.lookup 5 = some (.pointer (some (⟨g5, 0, none⟩)))) (e8 : l.lookup 8 = some (.bool true)) (e11 : l.lookup 11 = some (.bool false)) (e1 : l.lookup 1 = some (.pointer (some (⟨gm, 0, none⟩)))) (l0 : Lds Tryd.prog 9 (.pointer (some (⟨g5, 4, none⟩))) (.string sv) w) (h1 : decide (sv = (⟨#[99]⟩)) = true) (k2 : Calls Tryd.prog 14 #[.pointer (some (⟨gm, 0, none⟩))] w fun e w' => e = .returned (.int .i64 1) ∧ C0 w') (h3 : ∀ w, (binOp .eql 3 (.int .i64 1) (.int .i64 1)).run Tryd.prog w = .ok (.bool false) w)
    (hN : ∀ a' (w1 : World), C0 w1 → Sl 123 a' ((0, .bool false) :: dropL (0 :: List.range' 60 63) l) df → N a' w1) : rg Tryd.prog (Exit.then N Q) a w (r_ln 12) :=
  reg (l0 := [(2, .nilIface), (3, .nilIface), (4, .nilIface), (7, .nilIface), (9, .nilIface), (12, .nilIface), (6, .bool true), (5, .pointer (some (⟨g5, 0, none⟩))), (8, .bool true), (11, .bool false), (1, .pointer (some (⟨gm, 0, none⟩)))]) [0] (0 :: List.range' 60 63) [.raw, .raw, .raw, .raw, .raw, .raw, .val (.string sv), .bit true, .ret (.int .i64 1) C0, .bin (.bool false)] hs ⟨e2, e3, e4, e7, e9, e12, e6, e5, e8, e11, e1, trivial⟩ (And.intro (l0).run (And.intro h1 (And.intro k2 (fun (w1 : World) (hc0 : C0 w1) => (And.intro (bin_run (x := .tmp 99) (y := .const (.int .i64 1)) (by kernel_rfl) (h3 w1)) (fun a' => hN a' w1 hc0)))))) (by kernel_rfl)
theorem ln_r12_f {g5 : Nat} {sv : ByteArray} (hs : Sl 123 a l df) (e2 : l.lookup 2 = some (.nilIface)) (e3 : l.lookup 3 = some (.nilIface)) (e4 : l.lookup 4 = some (.nilIface)) (e7 : l.lookup 7 = some (.nilIface)) (e9 : l.lookup 9 = some (.nilIface)) (e12 : l.lookup 12 = some (.nilIface)) (e6 : l.lookup 6 = some (.bool true)) (e5 : l.lookup 5 = some (.pointer (some (⟨g5, 0, none⟩)))) (l0 : Lds Tryd.prog 9 (.pointer (some (⟨g5, 4, none⟩))) (.string sv) w) (h1 : decide (sv = (⟨#[99]⟩)) = false)
    (hN : ∀ a', Sl 123 a' ((0, .bool false) :: dropL (0 :: List.range' 60 63) l) df → N a' w) : rg Tryd.prog (Exit.then N Q) a w (r_ln 12) :=
  reg (l0 := [(2, .nilIface), (3, .nilIface), (4, .nilIface), (7, .nilIface), (9, .nilIface), (12, .nilIface), (6, .bool true), (5, .pointer (some (⟨g5, 0, none⟩)))]) [0] (0 :: List.range' 60 63) [.raw, .raw, .raw, .raw, .raw, .raw, .val (.string sv), .bit false] hs ⟨e2, e3, e4, e7, e9, e12, e6, e5, trivial⟩ (And.intro (l0).run (And.intro h1 (fun a' => hN a'))) (by kernel_rfl)
end Go.Proofs.YtlhfickniegooaaDoor

namespace Go.Proofs.YtlhfickniegooaaDoor
open Go.RowKit
set_option maxRecDepth 100000

/-- An entry with another value, if it is the one at g. -/
def svE (g : Nat) (v : Dt) (e : En) : En := if e.g = g then ⟨e.g, e.key, v, e.hash, e.own⟩ else e
theorem svE_g (g : Nat) (v : Dt) (e : En) : (svE g v e).g = e.g := by unfold svE; split <;> rfl
theorem svE_key (g : Nat) (v : Dt) (e : En) : (svE g v e).key = e.key := by unfold svE; split <;> rfl
theorem svE_hash (g : Nat) (v : Dt) (e : En) : (svE g v e).hash = e.hash := by unfold svE; split <;> rfl
theorem svE_own (g : Nat) (v : Dt) (e : En) : (svE g v e).own = e.own := by unfold svE; split <;> rfl
theorem svE_gs (g : Nat) (v : Dt) (R : List En) : (R.map (svE g v)).map (·.g) = R.map (·.g) := by
  rw [List.map_map]
  exact List.map_congr_left fun e _ => svE_g g v e
theorem pO_map {f : En → En} (hf : ∀ e, (f e).g = e.g) (o : Option En) : pO (o.map f) = pO o := by
  cases o with
  | none => rfl
  | some e => simp [pO, En.p, hf]
theorem pO_find {f : En → En} (hf : ∀ e, (f e).g = e.g) {p : En → Bool} (hp : ∀ e, p (f e) = p e) (R : List En) : pO ((R.map f).find? p) = pO (R.find? p) := by
  rw [List.find?_map, show p ∘ f = p from funext hp]
  exact pO_map hf _
theorem pO_head {f : En → En} (hf : ∀ e, (f e).g = e.g) (R : List En) : pO (R.map f).head? = pO R.head? := by rw [List.head?_map]; exact pO_map hf _
theorem pO_last {f : En → En} (hf : ∀ e, (f e).g = e.g) (R : List En) : pO (R.map f).getLast? = pO R.getLast? := by rw [List.getLast?_map]; exact pO_map hf _
theorem Links.sv {n : Nat} {R : List En} {N B A : Nat → Option Addr} (h : Links n R N B A) (g : Nat) (v : Dt) : Links n (R.map (svE g v)) N B A := by
  intro X e Z hX
  obtain ⟨X1, Y1, rfl, rfl, hY⟩ := List.map_eq_append_iff.1 hX
  obtain ⟨e1, Z1, rfl, rfl, rfl⟩ := List.map_eq_cons_iff.1 hY
  obtain ⟨h1, h2, h3⟩ := h X1 e1 Z1 rfl
  rw [svE_g, svE_hash, pO_find (svE_g g v) (fun e => by unfold bkB; rw [svE_hash]), pO_head (svE_g g v), pO_last (svE_g g v)]
  exact ⟨h1, h2, h3⟩
theorem HeadsOk.sv {n : Nat} {R : List En} {H : Nat → Option Addr} (h : HeadsOk n R H) (g : Nat) (v : Dt) : HeadsOk n (R.map (svE g v)) H := fun i hi => by
  rw [pO_find (svE_g g v) (fun e => by rw [svE_hash])]
  exact h i hi
theorem KeysOk.sv {R : List En} (h : KeysOk R) (g : Nat) (v : Dt) : KeysOk (R.map (svE g v)) :=
  ⟨fun e he => by
    obtain ⟨x, hx, rfl⟩ := List.mem_map.1 he
    rw [svE_key]; exact h.right x hx,
   fun e he => by
    obtain ⟨x, hx, rfl⟩ := List.mem_map.1 he
    rw [svE_hash, svE_own, svE_key]; exact h.num x hx⟩
section
variable {w w' : World} {m hb n : Nat} {fr tx : Option Addr} {many : Int} {H N B A : Nat → Option Addr} {R : List En} {D : Nat → Prop}
theorem Raw.setVal (h : Raw w m hb n fr tx many H N B A R D) {x : En} (hx : x ∈ R) {v : Dt} {mv : Dm} (hv : v.at w D mv) (hvo : v.ok) : Raw (w.setCells x.g 11 (v.cs mv).toList) m hb n fr tx many H N B A (R.map (svE x.g v)) D where
  map := let ⟨cs, h1, h2⟩ := h.map; ⟨cs, Blk.farL (Ne.symm (h.far x hx).1) _ _ _ h1, h2⟩
  heads := let ⟨t, hs, h1, h2⟩ := h.heads; ⟨t, hs, Blk.farL (Ne.symm (h.far x hx).2) _ _ _ h1, h2⟩
  ent := fun e he => by
    obtain ⟨y, hy, rfl⟩ := List.mem_map.1 he
    obtain ⟨mk, m0, h1, h2, h3⟩ := h.ent y hy
    rw [svE_g, svE_key]
    unfold svE
    by_cases q : y.g = x.g
    · obtain rfl := nd_eq h.nd hy hx q
      rw [if_pos rfl]
      refine ⟨mk, mv, ?_, dat_far _ 11 h2 (h.out.2.2 y hx), dat_far _ 11 hv (h.out.2.2 y hx)⟩
      have e : ((v.cs mv).toList.foldl (fun (p : Array Value × Nat) v => (p.1.setIfInBounds p.2 v, p.2 + 1)) (y.cs mk m0 (N y.g) (B y.g) (A y.g), 11)).1 = En.cs ⟨y.g, y.key, v, y.hash, y.own⟩ mk mv (N y.g) (B y.g) (A y.g) := by kernel_rfl
      have h4 := Blk.setL (v.cs mv).toList 11 _ _ h1
      rw [e] at h4
      exact h4
    · rw [if_neg q]
      exact ⟨mk, m0, Blk.farL q _ _ _ h1, dat_far _ 11 h2 (h.out.2.2 x hx), dat_far _ 11 h3 (h.out.2.2 x hx)⟩
  nd := by rw [svE_gs]; exact h.nd
  far := fun e he => by
    obtain ⟨y, hy, rfl⟩ := List.mem_map.1 he
    rw [svE_g]; exact h.far y hy
  out := ⟨h.out.1, h.out.2.1, fun e he => by
    obtain ⟨y, hy, rfl⟩ := List.mem_map.1 he
    rw [svE_g]; exact h.out.2.2 y hy⟩
  ok := fun e he => by
    obtain ⟨y, hy, rfl⟩ := List.mem_map.1 he
    rw [svE_key, svE_hash]
    obtain ⟨h1, h2, h3⟩ := h.ok y hy
    refine ⟨h1, ?_, h3⟩
    unfold svE
    split
    · exact hvo
    · exact h2
  dlt := fun b hd => by rw [setCells_size']; exact h.dlt b hd
end
theorem NOk.other {n : Nat} {R : List En} {N : Nat → Option Addr} (h : NOk n R N) {g : Nat} (hg : ∀ x ∈ R, x.g ≠ g) (p : Option Addr) : NOk n R (upd N g p) := fun X e Z hX => by
  rw [upd_ne (hg e (by rw [hX]; simp))]
  exact h X e Z hX
theorem Links.nok {n : Nat} {R : List En} {N B A : Nat → Option Addr} (h : Links n R N B A) : NOk n R N := fun X e Z hX => (h X e Z hX).1
/-- Whom the newest entry stands behind. -/
def upH (R : List En) (A : Nat → Option Addr) (p : Addr) : Nat → Option Addr := match R with
  | [] => A
  | r :: _ => upd A r.g (some p)
/-- The pointers once an entry is put behind all others. -/
theorem Links.push {n : Nat} {R : List En} {N0 B0 A0 N' B A : Nat → Option Addr} {e : En} (h : Links n R N0 B0 A0) (hnd : ((e :: R).map (·.g)).Nodup) (hN : NOk n (e :: R) N') (hB : B = upd B0 e.g (pO R.head?)) (hA : A = upH R (upd A0 e.g none) e.p) : Links n (e :: R) N' B A := by
  subst hB hA
  have hnd' := hnd
  rw [List.map_cons, List.nodup_cons] at hnd
  have hne : ∀ x ∈ R, x.g ≠ e.g := fun x hx q => hnd.1 (List.mem_map.2 ⟨x, hx, q⟩)
  intro X x Z hX
  refine ⟨hN X x Z hX, ?_⟩
  cases X with
  | nil =>
    injection hX with h1 h2
    subst h1 h2
    refine ⟨upd_same _ _ _, ?_⟩
    unfold upH
    cases R with
    | nil => exact upd_same _ _ _
    | cons r R =>
      show Go.Proofs.YtlhfickniegooaaDoor.upd _ r.g _ e.g = _
      rw [upd_ne (Ne.symm (hne r (by simp)))]
      exact upd_same _ _ _
  | cons y X =>
    injection hX with h1 h2
    subst h1
    have hx : x ∈ R := by rw [h2]; simp
    obtain ⟨_, q2, q3⟩ := h X x Z h2
    refine ⟨(upd_ne (hne x hx)).trans q2, ?_⟩
    cases R with
    | nil => cases hx
    | cons r R =>
      show Go.Proofs.YtlhfickniegooaaDoor.upd _ r.g _ x.g = _
      cases X with
      | nil =>
        injection h2 with h3 _
        subst h3
        exact upd_same _ _ _
      | cons y X =>
        injection h2 with h3 h4
        subst h3
        have hxr : x.g ≠ r.g := by
          rw [List.map_cons, List.nodup_cons] at hnd
          exact fun q => hnd.2.1 (List.mem_map.2 ⟨x, by rw [h4]; exact List.mem_append_right _ List.mem_cons_self, q⟩)
        rw [upd_ne hxr, upd_ne (hne x hx), q3]
        show _ = pO (e :: r :: X).getLast?
        rw [List.getLast?_cons_cons]
theorem KeysOk.push {R : List En} (h : KeysOk R) {e : En} (hr : rB e.key = true) (hk : kB e.key = true) (hh : e.hash = hV e.key) (ho : e.own = eqO e.key e.key) : KeysOk (e :: R) :=
  ⟨fun x hx => by
    rcases List.mem_cons.1 hx with rfl | hx
    · exact ⟨hr, hk⟩
    · exact h.right x hx,
   fun x hx => by
    rcases List.mem_cons.1 hx with rfl | hx
    · exact ⟨hh, ho⟩
    · exact h.num x hx⟩
theorem pO_last_push (e : En) (R : List En) : pO (e :: R).getLast? = match R with | [] => some e.p | _ => pO R.getLast? := by
  cases R with
  | nil => rfl
  | cons r R => rw [List.getLast?_cons_cons]
/-- More than before, and only what is new. -/
def Grew (w : World) (D D' : Nat → Prop) : Prop := (∀ b, D b → D' b) ∧ ∀ b, D' b → D b ∨ w.heap.size ≤ b
theorem Grew.refl (w : World) (D : Nat → Prop) : Grew w D D := ⟨fun _ h => h, fun _ h => .inl h⟩
/-- The map afterwards. -/
def PutOk (w w' : World) (m : Nat) (R' : List En) (D O : Nat → Prop) : Prop := ∃ D' O', MapAt w' m R' D' O' ∧ Moved O w w' ∧ Grew w D D' ∧ Grew w O O'
def PutNew (R : List En) (k v : Dt) (R' : List En) : Prop := match fE R k with
  | some x => R' = R.map (svE x.g v)
  | none => ∃ g, R' = ⟨g, k, v, hV k, eqO k k⟩ :: R
def PutR (m : Nat) (R : List En) (D O : Nat → Prop) (k v : Dt) (w : World) (e : Ending) (w' : World) : Prop :=
  if (rB k && rB v) = false then Below w.heap.size w w' ∧ ∃ x, e = .returned x ∧ WrongAt w w' x
  else if kB k = false then Below w.heap.size w w' ∧ ∃ x, e = .returned x ∧ FaultAt w w' x keyW (heldS k.h k.k)
  else e = .returned .nilIface ∧ ∃ R', PutNew R k v R' ∧ PutOk w w' m R' D O
theorem OwnAt.moved {w w' : World} {O : Nat → Prop} (h : OwnAt w) (hM : Moved O w w') (h0 : ¬ O 0) (hz : 0 < w.heap.size) : OwnAt w' := fun j s hj => by
  have := h j s hj
  unfold World.cell? at this ⊢
  rw [hM.block 0 hz h0]
  exact this
theorem Blk.moved {w w' : World} {O : Nat → Prop} {g : Nat} {t : TypeId} {cs : Array Value} (h : Blk w g t cs) (hM : Moved O w w') (h0 : ¬ O g) : Blk w' g t cs := (hM.block g h.lt h0).trans h
theorem Dt.at.moved {w w' : World} {O S : Nat → Prop} {d : Dt} {m : Dm} (h : d.at w S m) (hM : Moved O w w') (h0 : ∀ b, S b → b < w.heap.size → ¬ O b) : d.at w' S m := h.keep (fun b hb hl => hM.block b hl (h0 b hb hl)) (fun _ h _ => h)
end Go.Proofs.YtlhfickniegooaaDoor
