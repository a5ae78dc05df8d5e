/-
  The regions of LexScans. The law LexScans: whatever the text, the two readers say the same. Written by an AI agent.
-/
import Derived.Test.YtpggcmlddmckcaaDoorGv
import Derived.Test.YtpggcmlddmckcaaDoorSn2
import Derived.Test.YtpggcmlddmckcaaDoorKn2
import Derived.Test.YtpggcmlddmckcaaDoorCo
namespace Go.Proofs.YtpggcmlddmckcaaDoor
open Go.RowKit Go.Sort
set_option maxRecDepth 100000
variable {a : Act} {w : World} {N : Act → World → Prop} {Q : Exit → Act → World → Prop} {l : List (Nat × Value)}
noncomputable def r_sn (n : Nat) : Code := ((Tryd.f3.body.bind (findR n)).getD .skip)
noncomputable def snBody : Code := (.seq (r_sn 0) (.seq (r_sn 1) (.seq (r_sn 2) (.seq (r_sn 3) (.seq (r_sn 4) (.seq (r_sn 5) (.seq (r_sn 6) (.seq (r_sn 7) (.seq (r_sn 8) (.seq (r_sn 9) (.seq (r_sn 10) (.seq (r_sn 11) (.seq (r_sn 12) (.seq (r_sn 13) (.seq (r_sn 14) .ret)))))))))))))))
theorem sn_body : Tryd.f3.body = some snBody := by kernel_rfl
theorem sn_r0 (hs : Sl 91 a l)
    (hN : ∀ a', Sl 91 a' ((2, .bool false) :: dropL [2] l) → N a' w) : (r_sn 0).wp Tryd.prog (Exit.then N Q) a w :=
  reg (l0 := []) [2] [2] [] hs trivial (fun a' => hN a') (by kernel_rfl)
theorem sn_r1 {b20 : Bool} {C0 : World → Prop} (hs : Sl 91 a l) (k0 : Calls Tryd.prog 10 #[] w fun e w' => e = .returned (.bool b20) ∧ C0 w')
    (hN : ∀ a' (w1 : World), C0 w1 → Sl 91 a' ((3, .bool b20) :: dropL [3, 20] l) → N a' w1) : (r_sn 1).wp Tryd.prog (Exit.then N Q) a w :=
  reg (l0 := []) [3] [3, 20] [.ret (.bool b20) C0] hs trivial (And.intro k0 (fun (w1 : World) (hc0 : C0 w1) => (fun a' => hN a' w1 hc0))) (by kernel_rfl)
theorem sn_r2 {s : ByteArray} {C0 : Value → Value → World → Prop} (hs : Sl 91 a l) (e0 : l.lookup 0 = some (.string s)) (k0 : Calls Tryd.prog 11 #[.string s] w fun e w' => ∃ x23a x23b, e = .returned (.tuple #[x23a, x23b]) ∧ C0 x23a x23b w') (s1 : ∀ (x23a : Value) (x23b : Value) (w1 : World), C0 x23a x23b w1 → (Instr.storeAt 26 (.pointer (some (⟨w1.heap.size, 0, none⟩))) (x23b)).run Tryd.prog (w1.alloc (.cells #[.int .i64 0, .int .i64 0, .string (⟨#[]⟩)] 26)) = .ok () ((w1.alloc (.cells #[.int .i64 0, .int .i64 0, .string (⟨#[]⟩)] 26)).setCells w1.heap.size 0 x23b.cells.toList))
    (hN : ∀ a' (x23a : Value) (x23b : Value) (w1 : World), C0 x23a x23b w1 → Sl 91 a' ((4, x23a) :: (5, .pointer (some (⟨w1.heap.size, 0, none⟩))) :: dropL [4, 5, 21, 22, 23, 24, 25] l) → N a' ((w1.alloc (.cells #[.int .i64 0, .int .i64 0, .string (⟨#[]⟩)] 26)).setCells w1.heap.size 0 x23b.cells.toList)) : (r_sn 2).wp Tryd.prog (Exit.then N Q) a w :=
  reg (l0 := [(0, .string s)]) [4, 5] [4, 5, 21, 22, 23, 24, 25] [.con2 C0, .raw, .sto] hs ⟨e0, trivial⟩ (And.intro k0 (fun (x23a : Value) (x23b : Value) (w1 : World) (hc0 : C0 x23a x23b w1) => (And.intro (s1 x23a x23b w1 hc0) (fun a' => hN a' x23a x23b w1 hc0)))) (by kernel_rfl)
theorem sn_r3 {s : ByteArray} {C0 : Value → Value → World → Prop} (hs : Sl 91 a l) (e0 : l.lookup 0 = some (.string s)) (k0 : Calls Tryd.prog 12 #[.string s] w fun e w' => ∃ x28a x28b, e = .returned (.tuple #[x28a, x28b]) ∧ C0 x28a x28b w')
    (hN : ∀ a' (x28a : Value) (x28b : Value) (w1 : World), C0 x28a x28b w1 → Sl 91 a' ((6, x28a) :: (7, x28b) :: dropL [6, 7, 26, 27, 28, 29, 30] l) → N a' w1) : (r_sn 3).wp Tryd.prog (Exit.then N Q) a w :=
  reg (l0 := [(0, .string s)]) [6, 7] [6, 7, 26, 27, 28, 29, 30] [.con2 C0] hs ⟨e0, trivial⟩ (And.intro k0 (fun (x28a : Value) (x28b : Value) (w1 : World) (hc0 : C0 x28a x28b w1) => (fun a' => hN a' x28a x28b w1 hc0))) (by kernel_rfl)
theorem sn_r4 {s : ByteArray} {C0 : Value → Value → World → Prop} (hs : Sl 91 a l) (e0 : l.lookup 0 = some (.string s)) (k0 : Calls Tryd.prog 12 #[.string s] w fun e w' => ∃ x33a x33b, e = .returned (.tuple #[x33a, x33b]) ∧ C0 x33a x33b w')
    (hN : ∀ a' (x33a : Value) (x33b : Value) (w1 : World), C0 x33a x33b w1 → Sl 91 a' ((8, x33a) :: (9, x33b) :: dropL [8, 9, 31, 32, 33, 34, 35] l) → N a' w1) : (r_sn 4).wp Tryd.prog (Exit.then N Q) a w :=
  reg (l0 := [(0, .string s)]) [8, 9] [8, 9, 31, 32, 33, 34, 35] [.con2 C0] hs ⟨e0, trivial⟩ (And.intro k0 (fun (x33a : Value) (x33b : Value) (w1 : World) (hc0 : C0 x33a x33b w1) => (fun a' => hN a' x33a x33b w1 hc0))) (by kernel_rfl)
theorem sn_r5 {va : Value} {vw : Value} {b38 : Bool} {C0 : World → Prop} (hs : Sl 91 a l) (e6 : l.lookup 6 = some (va)) (e4 : l.lookup 4 = some (vw)) (k0 : Calls Tryd.prog 13 #[va, vw] w fun e w' => e = .returned (.bool b38) ∧ C0 w')
    (hN : ∀ a' (w1 : World), C0 w1 → Sl 91 a' ((10, .bool b38) :: dropL [10, 36, 37, 38] l) → N a' w1) : (r_sn 5).wp Tryd.prog (Exit.then N Q) a w :=
  reg (l0 := [(6, va), (4, vw)]) [10] [10, 36, 37, 38] [.ret (.bool b38) C0] hs ⟨e6, e4, trivial⟩ (And.intro k0 (fun (w1 : World) (hc0 : C0 w1) => (fun a' => hN a' w1 hc0))) (by kernel_rfl)
theorem sn_r6 {vb : Value} {vw : Value} {b41 : Bool} {C0 : World → Prop} (hs : Sl 91 a l) (e8 : l.lookup 8 = some (vb)) (e4 : l.lookup 4 = some (vw)) (k0 : Calls Tryd.prog 13 #[vb, vw] w fun e w' => e = .returned (.bool b41) ∧ C0 w')
    (hN : ∀ a' (w1 : World), C0 w1 → Sl 91 a' ((11, .bool b41) :: dropL [11, 39, 40, 41] l) → N a' w1) : (r_sn 6).wp Tryd.prog (Exit.then N Q) a w :=
  reg (l0 := [(8, vb), (4, vw)]) [11] [11, 39, 40, 41] [.ret (.bool b41) C0] hs ⟨e8, e4, trivial⟩ (And.intro k0 (fun (w1 : World) (hc0 : C0 w1) => (fun a' => hN a' w1 hc0))) (by kernel_rfl)
theorem sn_r7 {ea : Value} {g5 : Nat} {c : Int} {p : Int} {x : ByteArray} {b44 : Bool} {C0 : World → Prop} (hs : Sl 91 a l) (e7 : l.lookup 7 = some (ea)) (e5 : l.lookup 5 = some (.pointer (some (⟨g5, 0, none⟩)))) (l0 : Lds Tryd.prog 26 (.pointer (some (⟨g5, 0, none⟩))) (.agg #[.int .i64 c, .int .i64 p, .string x]) w) (k1 : Calls Tryd.prog 14 #[ea, .agg #[.int .i64 c, .int .i64 p, .string x]] w fun e w' => e = .returned (.bool b44) ∧ C0 w')
    (hN : ∀ a' (w1 : World), C0 w1 → Sl 91 a' ((12, .bool b44) :: dropL [12, 42, 43, 44] l) → N a' w1) : (r_sn 7).wp Tryd.prog (Exit.then N Q) a w :=
  reg (l0 := [(7, ea), (5, .pointer (some (⟨g5, 0, none⟩)))]) [12] [12, 42, 43, 44] [.val (.agg #[.int .i64 c, .int .i64 p, .string x]), .ret (.bool b44) C0] hs ⟨e7, e5, trivial⟩ (And.intro (l0).run (And.intro k1 (fun (w1 : World) (hc0 : C0 w1) => (fun a' => hN a' w1 hc0)))) (by kernel_rfl)
theorem sn_r8 {eb : Value} {g5 : Nat} {c : Int} {p : Int} {x : ByteArray} {b47 : Bool} {C0 : World → Prop} (hs : Sl 91 a l) (e9 : l.lookup 9 = some (eb)) (e5 : l.lookup 5 = some (.pointer (some (⟨g5, 0, none⟩)))) (l0 : Lds Tryd.prog 26 (.pointer (some (⟨g5, 0, none⟩))) (.agg #[.int .i64 c, .int .i64 p, .string x]) w) (k1 : Calls Tryd.prog 14 #[eb, .agg #[.int .i64 c, .int .i64 p, .string x]] w fun e w' => e = .returned (.bool b47) ∧ C0 w')
    (hN : ∀ a' (w1 : World), C0 w1 → Sl 91 a' ((13, .bool b47) :: dropL [13, 45, 46, 47] l) → N a' w1) : (r_sn 8).wp Tryd.prog (Exit.then N Q) a w :=
  reg (l0 := [(9, eb), (5, .pointer (some (⟨g5, 0, none⟩)))]) [13] [13, 45, 46, 47] [.val (.agg #[.int .i64 c, .int .i64 p, .string x]), .ret (.bool b47) C0] hs ⟨e9, e5, trivial⟩ (And.intro (l0).run (And.intro k1 (fun (w1 : World) (hc0 : C0 w1) => (fun a' => hN a' w1 hc0)))) (by kernel_rfl)
theorem sn_r9 {ea : Value} {eb : Value} {b50 : Bool} {C0 : World → Prop} (hs : Sl 91 a l) (e7 : l.lookup 7 = some (ea)) (e9 : l.lookup 9 = some (eb)) (k0 : Calls Tryd.prog 15 #[ea, eb] w fun e w' => e = .returned (.bool b50) ∧ C0 w')
    (hN : ∀ a' (w1 : World), C0 w1 → Sl 91 a' ((14, .bool b50) :: dropL [14, 48, 49, 50] l) → N a' w1) : (r_sn 9).wp Tryd.prog (Exit.then N Q) a w :=
  reg (l0 := [(7, ea), (9, eb)]) [14] [14, 48, 49, 50] [.ret (.bool b50) C0] hs ⟨e7, e9, trivial⟩ (And.intro k0 (fun (w1 : World) (hc0 : C0 w1) => (fun a' => hN a' w1 hc0))) (by kernel_rfl)
theorem sn_r10 {va : Value} {vb : Value} {vw : Value} {b54 : Bool} {C0 : World → Prop} (hs : Sl 91 a l) (e6 : l.lookup 6 = some (va)) (e8 : l.lookup 8 = some (vb)) (e4 : l.lookup 4 = some (vw)) (k0 : Calls Tryd.prog 16 #[va, vb, vw] w fun e w' => e = .returned (.bool b54) ∧ C0 w')
    (hN : ∀ a' (w1 : World), C0 w1 → Sl 91 a' ((15, .bool b54) :: dropL [15, 51, 52, 53, 54] l) → N a' w1) : (r_sn 10).wp Tryd.prog (Exit.then N Q) a w :=
  reg (l0 := [(6, va), (8, vb), (4, vw)]) [15] [15, 51, 52, 53, 54] [.ret (.bool b54) C0] hs ⟨e6, e8, e4, trivial⟩ (And.intro k0 (fun (w1 : World) (hc0 : C0 w1) => (fun a' => hN a' w1 hc0))) (by kernel_rfl)
theorem sn_r11 {s : ByteArray} {C0 : Value → Value → World → Prop} (hs : Sl 91 a l) (e0 : l.lookup 0 = some (.string s)) (k0 : Calls Tryd.prog 12 #[.string s] w fun e w' => ∃ x57a x57b, e = .returned (.tuple #[x57a, x57b]) ∧ C0 x57a x57b w')
    (hN : ∀ a' (x57a : Value) (x57b : Value) (w1 : World), C0 x57a x57b w1 → Sl 91 a' ((16, x57a) :: (17, x57b) :: dropL [16, 17, 55, 56, 57, 58, 59] l) → N a' w1) : (r_sn 11).wp Tryd.prog (Exit.then N Q) a w :=
  reg (l0 := [(0, .string s)]) [16, 17] [16, 17, 55, 56, 57, 58, 59] [.con2 C0] hs ⟨e0, trivial⟩ (And.intro k0 (fun (x57a : Value) (x57b : Value) (w1 : World) (hc0 : C0 x57a x57b w1) => (fun a' => hN a' x57a x57b w1 hc0))) (by kernel_rfl)
theorem sn_r12 {vc : Value} {vw : Value} {b62 : Bool} {C0 : World → Prop} (hs : Sl 91 a l) (e16 : l.lookup 16 = some (vc)) (e4 : l.lookup 4 = some (vw)) (k0 : Calls Tryd.prog 13 #[vc, vw] w fun e w' => e = .returned (.bool b62) ∧ C0 w')
    (hN : ∀ a' (w1 : World), C0 w1 → Sl 91 a' ((18, .bool b62) :: dropL [18, 60, 61, 62] l) → N a' w1) : (r_sn 12).wp Tryd.prog (Exit.then N Q) a w :=
  reg (l0 := [(16, vc), (4, vw)]) [18] [18, 60, 61, 62] [.ret (.bool b62) C0] hs ⟨e16, e4, trivial⟩ (And.intro k0 (fun (w1 : World) (hc0 : C0 w1) => (fun a' => hN a' w1 hc0))) (by kernel_rfl)
theorem sn_r13 {ec : Value} {g5 : Nat} {c : Int} {p : Int} {x : ByteArray} {b65 : Bool} {C0 : World → Prop} (hs : Sl 91 a l) (e17 : l.lookup 17 = some (ec)) (e5 : l.lookup 5 = some (.pointer (some (⟨g5, 0, none⟩)))) (l0 : Lds Tryd.prog 26 (.pointer (some (⟨g5, 0, none⟩))) (.agg #[.int .i64 c, .int .i64 p, .string x]) w) (k1 : Calls Tryd.prog 14 #[ec, .agg #[.int .i64 c, .int .i64 p, .string x]] w fun e w' => e = .returned (.bool b65) ∧ C0 w')
    (hN : ∀ a' (w1 : World), C0 w1 → Sl 91 a' ((19, .bool b65) :: dropL [19, 63, 64, 65] l) → N a' w1) : (r_sn 13).wp Tryd.prog (Exit.then N Q) a w :=
  reg (l0 := [(17, ec), (5, .pointer (some (⟨g5, 0, none⟩)))]) [19] [19, 63, 64, 65] [.val (.agg #[.int .i64 c, .int .i64 p, .string x]), .ret (.bool b65) C0] hs ⟨e17, e5, trivial⟩ (And.intro (l0).run (And.intro k1 (fun (w1 : World) (hc0 : C0 w1) => (fun a' => hN a' w1 hc0)))) (by kernel_rfl)
theorem sn_r14 (hs : Sl 91 a l) (e3 : l.lookup 3 = some (.bool true)) (e10 : l.lookup 10 = some (.bool true)) (e11 : l.lookup 11 = some (.bool true)) (e12 : l.lookup 12 = some (.bool true)) (e13 : l.lookup 13 = some (.bool true)) (e14 : l.lookup 14 = some (.bool true)) (e15 : l.lookup 15 = some (.bool true)) (e18 : l.lookup 18 = some (.bool true)) (e19 : l.lookup 19 = some (.bool true))
    (hN : ∀ a', Sl 91 a' ((2, .bool true) :: dropL (2 :: List.range' 66 25) l) → N a' w) : (r_sn 14).wp Tryd.prog (Exit.then N Q) a w :=
  reg (l0 := [(3, .bool true), (10, .bool true), (11, .bool true), (12, .bool true), (13, .bool true), (14, .bool true), (15, .bool true), (18, .bool true), (19, .bool true)]) [2] (2 :: List.range' 66 25) [] hs ⟨e3, e10, e11, e12, e13, e14, e15, e18, e19, trivial⟩ (fun a' => hN a') (by kernel_rfl)
end Go.Proofs.YtpggcmlddmckcaaDoor

namespace Go.Proofs.YtpggcmlddmckcaaDoor
open Go.RowKit Go.Sort
set_option maxRecDepth 100000

/-- The reference's answer as two values. -/
def RP (r : Ans (List Tok)) (w w' : World) (x y : Value) : Prop := Below w.heap.size w w' ∧ match r with
  | .ok ts => Toks w' w.heap.size x ts ∧ y = .agg #[.int .i64 0, .int .i64 0, .string ⟨#[]⟩]
  | .bad b => x = .slice none 0 0 ∧ y = .agg #[.int .i64 (b.code : Int), .int .i64 (b.place : Int), .string ⟨#[]⟩] ∧ b.code ≠ 0
theorem rscan_p (s : ByteArray) (w : World) : Calls Tryd.prog 11 #[.string s] w fun e w' => ∃ x y, e = .returned (.tuple #[x, y]) ∧ RP (scan s.data.toList) w w' x y :=
  (rscan_any s w).mono fun e w' ⟨hb, h⟩ => by
    cases hr : scan s.data.toList with
    | ok ts =>
      rw [hr] at h
      obtain ⟨v, rfl, ht⟩ := h
      exact ⟨_, _, rfl, hb, ht, rfl⟩
    | bad b =>
      rw [hr] at h
      obtain ⟨rfl, hn⟩ := h
      exact ⟨_, _, rfl, hb, rfl, rfl, hn⟩
theorem toks_nil (w : World) (B : Nat) : Toks w B (.slice none 0 0) [] := ⟨rfl, .inl ⟨rfl, rfl⟩⟩
theorem same_toks (ts : List Tok) (hz : ts.length ≤ 1000000) (B0 B1 : Nat) (v0 v1 : Value) (w : World) (h0 : Toks w B0 v0 ts) (h1 : Toks w B1 v1 ts) : Calls Tryd.prog 13 #[v0, v1] w fun e w' => e = .returned (.bool true) ∧ Below w.heap.size w w' := by
  obtain ⟨d0, q0, rfl, r0⟩ := h0.form
  obtain ⟨d1, q1, rfl, r1⟩ := h1.form
  exact same_eq ts hz d0 d1 q0 q1 w r0 r1
theorem no_block {g : Nat} {B : Nat} (h : (Value.slice none 0 0).ownBlock = some g) : g < B := by cases h

def tsOf : Ans (List Tok) → List Tok
  | .ok ts => ts
  | .bad _ => []
def badOf : Ans (List Tok) → Option Bad
  | .ok _ => none
  | .bad b => some b
def bdC : Option Bad → Int
  | none => 0
  | some b => (b.code : Int)
def bdP : Option Bad → Int
  | none => 0
  | some b => (b.place : Int)
def bdOk : Option Bad → Prop
  | none => True
  | some b => b.code ≠ 0
/-- An error, or none. -/
def Ev (b : Option Bad) (w w' : World) (ev : Value) : Prop := match b with
  | none => ev = .nilIface
  | some b => ∃ g, ev = .iface 58 (.pointer (some ⟨g, 0, none⟩)) ∧ WrongB w w' g b
theorem Ev.below {b : Option Bad} {w w' w2 : World} {ev : Value} (h : Ev b w w' ev) (hb : Below w'.heap.size w' w2) : Ev b w w2 ev := by
  cases b with
  | none => exact h
  | some b =>
    obtain ⟨g, e, h⟩ := h
    exact ⟨g, e, h.below hb⟩
theorem told_ev {b : Option Bad} {w w' : World} {ev : Value} (h : Ev b w w' ev) (hk : bdOk b) : Calls Tryd.prog 14 #[ev, .agg #[.int .i64 (bdC b), .int .i64 (bdP b), .string ⟨#[]⟩]] w' fun e w'' => e = .returned (.bool true) ∧ Below w'.heap.size w' w'' := by
  cases b with
  | none =>
    have h : ev = .nilIface := h
    rw [h]
    exact told_nil w'
  | some b =>
    obtain ⟨g, rfl, h⟩ := h
    have hk : b.code ≠ 0 := hk
    exact told_bad w' g _ _ (by rw [beq_eq_false_iff_ne]; show ¬ ((b.code : Int) = 0); omega) h.2
theorem fresh_ev {b : Option Bad} {w0 w5 w : World} {ea eb : Value} (h1 : Ev b w0 w5 ea) (h2 : Ev b w5 w eb) (hb : Below w5.heap.size w5 w) : Calls Tryd.prog 15 #[ea, eb] w fun e w'' => e = .returned (.bool true) ∧ Below w.heap.size w w'' := by
  have h1' := h1.below hb
  cases b with
  | none =>
    have h1 : ea = .nilIface := h1
    have h2 : eb = .nilIface := h2
    rw [h1, h2]
    exact fresh_nil w
  | some b =>
    obtain ⟨g, rfl, k1⟩ := h1
    obtain ⟨g2, rfl, k2⟩ := h2
    exact fresh_bad w g g2 (by have := k1.2.lt; have := k2.1; omega) _ _ ((k1.below hb).2) k2.2
theorem scan_e (s : ByteArray) (w : World) (hL : LexAt w) : Calls Tryd.prog 12 #[.string s] w fun e w' => ∃ x ev, e = .returned (.tuple #[x, ev]) ∧ (Toks w' w.heap.size x (tsOf (scan s.data.toList)) ∧ Ev (badOf (scan s.data.toList)) w w' ev ∧ Below w.heap.size w w') :=
  (scan_p s w hL).mono fun e w' ⟨x, ev, he, hp, hb⟩ => by
    refine ⟨x, ev, he, ?_⟩
    cases hr : scan s.data.toList with
    | ok ts =>
      rw [hr] at hp
      exact ⟨hp.2, hp.1, hb⟩
    | bad b =>
      rw [hr] at hp
      obtain ⟨rfl, g, rfl, hw⟩ := hp
      exact ⟨toks_nil _ _, ⟨g, rfl, hw⟩, hb⟩
theorem rscan_e (s : ByteArray) (w : World) : Calls Tryd.prog 11 #[.string s] w fun e w' => ∃ x y, e = .returned (.tuple #[x, y]) ∧ (Toks w' w.heap.size x (tsOf (scan s.data.toList)) ∧ y = .agg #[.int .i64 (bdC (badOf (scan s.data.toList))), .int .i64 (bdP (badOf (scan s.data.toList))), .string ⟨#[]⟩] ∧ bdOk (badOf (scan s.data.toList)) ∧ Below w.heap.size w w') :=
  (rscan_p s w).mono fun e w' ⟨x, y, he, hb, h⟩ => by
    refine ⟨x, y, he, ?_⟩
    cases hr : scan s.data.toList with
    | ok ts =>
      rw [hr] at h
      exact ⟨h.1, h.2, trivial, hb⟩
    | bad b =>
      rw [hr] at h
      obtain ⟨rfl, h1, h2⟩ := h
      exact ⟨toks_nil _ _, h1, h2, hb⟩
theorem ts_len (l : List UInt8) : (tsOf (scan l)).length ≤ 60001 := by
  cases hS : scan l with
  | bad b => simp [tsOf]
  | ok ts =>
    have hsz : ¬ 60000 < l.length := fun h => by
      unfold scan at hS
      rw [if_pos h] at hS
      cases hS
    have hplace : PlaceP 0 l (.ok ts) := by
      unfold scan at hS
      rw [if_neg hsz] at hS
      rw [← hS]
      exact scan_places _ _ _ _ (Nat.le_refl _)
    have := hplace.1
    show ts.length ≤ 60001
    omega

set_option maxHeartbeats 4000000 in
theorem lexScans_any (s : ByteArray) (w : World) (hL : LexAt w) :
    Calls Tryd.prog 3 #[.string s] w fun e w' => e = .returned (.bool true) ∧ Below w.heap.size w w' := by
  have hsl : s.data.toList.length = s.size := by simp
  refine calls_ev (vs := [.string s]) 91 Tryd.func3 sn_body (by kernel_rfl) (by simp) fun a0 h0 => ?_
  unfold snBody
  refine wp_seq (sn_r0 h0 fun a1 h1 => ?_)
  refine wp_seq (sn_r1 h1 (known_any w hL) fun a2 w2 hb2 h2 => ?_)
  have hL2 := hL.below hb2 (Nat.le_refl _)
  have hz := ts_len s.data.toList
  have hrs := rscan_e s w2
  have hsc := fun w' hL' => scan_e s w' hL'
  generalize tsOf (scan s.data.toList) = ts at hz hrs hsc
  generalize badOf (scan s.data.toList) = b at hrs hsc
  refine wp_seq (sn_r2 h2 rfl hrs (fun x y w1 hx => by rw [hx.2.1]; exact WrB.store (c := 0) (p := 0) (Blk.new w1 _ _)) fun a3 vw y w3 hx h3 => ?_)
  obtain ⟨tw, rfl, hk, hb3⟩ := hx
  have hW : WrB _ _ (bdC b) (bdP b) := WrB.set (c := 0) (p := 0) (Blk.new w3 26 #[.int .i64 0, .int .i64 0, .string ⟨#[]⟩]) (bdC b) (bdP b)
  have hb4 := below_setCells [.int .i64 (bdC b), .int .i64 (bdP b), .string ⟨#[]⟩] 0 _ (bl_alloc (Below.refl w3.heap.size w3) (.cells #[.int .i64 0, .int .i64 0, .string ⟨#[]⟩] 26)) (Nat.le_refl _)
  obtain ⟨g5, hg5⟩ : ∃ g, g = w3.heap.size := ⟨_, rfl⟩
  rw [← hg5] at h3 hW
  rw [← hg5]
  rw [show w3.heap.size = g5 from hg5.symm] at hb4
  rw [show (Value.agg #[.int .i64 (bdC b), .int .i64 (bdP b), .string ⟨#[]⟩]).cells.toList = [.int .i64 (bdC b), .int .i64 (bdP b), .string ⟨#[]⟩] from rfl]
  generalize hw4 : World.setCells _ g5 0 _ = w4 at hW hb4 ⊢
  rw [hg5] at hb4
  have tw4 : Toks w4 w2.heap.size vw ts := own_below' tw hb4
  have hL3 := hL2.below hb3 (Nat.le_refl _)
  have hL4 := hL3.below hb4 (Nat.le_refl _)
  have z3 := hb3.size
  have z4 := hb4.size
  have hg4 := hW.lt
  have hbw4 := bl_trans (bl_trans hb2 hb3) hb4
  have hvw : ∀ g, vw.ownBlock = some g → g < w4.heap.size := fun g h => by have := (len_own tw g h).2; omega
  clear hw4 hb3 hb4 tw hL3
  refine wp_seq (sn_r3 h3 rfl (hsc w4 hL4) fun a4 va ea w5 hx h4 => ?_)
  obtain ⟨ta5, va5, hb5⟩ := hx
  have hL5 := hL4.below hb5 (Nat.le_refl _)
  have tw5 : Toks w5 w2.heap.size vw ts := own_below' tw4 hb5
  have hva : ∀ g, va.ownBlock = some g → g < w5.heap.size := fun g h => (len_own ta5 g h).2
  refine wp_seq (sn_r4 h4 rfl (hsc w5 hL5) fun a5 vb eb w6 hx h5 => ?_)
  obtain ⟨tb6, vb6, hb6⟩ := hx
  have z6 := hb6.size
  have ta6 : Toks w6 w4.heap.size va ts := own_below' ta5 hb6
  have tw6 : Toks w6 w2.heap.size vw ts := own_below' tw5 hb6
  refine wp_seq (sn_r5 h5 rfl rfl (same_toks ts (by omega) _ _ va vw w6 ta6 tw6) fun a6 w7 hb7 h6 => ?_)
  have z7 := hb7.size
  have ta7 : Toks w7 w4.heap.size va ts := own_below' ta6 hb7
  have tw7 : Toks w7 w2.heap.size vw ts := own_below' tw6 hb7
  have tb7 : Toks w7 w5.heap.size vb ts := own_below' tb6 hb7
  refine wp_seq (sn_r6 h6 rfl rfl (same_toks ts (by omega) _ _ vb vw w7 tb7 tw7) fun a7 w8 hb8 h7 => ?_)
  have z8 := hb8.size
  have h68 := bl_trans hb7 hb8
  have h58 := bl_trans hb6 h68
  have ta8 : Toks w8 w4.heap.size va ts := own_below' ta7 hb8
  have tw8 : Toks w8 w2.heap.size vw ts := own_below' tw7 hb8
  have tb8 : Toks w8 w5.heap.size vb ts := own_below' tb7 hb8
  have h48 := bl_trans hb5 h58
  have hW8 : WrB w8 g5 _ _ := hW.over h48 hg4
  refine wp_seq (sn_r7 h7 rfl rfl hW8.load (told_ev (va5.below h58) hk) fun a8 w9 hb9 h8 => ?_)
  have h59 := bl_trans h58 hb9
  have h69 := bl_trans h68 hb9
  have h49 := bl_trans hb5 h59
  have hW9 : WrB w9 g5 _ _ := hW.over h49 hg4
  refine wp_seq (sn_r8 h8 rfl rfl hW9.load (told_ev (vb6.below h69) hk) fun a9 w10 hb10 h9 => ?_)
  have h6a := bl_trans h69 hb10
  have h5a := bl_trans h59 hb10
  refine wp_seq (sn_r9 h9 rfl rfl (fresh_ev va5 (vb6.below h6a) h5a) fun a10 w11 hb11 h10 => ?_)
  have h8b := bl_trans (bl_trans hb9 hb10) hb11
  have ta11 : Toks w11 w4.heap.size va ts := own_below' ta8 h8b
  have tw11 : Toks w11 w2.heap.size vw ts := own_below' tw8 h8b
  have tb11 : Toks w11 w5.heap.size vb ts := own_below' tb8 h8b
  have h4b := bl_trans h48 h8b
  have z5b := (bl_trans h58 h8b).size
  refine wp_seq (sn_r10 h10 rfl rfl rfl (owns_any ts (by omega) w11 _ _ _ vw va vb tw11 ta11 tb11 hvw hva hb5.size z5b) fun a11 w12 hb12 h11 => ?_)
  have h4c : Below w4.heap.size w4 w12 := h4b.trans hb12
  have tw12 : Toks w12 w2.heap.size vw ts := own_under tw4 hvw h4c
  have hW12 : WrB w12 g5 _ _ := hW.over h4c hg4
  have hL12 := hL4.below h4c (Nat.le_refl _)
  have hb12 := bl_trans hbw4 h4c
  refine wp_seq (sn_r11 h11 rfl (hsc w12 hL12) fun a12 vc ec w13 hx h12 => ?_)
  obtain ⟨tc13, vc13, hb13⟩ := hx
  have tw13 : Toks w13 w2.heap.size vw ts := own_below' tw12 hb13
  refine wp_seq (sn_r12 h12 rfl rfl (same_toks ts (by omega) _ _ vc vw w13 tc13 tw13) fun a13 w14 hb14 h13 => ?_)
  have hW14 : WrB w14 g5 _ _ := hW12.over (bl_trans hb13 hb14) hW12.lt
  refine wp_seq (sn_r13 h13 rfl rfl hW14.load (told_ev (vc13.below hb14) hk) fun a14 w15 hb15 h14 => ?_)
  refine wp_seq (sn_r14 h14 rfl rfl rfl rfl rfl rfl rfl rfl rfl fun a15 h15 => wp_ret ?_)
  exact ret1 rfl h15 rfl ⟨rfl, bl_trans (bl_trans (bl_trans hb12 hb13) hb14) hb15⟩
end Go.Proofs.YtpggcmlddmckcaaDoor
