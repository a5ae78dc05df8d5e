/-
  Which values are Sized and Pointing. The regions of the law's answers, one by one. What the law's answers asks: the reference's Sized, Pointing, Keyed, Len, Name; type assertions; the value's Datum in separate memory. Contract of the law's answers: a value answers as it should, whatever it can be asked. Written by an AI agent.
-/
import Derived.Test.YthdmmhiifkebeaaDoorVal13
import Derived.Test.YthdmmhiifkebeaaDoorVal10
import Derived.Test.YthdmmhiifkebeaaDoorFr
import Derived.Test.YthdmmhiifkebeaaDoorQA
import Derived.Test.YthdmmhiifkebeaaDoorLent
import Derived.Test.YthdmmhiifkebeaaDoorVal15
import Derived.Test.YthdmmhiifkebeaaDoorKyLaw
import Derived.Test.YthdmmhiifkebeaaDoorRKey
import Derived.Test.YthdmmhiifkebeaaDoorRk1
namespace Go.Proofs.YthdmmhiifkebeaaDoor
open Go.RowKit Go.Sort

def sizedT (t : TypeId) : Bool := t == 116 || t == 117
def pointT (t : TypeId) : Bool := t == 117 || t == 118 || t == 119
theorem assert_sized {t : TypeId} (ht : ValTy t) (v : Value) (w : World) : (Instr.typeAssert (.iface t v) 32 152 true).run Tryd.prog w = .ok (.tuple #[if sizedT t then .iface t v else .nilIface, .bool (sizedT t)]) w := by
  rcases ht with rfl | rfl | rfl | rfl | rfl | rfl | rfl | rfl <;>
  first
    | exact run_typeAssert_hasB Tryd.underlying152 (by kernel_rfl) v _ w
    | exact run_typeAssert_lacksB Tryd.underlying152 (by kernel_rfl) (by kernel_rfl) v _ w
theorem assert_pointing {t : TypeId} (ht : ValTy t) (v : Value) (w : World) : (Instr.typeAssert (.iface t v) 32 68 true).run Tryd.prog w = .ok (.tuple #[if pointT t then .iface t v else .nilIface, .bool (pointT t)]) w := by
  rcases ht with rfl | rfl | rfl | rfl | rfl | rfl | rfl | rfl <;>
  first
    | exact run_typeAssert_hasB Tryd.underlying68 (by kernel_rfl) v _ w
    | exact run_typeAssert_lacksB Tryd.underlying68 (by kernel_rfl) (by kernel_rfl) v _ w
end Go.Proofs.YthdmmhiifkebeaaDoor

namespace Go.Proofs.YthdmmhiifkebeaaDoor
open Go.RowKit Go.Sort
set_option maxRecDepth 100000
theorem letters_as (a : Act) (h1 : a.tmps.size = 81) (h2 : a.defers = []) : ∃ f : Nat → Value, a = ⟨(List.toArray (f 0 :: f 1 :: f 2 :: f 3 :: f 4 :: f 5 :: f 6 :: f 7 :: f 8 :: f 9 :: f 10 :: f 11 :: f 12 :: f 13 :: f 14 :: f 15 :: f 16 :: f 17 :: f 18 :: f 19 :: f 20 :: f 21 :: f 22 :: f 23 :: f 24 :: f 25 :: f 26 :: f 27 :: f 28 :: f 29 :: f 30 :: f 31 :: f 32 :: f 33 :: f 34 :: f 35 :: f 36 :: f 37 :: f 38 :: f 39 :: f 40 :: f 41 :: f 42 :: f 43 :: f 44 :: f 45 :: f 46 :: f 47 :: f 48 :: f 49 :: f 50 :: f 51 :: f 52 :: f 53 :: f 54 :: f 55 :: f 56 :: f 57 :: f 58 :: f 59 :: f 60 :: f 61 :: f 62 :: f 63 :: f 64 :: f 65 :: f 66 :: f 67 :: f 68 :: f 69 :: f 70 :: f 71 :: f 72 :: f 73 :: f 74 :: f 75 :: f 76 :: f 77 :: f 78 :: f 79 :: f 80 :: [])), []⟩ ∧ ∀ k, slot a k = f k :=
  ⟨slot a, (spread a 81 h1 h2).trans (by kernel_rfl), fun _ => rfl⟩
noncomputable def r_as (n : Nat) : Code := ((Tryd.f40.body.bind (findR n)).getD .skip)
theorem neq_four (b0 b1 b2 b3 : Bool) (w : World) : (binOp .neq 149 (.agg #[.bool b0, .bool b1, .bool b2, .bool b3]) (.agg #[.bool b0, .bool b1, .bool b2, .bool b3])).run Tryd.prog w = .ok (.bool false) w := by
  cases b0 <;> cases b1 <;> cases b2 <;> cases b3 <;> kernel_rfl
section
variable (a0 a1 a2 a3 a4 a5 a6 a7 a8 a9 a10 : Value) (w : World)
theorem truth_ntype : (nilAhead 326 114 (.agg #[a0, a1, a2, a3, a4, a5, a6, a7, a8, a9, a10]) "Type").run Tryd.prog w = .ok (some false) w := by kernel_rfl
theorem truth_mtype : (method 326 114 (.agg #[a0, a1, a2, a3, a4, a5, a6, a7, a8, a9, a10]) "Type").run Tryd.prog w = .ok (144, .agg #[a0, a1, a2, a3, a4, a5, a6, a7, a8, a9, a10]) w := by kernel_rfl
theorem figure_ntype : (nilAhead 326 115 (.agg #[a0, a1, a2, a3, a4, a5, a6, a7, a8, a9, a10]) "Type").run Tryd.prog w = .ok (some false) w := by kernel_rfl
theorem figure_mtype : (method 326 115 (.agg #[a0, a1, a2, a3, a4, a5, a6, a7, a8, a9, a10]) "Type").run Tryd.prog w = .ok (144, .agg #[a0, a1, a2, a3, a4, a5, a6, a7, a8, a9, a10]) w := by kernel_rfl
theorem letter_ntype : (nilAhead 326 116 (.agg #[a0, a1, a2, a3, a4, a5, a6, a7, a8, a9, a10]) "Type").run Tryd.prog w = .ok (some false) w := by kernel_rfl
theorem letter_mtype : (method 326 116 (.agg #[a0, a1, a2, a3, a4, a5, a6, a7, a8, a9, a10]) "Type").run Tryd.prog w = .ok (144, .agg #[a0, a1, a2, a3, a4, a5, a6, a7, a8, a9, a10]) w := by kernel_rfl
theorem row_ntype : (nilAhead 326 117 (.agg #[a0, a1, a2, a3, a4, a5, a6, a7, a8, a9, a10]) "Type").run Tryd.prog w = .ok (some false) w := by kernel_rfl
theorem row_mtype : (method 326 117 (.agg #[a0, a1, a2, a3, a4, a5, a6, a7, a8, a9, a10]) "Type").run Tryd.prog w = .ok (144, .agg #[a0, a1, a2, a3, a4, a5, a6, a7, a8, a9, a10]) w := by kernel_rfl
theorem lead_ntype : (nilAhead 326 118 (.agg #[a0, a1, a2, a3, a4, a5, a6, a7, a8, a9, a10]) "Type").run Tryd.prog w = .ok (some false) w := by kernel_rfl
theorem lead_mtype : (method 326 118 (.agg #[a0, a1, a2, a3, a4, a5, a6, a7, a8, a9, a10]) "Type").run Tryd.prog w = .ok (144, .agg #[a0, a1, a2, a3, a4, a5, a6, a7, a8, a9, a10]) w := by kernel_rfl
theorem arrow_ntype : (nilAhead 326 119 (.agg #[a0, a1, a2, a3, a4, a5, a6, a7, a8, a9, a10]) "Type").run Tryd.prog w = .ok (some false) w := by kernel_rfl
theorem arrow_mtype : (method 326 119 (.agg #[a0, a1, a2, a3, a4, a5, a6, a7, a8, a9, a10]) "Type").run Tryd.prog w = .ok (144, .agg #[a0, a1, a2, a3, a4, a5, a6, a7, a8, a9, a10]) w := by kernel_rfl
theorem record_ntype : (nilAhead 326 121 (.agg #[a0, a1, a2, a3, a4, a5, a6, a7, a8, a9, a10]) "Type").run Tryd.prog w = .ok (some false) w := by kernel_rfl
theorem record_mtype : (method 326 121 (.agg #[a0, a1, a2, a3, a4, a5, a6, a7, a8, a9, a10]) "Type").run Tryd.prog w = .ok (144, .agg #[a0, a1, a2, a3, a4, a5, a6, a7, a8, a9, a10]) w := by kernel_rfl
theorem filed_ntype : (nilAhead 326 123 (.agg #[a0, a1, a2, a3, a4, a5, a6, a7, a8, a9, a10]) "Type").run Tryd.prog w = .ok (some false) w := by kernel_rfl
theorem filed_mtype : (method 326 123 (.agg #[a0, a1, a2, a3, a4, a5, a6, a7, a8, a9, a10]) "Type").run Tryd.prog w = .ok (144, .agg #[a0, a1, a2, a3, a4, a5, a6, a7, a8, a9, a10]) w := by kernel_rfl
theorem letter_nLen : (nilAhead 326 116 (.agg #[a0, a1, a2, a3, a4, a5, a6, a7, a8, a9, a10]) "Len").run Tryd.prog w = .ok (some false) w := by kernel_rfl
theorem letter_mLen : (method 326 116 (.agg #[a0, a1, a2, a3, a4, a5, a6, a7, a8, a9, a10]) "Len").run Tryd.prog w = .ok (155, .agg #[a0, a1, a2, a3, a4, a5, a6, a7, a8, a9, a10]) w := by kernel_rfl
theorem row_nLen : (nilAhead 326 117 (.agg #[a0, a1, a2, a3, a4, a5, a6, a7, a8, a9, a10]) "Len").run Tryd.prog w = .ok (some false) w := by kernel_rfl
theorem row_mLen : (method 326 117 (.agg #[a0, a1, a2, a3, a4, a5, a6, a7, a8, a9, a10]) "Len").run Tryd.prog w = .ok (157, .agg #[a0, a1, a2, a3, a4, a5, a6, a7, a8, a9, a10]) w := by kernel_rfl
theorem row_nNone : (nilAhead 326 117 (.agg #[a0, a1, a2, a3, a4, a5, a6, a7, a8, a9, a10]) "None").run Tryd.prog w = .ok (some false) w := by kernel_rfl
theorem row_mNone : (method 326 117 (.agg #[a0, a1, a2, a3, a4, a5, a6, a7, a8, a9, a10]) "None").run Tryd.prog w = .ok (158, .agg #[a0, a1, a2, a3, a4, a5, a6, a7, a8, a9, a10]) w := by kernel_rfl
theorem lead_nNone : (nilAhead 326 118 (.agg #[a0, a1, a2, a3, a4, a5, a6, a7, a8, a9, a10]) "None").run Tryd.prog w = .ok (some false) w := by kernel_rfl
theorem lead_mNone : (method 326 118 (.agg #[a0, a1, a2, a3, a4, a5, a6, a7, a8, a9, a10]) "None").run Tryd.prog w = .ok (159, .agg #[a0, a1, a2, a3, a4, a5, a6, a7, a8, a9, a10]) w := by kernel_rfl
theorem arrow_nNone : (nilAhead 326 119 (.agg #[a0, a1, a2, a3, a4, a5, a6, a7, a8, a9, a10]) "None").run Tryd.prog w = .ok (some false) w := by kernel_rfl
theorem arrow_mNone : (method 326 119 (.agg #[a0, a1, a2, a3, a4, a5, a6, a7, a8, a9, a10]) "None").run Tryd.prog w = .ok (161, .agg #[a0, a1, a2, a3, a4, a5, a6, a7, a8, a9, a10]) w := by kernel_rfl
theorem truth_nHash : (nilAhead 326 114 (.agg #[a0, a1, a2, a3, a4, a5, a6, a7, a8, a9, a10]) "Hash").run Tryd.prog w = .ok (some false) w := by kernel_rfl
theorem truth_mHash : (method 326 114 (.agg #[a0, a1, a2, a3, a4, a5, a6, a7, a8, a9, a10]) "Hash").run Tryd.prog w = .ok (146, .agg #[a0, a1, a2, a3, a4, a5, a6, a7, a8, a9, a10]) w := by kernel_rfl
theorem figure_nHash : (nilAhead 326 115 (.agg #[a0, a1, a2, a3, a4, a5, a6, a7, a8, a9, a10]) "Hash").run Tryd.prog w = .ok (some false) w := by kernel_rfl
theorem figure_mHash : (method 326 115 (.agg #[a0, a1, a2, a3, a4, a5, a6, a7, a8, a9, a10]) "Hash").run Tryd.prog w = .ok (147, .agg #[a0, a1, a2, a3, a4, a5, a6, a7, a8, a9, a10]) w := by kernel_rfl
theorem letter_nHash : (nilAhead 326 116 (.agg #[a0, a1, a2, a3, a4, a5, a6, a7, a8, a9, a10]) "Hash").run Tryd.prog w = .ok (some false) w := by kernel_rfl
theorem letter_mHash : (method 326 116 (.agg #[a0, a1, a2, a3, a4, a5, a6, a7, a8, a9, a10]) "Hash").run Tryd.prog w = .ok (154, .agg #[a0, a1, a2, a3, a4, a5, a6, a7, a8, a9, a10]) w := by kernel_rfl
theorem arrow_nHash : (nilAhead 326 119 (.agg #[a0, a1, a2, a3, a4, a5, a6, a7, a8, a9, a10]) "Hash").run Tryd.prog w = .ok (some false) w := by kernel_rfl
theorem arrow_mHash : (method 326 119 (.agg #[a0, a1, a2, a3, a4, a5, a6, a7, a8, a9, a10]) "Hash").run Tryd.prog w = .ok (160, .agg #[a0, a1, a2, a3, a4, a5, a6, a7, a8, a9, a10]) w := by kernel_rfl
theorem filed_nHash : (nilAhead 326 123 (.agg #[a0, a1, a2, a3, a4, a5, a6, a7, a8, a9, a10]) "Hash").run Tryd.prog w = .ok (some false) w := by kernel_rfl
theorem filed_mHash : (method 326 123 (.agg #[a0, a1, a2, a3, a4, a5, a6, a7, a8, a9, a10]) "Hash").run Tryd.prog w = .ok (162, .agg #[a0, a1, a2, a3, a4, a5, a6, a7, a8, a9, a10]) w := by kernel_rfl
end
set_option maxHeartbeats 4000000 in
theorem as_r0 (a : Act) (w : World) (N : Act → World → Prop) (Q : Exit → Act → World → Prop) (l : List (Nat × Value)) (hs : Sl 81 a l) (hl : (l.map Prod.fst).all (fun k => [0].contains k) = true)
    (h : Hd) (pa : Option Addr) (pc : Nat) (ia : Option Addr) (n ic : Nat) (h1 : slot a 1 = .agg (h.cells pa pc ia n ic))
    (hN : ∀ a', Sl 81 a' ((3, .pointer (some ⟨w.heap.size, 0, none⟩)) :: l) → N a' (w.alloc (.cells (h.cells pa pc ia n ic) 28))) : (r_as 0).wp Tryd.prog (Exit.then N Q) a w := by
  have HN := Lib.hid hN
  have HL := Lib.hid hl
  have e1 := h1
  obtain ⟨f, ea, hf⟩ : ∃ f : Nat → Value, a = ⟨(List.toArray (f 0 :: f 1 :: f 2 :: f 3 :: f 4 :: f 5 :: f 6 :: f 7 :: f 8 :: f 9 :: f 10 :: f 11 :: f 12 :: f 13 :: f 14 :: f 15 :: f 16 :: f 17 :: f 18 :: f 19 :: f 20 :: f 21 :: f 22 :: f 23 :: f 24 :: f 25 :: f 26 :: f 27 :: f 28 :: f 29 :: f 30 :: f 31 :: f 32 :: f 33 :: f 34 :: f 35 :: f 36 :: f 37 :: f 38 :: f 39 :: f 40 :: f 41 :: f 42 :: f 43 :: f 44 :: f 45 :: f 46 :: f 47 :: f 48 :: f 49 :: f 50 :: f 51 :: f 52 :: f 53 :: f 54 :: f 55 :: f 56 :: f 57 :: f 58 :: f 59 :: f 60 :: f 61 :: f 62 :: f 63 :: f 64 :: f 65 :: f 66 :: f 67 :: f 68 :: f 69 :: f 70 :: f 71 :: f 72 :: f 73 :: f 74 :: f 75 :: f 76 :: f 77 :: f 78 :: f 79 :: f 80 :: [])), []⟩ ∧ ∀ k, slot a k = f k := letters_as a hs.size hs.defers
  rw [hf] at e1
  rw [ea, e1]
  have HS := Lib.hid hs
  have HF := Lib.hid hf
  have E1 := Lib.hid e1
  clear hs ea hf hN hl h1 e1
  unfold Hd.cells
  conv => arg 2; whnf
  go_wp2_with fail
  refine HN.out _ ?_
  exact Sl.add (Sl.stay [0] HS.out HF.out (by kernel_rfl) rfl ⟨by kernel_rfl, trivial⟩ HL.out) (by kernel_rfl)
set_option maxHeartbeats 4000000 in
theorem as_r1 (a : Act) (w : World) (N : Act → World → Prop) (Q : Exit → Act → World → Prop) (l : List (Nat × Value)) (hs : Sl 81 a l) (hl : (l.map Prod.fst).all (fun k => [0, 3].contains k) = true)
    (h : Hd) (pa : Option Addr) (pc : Nat) (ia : Option Addr) (n ic A : Nat) (hA : Blk w A 28 (h.cells pa pc ia n ic)) (b0 b1 b2 b3 : Bool) (H0 : (∀ W, Below w.heap.size w W → Calls Tryd.prog 19 #[.agg (h.cells pa pc ia n ic)] W fun e w' => e = .returned (.bool b0) ∧ Below W.heap.size W w')) (H1 : (∀ W, Below w.heap.size w W → Calls Tryd.prog 75 #[.agg (h.cells pa pc ia n ic)] W fun e w' => e = .returned (.bool b1) ∧ Below W.heap.size W w')) (H2 : (∀ W, Below w.heap.size w W → Calls Tryd.prog 76 #[.agg (h.cells pa pc ia n ic)] W fun e w' => e = .returned (.bool b2) ∧ Below W.heap.size W w')) (H3 : (∀ W, Below w.heap.size w W → Calls Tryd.prog 77 #[.agg (h.cells pa pc ia n ic)] W fun e w' => e = .returned (.bool b3) ∧ Below W.heap.size W w')) (h3 : l.lookup 3 = some (.pointer (some ⟨A, 0, none⟩)))
    (hN : ∀ a' w' g, Sl 81 a' ((5, .pointer (some ⟨g, 0, none⟩)) :: l) → Blk w' g 149 #[.bool b0, .bool b1, .bool b2, .bool b3] → w.heap.size ≤ g → Below w.heap.size w w' → N a' w') : (r_as 1).wp Tryd.prog (Exit.then N Q) a w := by
  have HN := Lib.hid hN
  have HL := Lib.hid hl
  have e3 := hs.look 3 h3
  obtain ⟨f, ea, hf⟩ : ∃ f : Nat → Value, a = ⟨(List.toArray (f 0 :: f 1 :: f 2 :: f 3 :: f 4 :: f 5 :: f 6 :: f 7 :: f 8 :: f 9 :: f 10 :: f 11 :: f 12 :: f 13 :: f 14 :: f 15 :: f 16 :: f 17 :: f 18 :: f 19 :: f 20 :: f 21 :: f 22 :: f 23 :: f 24 :: f 25 :: f 26 :: f 27 :: f 28 :: f 29 :: f 30 :: f 31 :: f 32 :: f 33 :: f 34 :: f 35 :: f 36 :: f 37 :: f 38 :: f 39 :: f 40 :: f 41 :: f 42 :: f 43 :: f 44 :: f 45 :: f 46 :: f 47 :: f 48 :: f 49 :: f 50 :: f 51 :: f 52 :: f 53 :: f 54 :: f 55 :: f 56 :: f 57 :: f 58 :: f 59 :: f 60 :: f 61 :: f 62 :: f 63 :: f 64 :: f 65 :: f 66 :: f 67 :: f 68 :: f 69 :: f 70 :: f 71 :: f 72 :: f 73 :: f 74 :: f 75 :: f 76 :: f 77 :: f 78 :: f 79 :: f 80 :: [])), []⟩ ∧ ∀ k, slot a k = f k := letters_as a hs.size hs.defers
  rw [hf] at e3
  rw [ea, e3]
  have HS := Lib.hid hs
  have HF := Lib.hid hf
  have E3 := Lib.hid e3
  clear hs ea hf hN hl h3 e3
  obtain ⟨c0, c1, c2, c3, c4, c5, c6, c7, c8, c9, c10⟩ := (CellsAt.of_blk hA).boxrg
  clear hA
  unfold Hd.cells at H0 H1 H2 H3
  have H0 := Lib.hid H0
  have H1 := Lib.hid H1
  have H2 := Lib.hid H2
  have H3 := Lib.hid H3
  conv => arg 2; whnf
  refine wp_region_alloc_tail 9 0 (t := 149) (cs := #[.bool false, .bool false, .bool false, .bool false]) (by kernel_rfl) rfl (fun _ => rfl) (fun _ _ => by first | rfl | simp [go_sem]) (by kernel_rfl) ?_
  simp only [List.take_succ_cons, List.take_zero, List.drop_succ_cons, List.drop_zero, List.append_nil]
  repeat
    apply wpRel_step _ rfl (by simp)
    · intro os0
      go_big_quiet_step ((first | exact Calls.regrown2_of (H0.out _ (below_regrown _ _ _)) | exact Calls.regrown2_of (H1.out _ (below_regrown _ _ _)) | exact Calls.regrown2_of (H2.out _ (below_regrown _ _ _)) | exact Calls.regrown2_of (H3.out _ (below_regrown _ _ _))))
      exact wpQuiet_nil rfl
  refine wpRel_nil ?_
  intro g hgw w2 hb2 hG
  have g0 := hG.cell 0
  have g1 := hG.cell 1
  have g2 := hG.cell 2
  have g3 := hG.cell 3
  simp at g0 g1 g2 g3
  have hfg := fun j => hG.frozen j
  go_wp2_with fail
  refine HN.out _ _ _ ?_ (by simpa using (((hG.set_ 0 (.bool b0)).set_ 1 (.bool b1)).set_ 2 (.bool b2)).set_ 3 (.bool b3)) hgw (by ((repeat' (first | exact Below.refl _ _ | assumption | (refine bl_alloc ?_ _) | (refine Below.drew ?_) | (refine below_drewN ?_ _) | (refine Below.setCell ?_ ?_ _) | (refine bl_trans ?_ (by assumption)))) <;> first | omega | (simp; done) | (simp; omega)))
  exact Sl.add (Sl.stay [0, 3] HS.out HF.out (by kernel_rfl) rfl ⟨by kernel_rfl, Eq.trans (by kernel_rfl) E3.out.symm, trivial⟩ HL.out) (by kernel_rfl)
set_option maxHeartbeats 4000000 in
theorem as_r2_truth (a : Act) (w : World) (N : Act → World → Prop) (Q : Exit → Act → World → Prop) (l : List (Nat × Value)) (hs : Sl 81 a l) (hl : (l.map Prod.fst).all (fun k => [0, 3, 5].contains k) = true)
    (h : Hd) (pa : Option Addr) (pc : Nat) (ia : Option Addr) (n ic A : Nat) (hA : Blk w A 28 (h.cells pa pc ia n ic)) (qa : Option Addr) (qc : Nat) (ja : Option Addr) (jc : Nat) (s : ByteArray) (X : Nat) (b0 b1 b2 b3 : Bool) (hX : Blk w X 149 #[.bool b0, .bool b1, .bool b2, .bool b3]) (HAB : (∀ W, Below w.heap.size w W → Calls Tryd.prog 78 #[.iface 114 (.agg (h.cells qa qc ja n jc))] W fun e w' => e = .returned (.agg #[.bool b0, .bool b1, .bool b2, .bool b3]) ∧ Below W.heap.size W w')) (HTY : (∀ W, Below w.heap.size w W → Calls Tryd.prog 144 #[.agg (h.cells qa qc ja n jc)] W fun e w' => e = .returned (.string s) ∧ Below W.heap.size W w')) (HNA : (∀ W, Below w.heap.size w W → Calls Tryd.prog 79 #[.agg (h.cells pa pc ia n ic)] W fun e w' => e = .returned (.string s) ∧ Below W.heap.size W w')) (h0 : l.lookup 0 = some (.iface 114 (.agg (h.cells qa qc ja n jc)))) (h3 : l.lookup 3 = some (.pointer (some ⟨A, 0, none⟩))) (h5 : l.lookup 5 = some (.pointer (some ⟨X, 0, none⟩)))
    (hN : ∀ a' w', Sl 81 a' ((33, .bool false) :: l) → Below w.heap.size w w' → N a' w') : (r_as 2).wp Tryd.prog (Exit.then N Q) a w := by
  have HN := Lib.hid hN
  have HL := Lib.hid hl
  have e0 := hs.look 0 h0
  have e3 := hs.look 3 h3
  have e5 := hs.look 5 h5
  obtain ⟨f, ea, hf⟩ : ∃ f : Nat → Value, a = ⟨(List.toArray (f 0 :: f 1 :: f 2 :: f 3 :: f 4 :: f 5 :: f 6 :: f 7 :: f 8 :: f 9 :: f 10 :: f 11 :: f 12 :: f 13 :: f 14 :: f 15 :: f 16 :: f 17 :: f 18 :: f 19 :: f 20 :: f 21 :: f 22 :: f 23 :: f 24 :: f 25 :: f 26 :: f 27 :: f 28 :: f 29 :: f 30 :: f 31 :: f 32 :: f 33 :: f 34 :: f 35 :: f 36 :: f 37 :: f 38 :: f 39 :: f 40 :: f 41 :: f 42 :: f 43 :: f 44 :: f 45 :: f 46 :: f 47 :: f 48 :: f 49 :: f 50 :: f 51 :: f 52 :: f 53 :: f 54 :: f 55 :: f 56 :: f 57 :: f 58 :: f 59 :: f 60 :: f 61 :: f 62 :: f 63 :: f 64 :: f 65 :: f 66 :: f 67 :: f 68 :: f 69 :: f 70 :: f 71 :: f 72 :: f 73 :: f 74 :: f 75 :: f 76 :: f 77 :: f 78 :: f 79 :: f 80 :: [])), []⟩ ∧ ∀ k, slot a k = f k := letters_as a hs.size hs.defers
  rw [hf] at e0 e3 e5
  rw [ea, e0, e3, e5]
  have HS := Lib.hid hs
  have HF := Lib.hid hf
  have E0 := Lib.hid e0
  have E3 := Lib.hid e3
  have E5 := Lib.hid e5
  clear hs ea hf hN hl h0 e0 h3 e3 h5 e5
  obtain ⟨c0, c1, c2, c3, c4, c5, c6, c7, c8, c9, c10⟩ := (CellsAt.of_blk hA).boxrg
  clear hA
  have x0 : ∀ d os, (grow (redrawn w d) os).cell? ⟨X, 0, none⟩ = some (.bool b0) := fun d os => ((below_regrown w d os).cell (p := ⟨X, 0, none⟩) hX.lt).trans (hX.cell 0)
  have x1 : ∀ d os, (grow (redrawn w d) os).cell? ⟨X, 1, none⟩ = some (.bool b1) := fun d os => ((below_regrown w d os).cell (p := ⟨X, 1, none⟩) hX.lt).trans (hX.cell 1)
  have x2 : ∀ d os, (grow (redrawn w d) os).cell? ⟨X, 2, none⟩ = some (.bool b2) := fun d os => ((below_regrown w d os).cell (p := ⟨X, 2, none⟩) hX.lt).trans (hX.cell 2)
  have x3 : ∀ d os, (grow (redrawn w d) os).cell? ⟨X, 3, none⟩ = some (.bool b3) := fun d os => ((below_regrown w d os).cell (p := ⟨X, 3, none⟩) hX.lt).trans (hX.cell 3)
  clear hX
  have hne := neq_four b0 b1 b2 b3
  have hss : (s.toList != s.toList) = false := by simp
  unfold Hd.cells at HAB HTY HNA ⊢
  have HAB := Lib.hid HAB
  have HTY := Lib.hid HTY
  have HNA := Lib.hid HNA
  have hml := truth_mtype
  have hmn := truth_ntype
  conv => arg 2; whnf
  refine wp_region_below (by kernel_rfl) (by kernel_rfl) ?_
  repeat (go_big_quiet_step ((first | exact Calls.regrown_of (HAB.out _ (below_regrown _ _ _)) | exact Calls.regrown_of (HTY.out _ (below_regrown _ _ _)) | exact Calls.regrown_of (HNA.out _ (below_regrown _ _ _)))))
  refine wpQuiet_nil ?_
  intro w' hb
  go_wp2_with fail
  refine HN.out _ _ ?_ hb
  exact Sl.add (Sl.stay [0, 3, 5] HS.out HF.out (by kernel_rfl) rfl ⟨Eq.trans (by kernel_rfl) E0.out.symm, Eq.trans (by kernel_rfl) E3.out.symm, Eq.trans (by kernel_rfl) E5.out.symm, trivial⟩ HL.out) (by kernel_rfl)
set_option maxHeartbeats 4000000 in
theorem as_r2_figure (a : Act) (w : World) (N : Act → World → Prop) (Q : Exit → Act → World → Prop) (l : List (Nat × Value)) (hs : Sl 81 a l) (hl : (l.map Prod.fst).all (fun k => [0, 3, 5].contains k) = true)
    (h : Hd) (pa : Option Addr) (pc : Nat) (ia : Option Addr) (n ic A : Nat) (hA : Blk w A 28 (h.cells pa pc ia n ic)) (qa : Option Addr) (qc : Nat) (ja : Option Addr) (jc : Nat) (s : ByteArray) (X : Nat) (b0 b1 b2 b3 : Bool) (hX : Blk w X 149 #[.bool b0, .bool b1, .bool b2, .bool b3]) (HAB : (∀ W, Below w.heap.size w W → Calls Tryd.prog 78 #[.iface 115 (.agg (h.cells qa qc ja n jc))] W fun e w' => e = .returned (.agg #[.bool b0, .bool b1, .bool b2, .bool b3]) ∧ Below W.heap.size W w')) (HTY : (∀ W, Below w.heap.size w W → Calls Tryd.prog 144 #[.agg (h.cells qa qc ja n jc)] W fun e w' => e = .returned (.string s) ∧ Below W.heap.size W w')) (HNA : (∀ W, Below w.heap.size w W → Calls Tryd.prog 79 #[.agg (h.cells pa pc ia n ic)] W fun e w' => e = .returned (.string s) ∧ Below W.heap.size W w')) (h0 : l.lookup 0 = some (.iface 115 (.agg (h.cells qa qc ja n jc)))) (h3 : l.lookup 3 = some (.pointer (some ⟨A, 0, none⟩))) (h5 : l.lookup 5 = some (.pointer (some ⟨X, 0, none⟩)))
    (hN : ∀ a' w', Sl 81 a' ((33, .bool false) :: l) → Below w.heap.size w w' → N a' w') : (r_as 2).wp Tryd.prog (Exit.then N Q) a w := by
  have HN := Lib.hid hN
  have HL := Lib.hid hl
  have e0 := hs.look 0 h0
  have e3 := hs.look 3 h3
  have e5 := hs.look 5 h5
  obtain ⟨f, ea, hf⟩ : ∃ f : Nat → Value, a = ⟨(List.toArray (f 0 :: f 1 :: f 2 :: f 3 :: f 4 :: f 5 :: f 6 :: f 7 :: f 8 :: f 9 :: f 10 :: f 11 :: f 12 :: f 13 :: f 14 :: f 15 :: f 16 :: f 17 :: f 18 :: f 19 :: f 20 :: f 21 :: f 22 :: f 23 :: f 24 :: f 25 :: f 26 :: f 27 :: f 28 :: f 29 :: f 30 :: f 31 :: f 32 :: f 33 :: f 34 :: f 35 :: f 36 :: f 37 :: f 38 :: f 39 :: f 40 :: f 41 :: f 42 :: f 43 :: f 44 :: f 45 :: f 46 :: f 47 :: f 48 :: f 49 :: f 50 :: f 51 :: f 52 :: f 53 :: f 54 :: f 55 :: f 56 :: f 57 :: f 58 :: f 59 :: f 60 :: f 61 :: f 62 :: f 63 :: f 64 :: f 65 :: f 66 :: f 67 :: f 68 :: f 69 :: f 70 :: f 71 :: f 72 :: f 73 :: f 74 :: f 75 :: f 76 :: f 77 :: f 78 :: f 79 :: f 80 :: [])), []⟩ ∧ ∀ k, slot a k = f k := letters_as a hs.size hs.defers
  rw [hf] at e0 e3 e5
  rw [ea, e0, e3, e5]
  have HS := Lib.hid hs
  have HF := Lib.hid hf
  have E0 := Lib.hid e0
  have E3 := Lib.hid e3
  have E5 := Lib.hid e5
  clear hs ea hf hN hl h0 e0 h3 e3 h5 e5
  obtain ⟨c0, c1, c2, c3, c4, c5, c6, c7, c8, c9, c10⟩ := (CellsAt.of_blk hA).boxrg
  clear hA
  have x0 : ∀ d os, (grow (redrawn w d) os).cell? ⟨X, 0, none⟩ = some (.bool b0) := fun d os => ((below_regrown w d os).cell (p := ⟨X, 0, none⟩) hX.lt).trans (hX.cell 0)
  have x1 : ∀ d os, (grow (redrawn w d) os).cell? ⟨X, 1, none⟩ = some (.bool b1) := fun d os => ((below_regrown w d os).cell (p := ⟨X, 1, none⟩) hX.lt).trans (hX.cell 1)
  have x2 : ∀ d os, (grow (redrawn w d) os).cell? ⟨X, 2, none⟩ = some (.bool b2) := fun d os => ((below_regrown w d os).cell (p := ⟨X, 2, none⟩) hX.lt).trans (hX.cell 2)
  have x3 : ∀ d os, (grow (redrawn w d) os).cell? ⟨X, 3, none⟩ = some (.bool b3) := fun d os => ((below_regrown w d os).cell (p := ⟨X, 3, none⟩) hX.lt).trans (hX.cell 3)
  clear hX
  have hne := neq_four b0 b1 b2 b3
  have hss : (s.toList != s.toList) = false := by simp
  unfold Hd.cells at HAB HTY HNA ⊢
  have HAB := Lib.hid HAB
  have HTY := Lib.hid HTY
  have HNA := Lib.hid HNA
  have hml := figure_mtype
  have hmn := figure_ntype
  conv => arg 2; whnf
  refine wp_region_below (by kernel_rfl) (by kernel_rfl) ?_
  repeat (go_big_quiet_step ((first | exact Calls.regrown_of (HAB.out _ (below_regrown _ _ _)) | exact Calls.regrown_of (HTY.out _ (below_regrown _ _ _)) | exact Calls.regrown_of (HNA.out _ (below_regrown _ _ _)))))
  refine wpQuiet_nil ?_
  intro w' hb
  go_wp2_with fail
  refine HN.out _ _ ?_ hb
  exact Sl.add (Sl.stay [0, 3, 5] HS.out HF.out (by kernel_rfl) rfl ⟨Eq.trans (by kernel_rfl) E0.out.symm, Eq.trans (by kernel_rfl) E3.out.symm, Eq.trans (by kernel_rfl) E5.out.symm, trivial⟩ HL.out) (by kernel_rfl)
set_option maxHeartbeats 4000000 in
theorem as_r2_letter (a : Act) (w : World) (N : Act → World → Prop) (Q : Exit → Act → World → Prop) (l : List (Nat × Value)) (hs : Sl 81 a l) (hl : (l.map Prod.fst).all (fun k => [0, 3, 5].contains k) = true)
    (h : Hd) (pa : Option Addr) (pc : Nat) (ia : Option Addr) (n ic A : Nat) (hA : Blk w A 28 (h.cells pa pc ia n ic)) (qa : Option Addr) (qc : Nat) (ja : Option Addr) (jc : Nat) (s : ByteArray) (X : Nat) (b0 b1 b2 b3 : Bool) (hX : Blk w X 149 #[.bool b0, .bool b1, .bool b2, .bool b3]) (HAB : (∀ W, Below w.heap.size w W → Calls Tryd.prog 78 #[.iface 116 (.agg (h.cells qa qc ja n jc))] W fun e w' => e = .returned (.agg #[.bool b0, .bool b1, .bool b2, .bool b3]) ∧ Below W.heap.size W w')) (HTY : (∀ W, Below w.heap.size w W → Calls Tryd.prog 144 #[.agg (h.cells qa qc ja n jc)] W fun e w' => e = .returned (.string s) ∧ Below W.heap.size W w')) (HNA : (∀ W, Below w.heap.size w W → Calls Tryd.prog 79 #[.agg (h.cells pa pc ia n ic)] W fun e w' => e = .returned (.string s) ∧ Below W.heap.size W w')) (h0 : l.lookup 0 = some (.iface 116 (.agg (h.cells qa qc ja n jc)))) (h3 : l.lookup 3 = some (.pointer (some ⟨A, 0, none⟩))) (h5 : l.lookup 5 = some (.pointer (some ⟨X, 0, none⟩)))
    (hN : ∀ a' w', Sl 81 a' ((33, .bool false) :: l) → Below w.heap.size w w' → N a' w') : (r_as 2).wp Tryd.prog (Exit.then N Q) a w := by
  have HN := Lib.hid hN
  have HL := Lib.hid hl
  have e0 := hs.look 0 h0
  have e3 := hs.look 3 h3
  have e5 := hs.look 5 h5
  obtain ⟨f, ea, hf⟩ : ∃ f : Nat → Value, a = ⟨(List.toArray (f 0 :: f 1 :: f 2 :: f 3 :: f 4 :: f 5 :: f 6 :: f 7 :: f 8 :: f 9 :: f 10 :: f 11 :: f 12 :: f 13 :: f 14 :: f 15 :: f 16 :: f 17 :: f 18 :: f 19 :: f 20 :: f 21 :: f 22 :: f 23 :: f 24 :: f 25 :: f 26 :: f 27 :: f 28 :: f 29 :: f 30 :: f 31 :: f 32 :: f 33 :: f 34 :: f 35 :: f 36 :: f 37 :: f 38 :: f 39 :: f 40 :: f 41 :: f 42 :: f 43 :: f 44 :: f 45 :: f 46 :: f 47 :: f 48 :: f 49 :: f 50 :: f 51 :: f 52 :: f 53 :: f 54 :: f 55 :: f 56 :: f 57 :: f 58 :: f 59 :: f 60 :: f 61 :: f 62 :: f 63 :: f 64 :: f 65 :: f 66 :: f 67 :: f 68 :: f 69 :: f 70 :: f 71 :: f 72 :: f 73 :: f 74 :: f 75 :: f 76 :: f 77 :: f 78 :: f 79 :: f 80 :: [])), []⟩ ∧ ∀ k, slot a k = f k := letters_as a hs.size hs.defers
  rw [hf] at e0 e3 e5
  rw [ea, e0, e3, e5]
  have HS := Lib.hid hs
  have HF := Lib.hid hf
  have E0 := Lib.hid e0
  have E3 := Lib.hid e3
  have E5 := Lib.hid e5
  clear hs ea hf hN hl h0 e0 h3 e3 h5 e5
  obtain ⟨c0, c1, c2, c3, c4, c5, c6, c7, c8, c9, c10⟩ := (CellsAt.of_blk hA).boxrg
  clear hA
  have x0 : ∀ d os, (grow (redrawn w d) os).cell? ⟨X, 0, none⟩ = some (.bool b0) := fun d os => ((below_regrown w d os).cell (p := ⟨X, 0, none⟩) hX.lt).trans (hX.cell 0)
  have x1 : ∀ d os, (grow (redrawn w d) os).cell? ⟨X, 1, none⟩ = some (.bool b1) := fun d os => ((below_regrown w d os).cell (p := ⟨X, 1, none⟩) hX.lt).trans (hX.cell 1)
  have x2 : ∀ d os, (grow (redrawn w d) os).cell? ⟨X, 2, none⟩ = some (.bool b2) := fun d os => ((below_regrown w d os).cell (p := ⟨X, 2, none⟩) hX.lt).trans (hX.cell 2)
  have x3 : ∀ d os, (grow (redrawn w d) os).cell? ⟨X, 3, none⟩ = some (.bool b3) := fun d os => ((below_regrown w d os).cell (p := ⟨X, 3, none⟩) hX.lt).trans (hX.cell 3)
  clear hX
  have hne := neq_four b0 b1 b2 b3
  have hss : (s.toList != s.toList) = false := by simp
  unfold Hd.cells at HAB HTY HNA ⊢
  have HAB := Lib.hid HAB
  have HTY := Lib.hid HTY
  have HNA := Lib.hid HNA
  have hml := letter_mtype
  have hmn := letter_ntype
  conv => arg 2; whnf
  refine wp_region_below (by kernel_rfl) (by kernel_rfl) ?_
  repeat (go_big_quiet_step ((first | exact Calls.regrown_of (HAB.out _ (below_regrown _ _ _)) | exact Calls.regrown_of (HTY.out _ (below_regrown _ _ _)) | exact Calls.regrown_of (HNA.out _ (below_regrown _ _ _)))))
  refine wpQuiet_nil ?_
  intro w' hb
  go_wp2_with fail
  refine HN.out _ _ ?_ hb
  exact Sl.add (Sl.stay [0, 3, 5] HS.out HF.out (by kernel_rfl) rfl ⟨Eq.trans (by kernel_rfl) E0.out.symm, Eq.trans (by kernel_rfl) E3.out.symm, Eq.trans (by kernel_rfl) E5.out.symm, trivial⟩ HL.out) (by kernel_rfl)
set_option maxHeartbeats 4000000 in
theorem as_r2_row (a : Act) (w : World) (N : Act → World → Prop) (Q : Exit → Act → World → Prop) (l : List (Nat × Value)) (hs : Sl 81 a l) (hl : (l.map Prod.fst).all (fun k => [0, 3, 5].contains k) = true)
    (h : Hd) (pa : Option Addr) (pc : Nat) (ia : Option Addr) (n ic A : Nat) (hA : Blk w A 28 (h.cells pa pc ia n ic)) (qa : Option Addr) (qc : Nat) (ja : Option Addr) (jc : Nat) (s : ByteArray) (X : Nat) (b0 b1 b2 b3 : Bool) (hX : Blk w X 149 #[.bool b0, .bool b1, .bool b2, .bool b3]) (HAB : (∀ W, Below w.heap.size w W → Calls Tryd.prog 78 #[.iface 117 (.agg (h.cells qa qc ja n jc))] W fun e w' => e = .returned (.agg #[.bool b0, .bool b1, .bool b2, .bool b3]) ∧ Below W.heap.size W w')) (HTY : (∀ W, Below w.heap.size w W → Calls Tryd.prog 144 #[.agg (h.cells qa qc ja n jc)] W fun e w' => e = .returned (.string s) ∧ Below W.heap.size W w')) (HNA : (∀ W, Below w.heap.size w W → Calls Tryd.prog 79 #[.agg (h.cells pa pc ia n ic)] W fun e w' => e = .returned (.string s) ∧ Below W.heap.size W w')) (h0 : l.lookup 0 = some (.iface 117 (.agg (h.cells qa qc ja n jc)))) (h3 : l.lookup 3 = some (.pointer (some ⟨A, 0, none⟩))) (h5 : l.lookup 5 = some (.pointer (some ⟨X, 0, none⟩)))
    (hN : ∀ a' w', Sl 81 a' ((33, .bool false) :: l) → Below w.heap.size w w' → N a' w') : (r_as 2).wp Tryd.prog (Exit.then N Q) a w := by
  have HN := Lib.hid hN
  have HL := Lib.hid hl
  have e0 := hs.look 0 h0
  have e3 := hs.look 3 h3
  have e5 := hs.look 5 h5
  obtain ⟨f, ea, hf⟩ : ∃ f : Nat → Value, a = ⟨(List.toArray (f 0 :: f 1 :: f 2 :: f 3 :: f 4 :: f 5 :: f 6 :: f 7 :: f 8 :: f 9 :: f 10 :: f 11 :: f 12 :: f 13 :: f 14 :: f 15 :: f 16 :: f 17 :: f 18 :: f 19 :: f 20 :: f 21 :: f 22 :: f 23 :: f 24 :: f 25 :: f 26 :: f 27 :: f 28 :: f 29 :: f 30 :: f 31 :: f 32 :: f 33 :: f 34 :: f 35 :: f 36 :: f 37 :: f 38 :: f 39 :: f 40 :: f 41 :: f 42 :: f 43 :: f 44 :: f 45 :: f 46 :: f 47 :: f 48 :: f 49 :: f 50 :: f 51 :: f 52 :: f 53 :: f 54 :: f 55 :: f 56 :: f 57 :: f 58 :: f 59 :: f 60 :: f 61 :: f 62 :: f 63 :: f 64 :: f 65 :: f 66 :: f 67 :: f 68 :: f 69 :: f 70 :: f 71 :: f 72 :: f 73 :: f 74 :: f 75 :: f 76 :: f 77 :: f 78 :: f 79 :: f 80 :: [])), []⟩ ∧ ∀ k, slot a k = f k := letters_as a hs.size hs.defers
  rw [hf] at e0 e3 e5
  rw [ea, e0, e3, e5]
  have HS := Lib.hid hs
  have HF := Lib.hid hf
  have E0 := Lib.hid e0
  have E3 := Lib.hid e3
  have E5 := Lib.hid e5
  clear hs ea hf hN hl h0 e0 h3 e3 h5 e5
  obtain ⟨c0, c1, c2, c3, c4, c5, c6, c7, c8, c9, c10⟩ := (CellsAt.of_blk hA).boxrg
  clear hA
  have x0 : ∀ d os, (grow (redrawn w d) os).cell? ⟨X, 0, none⟩ = some (.bool b0) := fun d os => ((below_regrown w d os).cell (p := ⟨X, 0, none⟩) hX.lt).trans (hX.cell 0)
  have x1 : ∀ d os, (grow (redrawn w d) os).cell? ⟨X, 1, none⟩ = some (.bool b1) := fun d os => ((below_regrown w d os).cell (p := ⟨X, 1, none⟩) hX.lt).trans (hX.cell 1)
  have x2 : ∀ d os, (grow (redrawn w d) os).cell? ⟨X, 2, none⟩ = some (.bool b2) := fun d os => ((below_regrown w d os).cell (p := ⟨X, 2, none⟩) hX.lt).trans (hX.cell 2)
  have x3 : ∀ d os, (grow (redrawn w d) os).cell? ⟨X, 3, none⟩ = some (.bool b3) := fun d os => ((below_regrown w d os).cell (p := ⟨X, 3, none⟩) hX.lt).trans (hX.cell 3)
  clear hX
  have hne := neq_four b0 b1 b2 b3
  have hss : (s.toList != s.toList) = false := by simp
  unfold Hd.cells at HAB HTY HNA ⊢
  have HAB := Lib.hid HAB
  have HTY := Lib.hid HTY
  have HNA := Lib.hid HNA
  have hml := row_mtype
  have hmn := row_ntype
  conv => arg 2; whnf
  refine wp_region_below (by kernel_rfl) (by kernel_rfl) ?_
  repeat (go_big_quiet_step ((first | exact Calls.regrown_of (HAB.out _ (below_regrown _ _ _)) | exact Calls.regrown_of (HTY.out _ (below_regrown _ _ _)) | exact Calls.regrown_of (HNA.out _ (below_regrown _ _ _)))))
  refine wpQuiet_nil ?_
  intro w' hb
  go_wp2_with fail
  refine HN.out _ _ ?_ hb
  exact Sl.add (Sl.stay [0, 3, 5] HS.out HF.out (by kernel_rfl) rfl ⟨Eq.trans (by kernel_rfl) E0.out.symm, Eq.trans (by kernel_rfl) E3.out.symm, Eq.trans (by kernel_rfl) E5.out.symm, trivial⟩ HL.out) (by kernel_rfl)
set_option maxHeartbeats 4000000 in
theorem as_r2_lead (a : Act) (w : World) (N : Act → World → Prop) (Q : Exit → Act → World → Prop) (l : List (Nat × Value)) (hs : Sl 81 a l) (hl : (l.map Prod.fst).all (fun k => [0, 3, 5].contains k) = true)
    (h : Hd) (pa : Option Addr) (pc : Nat) (ia : Option Addr) (n ic A : Nat) (hA : Blk w A 28 (h.cells pa pc ia n ic)) (qa : Option Addr) (qc : Nat) (ja : Option Addr) (jc : Nat) (s : ByteArray) (X : Nat) (b0 b1 b2 b3 : Bool) (hX : Blk w X 149 #[.bool b0, .bool b1, .bool b2, .bool b3]) (HAB : (∀ W, Below w.heap.size w W → Calls Tryd.prog 78 #[.iface 118 (.agg (h.cells qa qc ja n jc))] W fun e w' => e = .returned (.agg #[.bool b0, .bool b1, .bool b2, .bool b3]) ∧ Below W.heap.size W w')) (HTY : (∀ W, Below w.heap.size w W → Calls Tryd.prog 144 #[.agg (h.cells qa qc ja n jc)] W fun e w' => e = .returned (.string s) ∧ Below W.heap.size W w')) (HNA : (∀ W, Below w.heap.size w W → Calls Tryd.prog 79 #[.agg (h.cells pa pc ia n ic)] W fun e w' => e = .returned (.string s) ∧ Below W.heap.size W w')) (h0 : l.lookup 0 = some (.iface 118 (.agg (h.cells qa qc ja n jc)))) (h3 : l.lookup 3 = some (.pointer (some ⟨A, 0, none⟩))) (h5 : l.lookup 5 = some (.pointer (some ⟨X, 0, none⟩)))
    (hN : ∀ a' w', Sl 81 a' ((33, .bool false) :: l) → Below w.heap.size w w' → N a' w') : (r_as 2).wp Tryd.prog (Exit.then N Q) a w := by
  have HN := Lib.hid hN
  have HL := Lib.hid hl
  have e0 := hs.look 0 h0
  have e3 := hs.look 3 h3
  have e5 := hs.look 5 h5
  obtain ⟨f, ea, hf⟩ : ∃ f : Nat → Value, a = ⟨(List.toArray (f 0 :: f 1 :: f 2 :: f 3 :: f 4 :: f 5 :: f 6 :: f 7 :: f 8 :: f 9 :: f 10 :: f 11 :: f 12 :: f 13 :: f 14 :: f 15 :: f 16 :: f 17 :: f 18 :: f 19 :: f 20 :: f 21 :: f 22 :: f 23 :: f 24 :: f 25 :: f 26 :: f 27 :: f 28 :: f 29 :: f 30 :: f 31 :: f 32 :: f 33 :: f 34 :: f 35 :: f 36 :: f 37 :: f 38 :: f 39 :: f 40 :: f 41 :: f 42 :: f 43 :: f 44 :: f 45 :: f 46 :: f 47 :: f 48 :: f 49 :: f 50 :: f 51 :: f 52 :: f 53 :: f 54 :: f 55 :: f 56 :: f 57 :: f 58 :: f 59 :: f 60 :: f 61 :: f 62 :: f 63 :: f 64 :: f 65 :: f 66 :: f 67 :: f 68 :: f 69 :: f 70 :: f 71 :: f 72 :: f 73 :: f 74 :: f 75 :: f 76 :: f 77 :: f 78 :: f 79 :: f 80 :: [])), []⟩ ∧ ∀ k, slot a k = f k := letters_as a hs.size hs.defers
  rw [hf] at e0 e3 e5
  rw [ea, e0, e3, e5]
  have HS := Lib.hid hs
  have HF := Lib.hid hf
  have E0 := Lib.hid e0
  have E3 := Lib.hid e3
  have E5 := Lib.hid e5
  clear hs ea hf hN hl h0 e0 h3 e3 h5 e5
  obtain ⟨c0, c1, c2, c3, c4, c5, c6, c7, c8, c9, c10⟩ := (CellsAt.of_blk hA).boxrg
  clear hA
  have x0 : ∀ d os, (grow (redrawn w d) os).cell? ⟨X, 0, none⟩ = some (.bool b0) := fun d os => ((below_regrown w d os).cell (p := ⟨X, 0, none⟩) hX.lt).trans (hX.cell 0)
  have x1 : ∀ d os, (grow (redrawn w d) os).cell? ⟨X, 1, none⟩ = some (.bool b1) := fun d os => ((below_regrown w d os).cell (p := ⟨X, 1, none⟩) hX.lt).trans (hX.cell 1)
  have x2 : ∀ d os, (grow (redrawn w d) os).cell? ⟨X, 2, none⟩ = some (.bool b2) := fun d os => ((below_regrown w d os).cell (p := ⟨X, 2, none⟩) hX.lt).trans (hX.cell 2)
  have x3 : ∀ d os, (grow (redrawn w d) os).cell? ⟨X, 3, none⟩ = some (.bool b3) := fun d os => ((below_regrown w d os).cell (p := ⟨X, 3, none⟩) hX.lt).trans (hX.cell 3)
  clear hX
  have hne := neq_four b0 b1 b2 b3
  have hss : (s.toList != s.toList) = false := by simp
  unfold Hd.cells at HAB HTY HNA ⊢
  have HAB := Lib.hid HAB
  have HTY := Lib.hid HTY
  have HNA := Lib.hid HNA
  have hml := lead_mtype
  have hmn := lead_ntype
  conv => arg 2; whnf
  refine wp_region_below (by kernel_rfl) (by kernel_rfl) ?_
  repeat (go_big_quiet_step ((first | exact Calls.regrown_of (HAB.out _ (below_regrown _ _ _)) | exact Calls.regrown_of (HTY.out _ (below_regrown _ _ _)) | exact Calls.regrown_of (HNA.out _ (below_regrown _ _ _)))))
  refine wpQuiet_nil ?_
  intro w' hb
  go_wp2_with fail
  refine HN.out _ _ ?_ hb
  exact Sl.add (Sl.stay [0, 3, 5] HS.out HF.out (by kernel_rfl) rfl ⟨Eq.trans (by kernel_rfl) E0.out.symm, Eq.trans (by kernel_rfl) E3.out.symm, Eq.trans (by kernel_rfl) E5.out.symm, trivial⟩ HL.out) (by kernel_rfl)
set_option maxHeartbeats 4000000 in
theorem as_r2_arrow (a : Act) (w : World) (N : Act → World → Prop) (Q : Exit → Act → World → Prop) (l : List (Nat × Value)) (hs : Sl 81 a l) (hl : (l.map Prod.fst).all (fun k => [0, 3, 5].contains k) = true)
    (h : Hd) (pa : Option Addr) (pc : Nat) (ia : Option Addr) (n ic A : Nat) (hA : Blk w A 28 (h.cells pa pc ia n ic)) (qa : Option Addr) (qc : Nat) (ja : Option Addr) (jc : Nat) (s : ByteArray) (X : Nat) (b0 b1 b2 b3 : Bool) (hX : Blk w X 149 #[.bool b0, .bool b1, .bool b2, .bool b3]) (HAB : (∀ W, Below w.heap.size w W → Calls Tryd.prog 78 #[.iface 119 (.agg (h.cells qa qc ja n jc))] W fun e w' => e = .returned (.agg #[.bool b0, .bool b1, .bool b2, .bool b3]) ∧ Below W.heap.size W w')) (HTY : (∀ W, Below w.heap.size w W → Calls Tryd.prog 144 #[.agg (h.cells qa qc ja n jc)] W fun e w' => e = .returned (.string s) ∧ Below W.heap.size W w')) (HNA : (∀ W, Below w.heap.size w W → Calls Tryd.prog 79 #[.agg (h.cells pa pc ia n ic)] W fun e w' => e = .returned (.string s) ∧ Below W.heap.size W w')) (h0 : l.lookup 0 = some (.iface 119 (.agg (h.cells qa qc ja n jc)))) (h3 : l.lookup 3 = some (.pointer (some ⟨A, 0, none⟩))) (h5 : l.lookup 5 = some (.pointer (some ⟨X, 0, none⟩)))
    (hN : ∀ a' w', Sl 81 a' ((33, .bool false) :: l) → Below w.heap.size w w' → N a' w') : (r_as 2).wp Tryd.prog (Exit.then N Q) a w := by
  have HN := Lib.hid hN
  have HL := Lib.hid hl
  have e0 := hs.look 0 h0
  have e3 := hs.look 3 h3
  have e5 := hs.look 5 h5
  obtain ⟨f, ea, hf⟩ : ∃ f : Nat → Value, a = ⟨(List.toArray (f 0 :: f 1 :: f 2 :: f 3 :: f 4 :: f 5 :: f 6 :: f 7 :: f 8 :: f 9 :: f 10 :: f 11 :: f 12 :: f 13 :: f 14 :: f 15 :: f 16 :: f 17 :: f 18 :: f 19 :: f 20 :: f 21 :: f 22 :: f 23 :: f 24 :: f 25 :: f 26 :: f 27 :: f 28 :: f 29 :: f 30 :: f 31 :: f 32 :: f 33 :: f 34 :: f 35 :: f 36 :: f 37 :: f 38 :: f 39 :: f 40 :: f 41 :: f 42 :: f 43 :: f 44 :: f 45 :: f 46 :: f 47 :: f 48 :: f 49 :: f 50 :: f 51 :: f 52 :: f 53 :: f 54 :: f 55 :: f 56 :: f 57 :: f 58 :: f 59 :: f 60 :: f 61 :: f 62 :: f 63 :: f 64 :: f 65 :: f 66 :: f 67 :: f 68 :: f 69 :: f 70 :: f 71 :: f 72 :: f 73 :: f 74 :: f 75 :: f 76 :: f 77 :: f 78 :: f 79 :: f 80 :: [])), []⟩ ∧ ∀ k, slot a k = f k := letters_as a hs.size hs.defers
  rw [hf] at e0 e3 e5
  rw [ea, e0, e3, e5]
  have HS := Lib.hid hs
  have HF := Lib.hid hf
  have E0 := Lib.hid e0
  have E3 := Lib.hid e3
  have E5 := Lib.hid e5
  clear hs ea hf hN hl h0 e0 h3 e3 h5 e5
  obtain ⟨c0, c1, c2, c3, c4, c5, c6, c7, c8, c9, c10⟩ := (CellsAt.of_blk hA).boxrg
  clear hA
  have x0 : ∀ d os, (grow (redrawn w d) os).cell? ⟨X, 0, none⟩ = some (.bool b0) := fun d os => ((below_regrown w d os).cell (p := ⟨X, 0, none⟩) hX.lt).trans (hX.cell 0)
  have x1 : ∀ d os, (grow (redrawn w d) os).cell? ⟨X, 1, none⟩ = some (.bool b1) := fun d os => ((below_regrown w d os).cell (p := ⟨X, 1, none⟩) hX.lt).trans (hX.cell 1)
  have x2 : ∀ d os, (grow (redrawn w d) os).cell? ⟨X, 2, none⟩ = some (.bool b2) := fun d os => ((below_regrown w d os).cell (p := ⟨X, 2, none⟩) hX.lt).trans (hX.cell 2)
  have x3 : ∀ d os, (grow (redrawn w d) os).cell? ⟨X, 3, none⟩ = some (.bool b3) := fun d os => ((below_regrown w d os).cell (p := ⟨X, 3, none⟩) hX.lt).trans (hX.cell 3)
  clear hX
  have hne := neq_four b0 b1 b2 b3
  have hss : (s.toList != s.toList) = false := by simp
  unfold Hd.cells at HAB HTY HNA ⊢
  have HAB := Lib.hid HAB
  have HTY := Lib.hid HTY
  have HNA := Lib.hid HNA
  have hml := arrow_mtype
  have hmn := arrow_ntype
  conv => arg 2; whnf
  refine wp_region_below (by kernel_rfl) (by kernel_rfl) ?_
  repeat (go_big_quiet_step ((first | exact Calls.regrown_of (HAB.out _ (below_regrown _ _ _)) | exact Calls.regrown_of (HTY.out _ (below_regrown _ _ _)) | exact Calls.regrown_of (HNA.out _ (below_regrown _ _ _)))))
  refine wpQuiet_nil ?_
  intro w' hb
  go_wp2_with fail
  refine HN.out _ _ ?_ hb
  exact Sl.add (Sl.stay [0, 3, 5] HS.out HF.out (by kernel_rfl) rfl ⟨Eq.trans (by kernel_rfl) E0.out.symm, Eq.trans (by kernel_rfl) E3.out.symm, Eq.trans (by kernel_rfl) E5.out.symm, trivial⟩ HL.out) (by kernel_rfl)
set_option maxHeartbeats 4000000 in
theorem as_r2_record (a : Act) (w : World) (N : Act → World → Prop) (Q : Exit → Act → World → Prop) (l : List (Nat × Value)) (hs : Sl 81 a l) (hl : (l.map Prod.fst).all (fun k => [0, 3, 5].contains k) = true)
    (h : Hd) (pa : Option Addr) (pc : Nat) (ia : Option Addr) (n ic A : Nat) (hA : Blk w A 28 (h.cells pa pc ia n ic)) (qa : Option Addr) (qc : Nat) (ja : Option Addr) (jc : Nat) (s : ByteArray) (X : Nat) (b0 b1 b2 b3 : Bool) (hX : Blk w X 149 #[.bool b0, .bool b1, .bool b2, .bool b3]) (HAB : (∀ W, Below w.heap.size w W → Calls Tryd.prog 78 #[.iface 121 (.agg (h.cells qa qc ja n jc))] W fun e w' => e = .returned (.agg #[.bool b0, .bool b1, .bool b2, .bool b3]) ∧ Below W.heap.size W w')) (HTY : (∀ W, Below w.heap.size w W → Calls Tryd.prog 144 #[.agg (h.cells qa qc ja n jc)] W fun e w' => e = .returned (.string s) ∧ Below W.heap.size W w')) (HNA : (∀ W, Below w.heap.size w W → Calls Tryd.prog 79 #[.agg (h.cells pa pc ia n ic)] W fun e w' => e = .returned (.string s) ∧ Below W.heap.size W w')) (h0 : l.lookup 0 = some (.iface 121 (.agg (h.cells qa qc ja n jc)))) (h3 : l.lookup 3 = some (.pointer (some ⟨A, 0, none⟩))) (h5 : l.lookup 5 = some (.pointer (some ⟨X, 0, none⟩)))
    (hN : ∀ a' w', Sl 81 a' ((33, .bool false) :: l) → Below w.heap.size w w' → N a' w') : (r_as 2).wp Tryd.prog (Exit.then N Q) a w := by
  have HN := Lib.hid hN
  have HL := Lib.hid hl
  have e0 := hs.look 0 h0
  have e3 := hs.look 3 h3
  have e5 := hs.look 5 h5
  obtain ⟨f, ea, hf⟩ : ∃ f : Nat → Value, a = ⟨(List.toArray (f 0 :: f 1 :: f 2 :: f 3 :: f 4 :: f 5 :: f 6 :: f 7 :: f 8 :: f 9 :: f 10 :: f 11 :: f 12 :: f 13 :: f 14 :: f 15 :: f 16 :: f 17 :: f 18 :: f 19 :: f 20 :: f 21 :: f 22 :: f 23 :: f 24 :: f 25 :: f 26 :: f 27 :: f 28 :: f 29 :: f 30 :: f 31 :: f 32 :: f 33 :: f 34 :: f 35 :: f 36 :: f 37 :: f 38 :: f 39 :: f 40 :: f 41 :: f 42 :: f 43 :: f 44 :: f 45 :: f 46 :: f 47 :: f 48 :: f 49 :: f 50 :: f 51 :: f 52 :: f 53 :: f 54 :: f 55 :: f 56 :: f 57 :: f 58 :: f 59 :: f 60 :: f 61 :: f 62 :: f 63 :: f 64 :: f 65 :: f 66 :: f 67 :: f 68 :: f 69 :: f 70 :: f 71 :: f 72 :: f 73 :: f 74 :: f 75 :: f 76 :: f 77 :: f 78 :: f 79 :: f 80 :: [])), []⟩ ∧ ∀ k, slot a k = f k := letters_as a hs.size hs.defers
  rw [hf] at e0 e3 e5
  rw [ea, e0, e3, e5]
  have HS := Lib.hid hs
  have HF := Lib.hid hf
  have E0 := Lib.hid e0
  have E3 := Lib.hid e3
  have E5 := Lib.hid e5
  clear hs ea hf hN hl h0 e0 h3 e3 h5 e5
  obtain ⟨c0, c1, c2, c3, c4, c5, c6, c7, c8, c9, c10⟩ := (CellsAt.of_blk hA).boxrg
  clear hA
  have x0 : ∀ d os, (grow (redrawn w d) os).cell? ⟨X, 0, none⟩ = some (.bool b0) := fun d os => ((below_regrown w d os).cell (p := ⟨X, 0, none⟩) hX.lt).trans (hX.cell 0)
  have x1 : ∀ d os, (grow (redrawn w d) os).cell? ⟨X, 1, none⟩ = some (.bool b1) := fun d os => ((below_regrown w d os).cell (p := ⟨X, 1, none⟩) hX.lt).trans (hX.cell 1)
  have x2 : ∀ d os, (grow (redrawn w d) os).cell? ⟨X, 2, none⟩ = some (.bool b2) := fun d os => ((below_regrown w d os).cell (p := ⟨X, 2, none⟩) hX.lt).trans (hX.cell 2)
  have x3 : ∀ d os, (grow (redrawn w d) os).cell? ⟨X, 3, none⟩ = some (.bool b3) := fun d os => ((below_regrown w d os).cell (p := ⟨X, 3, none⟩) hX.lt).trans (hX.cell 3)
  clear hX
  have hne := neq_four b0 b1 b2 b3
  have hss : (s.toList != s.toList) = false := by simp
  unfold Hd.cells at HAB HTY HNA ⊢
  have HAB := Lib.hid HAB
  have HTY := Lib.hid HTY
  have HNA := Lib.hid HNA
  have hml := record_mtype
  have hmn := record_ntype
  conv => arg 2; whnf
  refine wp_region_below (by kernel_rfl) (by kernel_rfl) ?_
  repeat (go_big_quiet_step ((first | exact Calls.regrown_of (HAB.out _ (below_regrown _ _ _)) | exact Calls.regrown_of (HTY.out _ (below_regrown _ _ _)) | exact Calls.regrown_of (HNA.out _ (below_regrown _ _ _)))))
  refine wpQuiet_nil ?_
  intro w' hb
  go_wp2_with fail
  refine HN.out _ _ ?_ hb
  exact Sl.add (Sl.stay [0, 3, 5] HS.out HF.out (by kernel_rfl) rfl ⟨Eq.trans (by kernel_rfl) E0.out.symm, Eq.trans (by kernel_rfl) E3.out.symm, Eq.trans (by kernel_rfl) E5.out.symm, trivial⟩ HL.out) (by kernel_rfl)
set_option maxHeartbeats 4000000 in
theorem as_r2_filed (a : Act) (w : World) (N : Act → World → Prop) (Q : Exit → Act → World → Prop) (l : List (Nat × Value)) (hs : Sl 81 a l) (hl : (l.map Prod.fst).all (fun k => [0, 3, 5].contains k) = true)
    (h : Hd) (pa : Option Addr) (pc : Nat) (ia : Option Addr) (n ic A : Nat) (hA : Blk w A 28 (h.cells pa pc ia n ic)) (qa : Option Addr) (qc : Nat) (ja : Option Addr) (jc : Nat) (s : ByteArray) (X : Nat) (b0 b1 b2 b3 : Bool) (hX : Blk w X 149 #[.bool b0, .bool b1, .bool b2, .bool b3]) (HAB : (∀ W, Below w.heap.size w W → Calls Tryd.prog 78 #[.iface 123 (.agg (h.cells qa qc ja n jc))] W fun e w' => e = .returned (.agg #[.bool b0, .bool b1, .bool b2, .bool b3]) ∧ Below W.heap.size W w')) (HTY : (∀ W, Below w.heap.size w W → Calls Tryd.prog 144 #[.agg (h.cells qa qc ja n jc)] W fun e w' => e = .returned (.string s) ∧ Below W.heap.size W w')) (HNA : (∀ W, Below w.heap.size w W → Calls Tryd.prog 79 #[.agg (h.cells pa pc ia n ic)] W fun e w' => e = .returned (.string s) ∧ Below W.heap.size W w')) (h0 : l.lookup 0 = some (.iface 123 (.agg (h.cells qa qc ja n jc)))) (h3 : l.lookup 3 = some (.pointer (some ⟨A, 0, none⟩))) (h5 : l.lookup 5 = some (.pointer (some ⟨X, 0, none⟩)))
    (hN : ∀ a' w', Sl 81 a' ((33, .bool false) :: l) → Below w.heap.size w w' → N a' w') : (r_as 2).wp Tryd.prog (Exit.then N Q) a w := by
  have HN := Lib.hid hN
  have HL := Lib.hid hl
  have e0 := hs.look 0 h0
  have e3 := hs.look 3 h3
  have e5 := hs.look 5 h5
  obtain ⟨f, ea, hf⟩ : ∃ f : Nat → Value, a = ⟨(List.toArray (f 0 :: f 1 :: f 2 :: f 3 :: f 4 :: f 5 :: f 6 :: f 7 :: f 8 :: f 9 :: f 10 :: f 11 :: f 12 :: f 13 :: f 14 :: f 15 :: f 16 :: f 17 :: f 18 :: f 19 :: f 20 :: f 21 :: f 22 :: f 23 :: f 24 :: f 25 :: f 26 :: f 27 :: f 28 :: f 29 :: f 30 :: f 31 :: f 32 :: f 33 :: f 34 :: f 35 :: f 36 :: f 37 :: f 38 :: f 39 :: f 40 :: f 41 :: f 42 :: f 43 :: f 44 :: f 45 :: f 46 :: f 47 :: f 48 :: f 49 :: f 50 :: f 51 :: f 52 :: f 53 :: f 54 :: f 55 :: f 56 :: f 57 :: f 58 :: f 59 :: f 60 :: f 61 :: f 62 :: f 63 :: f 64 :: f 65 :: f 66 :: f 67 :: f 68 :: f 69 :: f 70 :: f 71 :: f 72 :: f 73 :: f 74 :: f 75 :: f 76 :: f 77 :: f 78 :: f 79 :: f 80 :: [])), []⟩ ∧ ∀ k, slot a k = f k := letters_as a hs.size hs.defers
  rw [hf] at e0 e3 e5
  rw [ea, e0, e3, e5]
  have HS := Lib.hid hs
  have HF := Lib.hid hf
  have E0 := Lib.hid e0
  have E3 := Lib.hid e3
  have E5 := Lib.hid e5
  clear hs ea hf hN hl h0 e0 h3 e3 h5 e5
  obtain ⟨c0, c1, c2, c3, c4, c5, c6, c7, c8, c9, c10⟩ := (CellsAt.of_blk hA).boxrg
  clear hA
  have x0 : ∀ d os, (grow (redrawn w d) os).cell? ⟨X, 0, none⟩ = some (.bool b0) := fun d os => ((below_regrown w d os).cell (p := ⟨X, 0, none⟩) hX.lt).trans (hX.cell 0)
  have x1 : ∀ d os, (grow (redrawn w d) os).cell? ⟨X, 1, none⟩ = some (.bool b1) := fun d os => ((below_regrown w d os).cell (p := ⟨X, 1, none⟩) hX.lt).trans (hX.cell 1)
  have x2 : ∀ d os, (grow (redrawn w d) os).cell? ⟨X, 2, none⟩ = some (.bool b2) := fun d os => ((below_regrown w d os).cell (p := ⟨X, 2, none⟩) hX.lt).trans (hX.cell 2)
  have x3 : ∀ d os, (grow (redrawn w d) os).cell? ⟨X, 3, none⟩ = some (.bool b3) := fun d os => ((below_regrown w d os).cell (p := ⟨X, 3, none⟩) hX.lt).trans (hX.cell 3)
  clear hX
  have hne := neq_four b0 b1 b2 b3
  have hss : (s.toList != s.toList) = false := by simp
  unfold Hd.cells at HAB HTY HNA ⊢
  have HAB := Lib.hid HAB
  have HTY := Lib.hid HTY
  have HNA := Lib.hid HNA
  have hml := filed_mtype
  have hmn := filed_ntype
  conv => arg 2; whnf
  refine wp_region_below (by kernel_rfl) (by kernel_rfl) ?_
  repeat (go_big_quiet_step ((first | exact Calls.regrown_of (HAB.out _ (below_regrown _ _ _)) | exact Calls.regrown_of (HTY.out _ (below_regrown _ _ _)) | exact Calls.regrown_of (HNA.out _ (below_regrown _ _ _)))))
  refine wpQuiet_nil ?_
  intro w' hb
  go_wp2_with fail
  refine HN.out _ _ ?_ hb
  exact Sl.add (Sl.stay [0, 3, 5] HS.out HF.out (by kernel_rfl) rfl ⟨Eq.trans (by kernel_rfl) E0.out.symm, Eq.trans (by kernel_rfl) E3.out.symm, Eq.trans (by kernel_rfl) E5.out.symm, trivial⟩ HL.out) (by kernel_rfl)
set_option maxHeartbeats 4000000 in
theorem as_r4T (a : Act) (w : World) (N : Act → World → Prop) (Q : Exit → Act → World → Prop) (l : List (Nat × Value)) (hs : Sl 81 a l) (hl : (l.map Prod.fst).all (fun k => [0, 3].contains k) = true)
    (t : TypeId) (ht : ValTy t) (v : Value) (hb : sizedT t = true) (h0 : l.lookup 0 = some (.iface t v))
    (hN : ∀ a', Sl 81 a' ((7, .bool true) :: ((6, .iface t v) :: l)) → N a' (w)) : (r_as 4).wp Tryd.prog (Exit.then N Q) a w := by
  have HN := Lib.hid hN
  have HL := Lib.hid hl
  have e0 := hs.look 0 h0
  obtain ⟨f, ea, hf⟩ : ∃ f : Nat → Value, a = ⟨(List.toArray (f 0 :: f 1 :: f 2 :: f 3 :: f 4 :: f 5 :: f 6 :: f 7 :: f 8 :: f 9 :: f 10 :: f 11 :: f 12 :: f 13 :: f 14 :: f 15 :: f 16 :: f 17 :: f 18 :: f 19 :: f 20 :: f 21 :: f 22 :: f 23 :: f 24 :: f 25 :: f 26 :: f 27 :: f 28 :: f 29 :: f 30 :: f 31 :: f 32 :: f 33 :: f 34 :: f 35 :: f 36 :: f 37 :: f 38 :: f 39 :: f 40 :: f 41 :: f 42 :: f 43 :: f 44 :: f 45 :: f 46 :: f 47 :: f 48 :: f 49 :: f 50 :: f 51 :: f 52 :: f 53 :: f 54 :: f 55 :: f 56 :: f 57 :: f 58 :: f 59 :: f 60 :: f 61 :: f 62 :: f 63 :: f 64 :: f 65 :: f 66 :: f 67 :: f 68 :: f 69 :: f 70 :: f 71 :: f 72 :: f 73 :: f 74 :: f 75 :: f 76 :: f 77 :: f 78 :: f 79 :: f 80 :: [])), []⟩ ∧ ∀ k, slot a k = f k := letters_as a hs.size hs.defers
  rw [hf] at e0
  rw [ea, e0]
  have HS := Lib.hid hs
  have HF := Lib.hid hf
  have E0 := Lib.hid e0
  clear hs ea hf hN hl h0 e0
  have hta := fun W => assert_sized ht v W
  simp only [hb, if_true] at hta
  clear ht hb
  conv => arg 2; whnf
  go_wp2_with fail
  refine HN.out _ ?_
  exact Sl.add (Sl.add (Sl.stay [0, 3] HS.out HF.out (by kernel_rfl) rfl ⟨Eq.trans (by kernel_rfl) E0.out.symm, by kernel_rfl, trivial⟩ HL.out) (by kernel_rfl)) (by kernel_rfl)
set_option maxHeartbeats 4000000 in
theorem as_r4F (a : Act) (w : World) (N : Act → World → Prop) (Q : Exit → Act → World → Prop) (l : List (Nat × Value)) (hs : Sl 81 a l) (hl : (l.map Prod.fst).all (fun k => [0, 3].contains k) = true)
    (t : TypeId) (ht : ValTy t) (v : Value) (hb : sizedT t = false) (h0 : l.lookup 0 = some (.iface t v))
    (hN : ∀ a', Sl 81 a' ((7, .bool false) :: ((6, .nilIface) :: l)) → N a' (w)) : (r_as 4).wp Tryd.prog (Exit.then N Q) a w := by
  have HN := Lib.hid hN
  have HL := Lib.hid hl
  have e0 := hs.look 0 h0
  obtain ⟨f, ea, hf⟩ : ∃ f : Nat → Value, a = ⟨(List.toArray (f 0 :: f 1 :: f 2 :: f 3 :: f 4 :: f 5 :: f 6 :: f 7 :: f 8 :: f 9 :: f 10 :: f 11 :: f 12 :: f 13 :: f 14 :: f 15 :: f 16 :: f 17 :: f 18 :: f 19 :: f 20 :: f 21 :: f 22 :: f 23 :: f 24 :: f 25 :: f 26 :: f 27 :: f 28 :: f 29 :: f 30 :: f 31 :: f 32 :: f 33 :: f 34 :: f 35 :: f 36 :: f 37 :: f 38 :: f 39 :: f 40 :: f 41 :: f 42 :: f 43 :: f 44 :: f 45 :: f 46 :: f 47 :: f 48 :: f 49 :: f 50 :: f 51 :: f 52 :: f 53 :: f 54 :: f 55 :: f 56 :: f 57 :: f 58 :: f 59 :: f 60 :: f 61 :: f 62 :: f 63 :: f 64 :: f 65 :: f 66 :: f 67 :: f 68 :: f 69 :: f 70 :: f 71 :: f 72 :: f 73 :: f 74 :: f 75 :: f 76 :: f 77 :: f 78 :: f 79 :: f 80 :: [])), []⟩ ∧ ∀ k, slot a k = f k := letters_as a hs.size hs.defers
  rw [hf] at e0
  rw [ea, e0]
  have HS := Lib.hid hs
  have HF := Lib.hid hf
  have E0 := Lib.hid e0
  clear hs ea hf hN hl h0 e0
  have hta := fun W => assert_sized ht v W
  simp only [hb, Bool.false_eq_true, if_false] at hta
  clear ht hb
  conv => arg 2; whnf
  go_wp2_with fail
  refine HN.out _ ?_
  exact Sl.add (Sl.add (Sl.stay [0, 3] HS.out HF.out (by kernel_rfl) rfl ⟨Eq.trans (by kernel_rfl) E0.out.symm, by kernel_rfl, trivial⟩ HL.out) (by kernel_rfl)) (by kernel_rfl)
set_option maxHeartbeats 4000000 in
theorem as_r7T (a : Act) (w : World) (N : Act → World → Prop) (Q : Exit → Act → World → Prop) (l : List (Nat × Value)) (hs : Sl 81 a l) (hl : (l.map Prod.fst).all (fun k => [0, 3].contains k) = true)
    (t : TypeId) (ht : ValTy t) (v : Value) (hb : pointT t = true) (h0 : l.lookup 0 = some (.iface t v))
    (hN : ∀ a', Sl 81 a' ((9, .bool true) :: ((8, .iface t v) :: l)) → N a' (w)) : (r_as 7).wp Tryd.prog (Exit.then N Q) a w := by
  have HN := Lib.hid hN
  have HL := Lib.hid hl
  have e0 := hs.look 0 h0
  obtain ⟨f, ea, hf⟩ : ∃ f : Nat → Value, a = ⟨(List.toArray (f 0 :: f 1 :: f 2 :: f 3 :: f 4 :: f 5 :: f 6 :: f 7 :: f 8 :: f 9 :: f 10 :: f 11 :: f 12 :: f 13 :: f 14 :: f 15 :: f 16 :: f 17 :: f 18 :: f 19 :: f 20 :: f 21 :: f 22 :: f 23 :: f 24 :: f 25 :: f 26 :: f 27 :: f 28 :: f 29 :: f 30 :: f 31 :: f 32 :: f 33 :: f 34 :: f 35 :: f 36 :: f 37 :: f 38 :: f 39 :: f 40 :: f 41 :: f 42 :: f 43 :: f 44 :: f 45 :: f 46 :: f 47 :: f 48 :: f 49 :: f 50 :: f 51 :: f 52 :: f 53 :: f 54 :: f 55 :: f 56 :: f 57 :: f 58 :: f 59 :: f 60 :: f 61 :: f 62 :: f 63 :: f 64 :: f 65 :: f 66 :: f 67 :: f 68 :: f 69 :: f 70 :: f 71 :: f 72 :: f 73 :: f 74 :: f 75 :: f 76 :: f 77 :: f 78 :: f 79 :: f 80 :: [])), []⟩ ∧ ∀ k, slot a k = f k := letters_as a hs.size hs.defers
  rw [hf] at e0
  rw [ea, e0]
  have HS := Lib.hid hs
  have HF := Lib.hid hf
  have E0 := Lib.hid e0
  clear hs ea hf hN hl h0 e0
  have hta := fun W => assert_pointing ht v W
  simp only [hb, if_true] at hta
  clear ht hb
  conv => arg 2; whnf
  go_wp2_with fail
  refine HN.out _ ?_
  exact Sl.add (Sl.add (Sl.stay [0, 3] HS.out HF.out (by kernel_rfl) rfl ⟨Eq.trans (by kernel_rfl) E0.out.symm, by kernel_rfl, trivial⟩ HL.out) (by kernel_rfl)) (by kernel_rfl)
set_option maxHeartbeats 4000000 in
theorem as_r7F (a : Act) (w : World) (N : Act → World → Prop) (Q : Exit → Act → World → Prop) (l : List (Nat × Value)) (hs : Sl 81 a l) (hl : (l.map Prod.fst).all (fun k => [0, 3].contains k) = true)
    (t : TypeId) (ht : ValTy t) (v : Value) (hb : pointT t = false) (h0 : l.lookup 0 = some (.iface t v))
    (hN : ∀ a', Sl 81 a' ((9, .bool false) :: ((8, .nilIface) :: l)) → N a' (w)) : (r_as 7).wp Tryd.prog (Exit.then N Q) a w := by
  have HN := Lib.hid hN
  have HL := Lib.hid hl
  have e0 := hs.look 0 h0
  obtain ⟨f, ea, hf⟩ : ∃ f : Nat → Value, a = ⟨(List.toArray (f 0 :: f 1 :: f 2 :: f 3 :: f 4 :: f 5 :: f 6 :: f 7 :: f 8 :: f 9 :: f 10 :: f 11 :: f 12 :: f 13 :: f 14 :: f 15 :: f 16 :: f 17 :: f 18 :: f 19 :: f 20 :: f 21 :: f 22 :: f 23 :: f 24 :: f 25 :: f 26 :: f 27 :: f 28 :: f 29 :: f 30 :: f 31 :: f 32 :: f 33 :: f 34 :: f 35 :: f 36 :: f 37 :: f 38 :: f 39 :: f 40 :: f 41 :: f 42 :: f 43 :: f 44 :: f 45 :: f 46 :: f 47 :: f 48 :: f 49 :: f 50 :: f 51 :: f 52 :: f 53 :: f 54 :: f 55 :: f 56 :: f 57 :: f 58 :: f 59 :: f 60 :: f 61 :: f 62 :: f 63 :: f 64 :: f 65 :: f 66 :: f 67 :: f 68 :: f 69 :: f 70 :: f 71 :: f 72 :: f 73 :: f 74 :: f 75 :: f 76 :: f 77 :: f 78 :: f 79 :: f 80 :: [])), []⟩ ∧ ∀ k, slot a k = f k := letters_as a hs.size hs.defers
  rw [hf] at e0
  rw [ea, e0]
  have HS := Lib.hid hs
  have HF := Lib.hid hf
  have E0 := Lib.hid e0
  clear hs ea hf hN hl h0 e0
  have hta := fun W => assert_pointing ht v W
  simp only [hb, Bool.false_eq_true, if_false] at hta
  clear ht hb
  conv => arg 2; whnf
  go_wp2_with fail
  refine HN.out _ ?_
  exact Sl.add (Sl.add (Sl.stay [0, 3] HS.out HF.out (by kernel_rfl) rfl ⟨Eq.trans (by kernel_rfl) E0.out.symm, by kernel_rfl, trivial⟩ HL.out) (by kernel_rfl)) (by kernel_rfl)
set_option maxHeartbeats 4000000 in
theorem as_r10T (a : Act) (w : World) (N : Act → World → Prop) (Q : Exit → Act → World → Prop) (l : List (Nat × Value)) (hs : Sl 81 a l) (hl : (l.map Prod.fst).all (fun k => [0, 3].contains k) = true)
    (t : TypeId) (ht : ValTy t) (v : Value) (hb : keyedT t = true) (h0 : l.lookup 0 = some (.iface t v))
    (hN : ∀ a', Sl 81 a' ((11, .bool true) :: ((10, .iface t v) :: l)) → N a' (w)) : (r_as 10).wp Tryd.prog (Exit.then N Q) a w := by
  have HN := Lib.hid hN
  have HL := Lib.hid hl
  have e0 := hs.look 0 h0
  obtain ⟨f, ea, hf⟩ : ∃ f : Nat → Value, a = ⟨(List.toArray (f 0 :: f 1 :: f 2 :: f 3 :: f 4 :: f 5 :: f 6 :: f 7 :: f 8 :: f 9 :: f 10 :: f 11 :: f 12 :: f 13 :: f 14 :: f 15 :: f 16 :: f 17 :: f 18 :: f 19 :: f 20 :: f 21 :: f 22 :: f 23 :: f 24 :: f 25 :: f 26 :: f 27 :: f 28 :: f 29 :: f 30 :: f 31 :: f 32 :: f 33 :: f 34 :: f 35 :: f 36 :: f 37 :: f 38 :: f 39 :: f 40 :: f 41 :: f 42 :: f 43 :: f 44 :: f 45 :: f 46 :: f 47 :: f 48 :: f 49 :: f 50 :: f 51 :: f 52 :: f 53 :: f 54 :: f 55 :: f 56 :: f 57 :: f 58 :: f 59 :: f 60 :: f 61 :: f 62 :: f 63 :: f 64 :: f 65 :: f 66 :: f 67 :: f 68 :: f 69 :: f 70 :: f 71 :: f 72 :: f 73 :: f 74 :: f 75 :: f 76 :: f 77 :: f 78 :: f 79 :: f 80 :: [])), []⟩ ∧ ∀ k, slot a k = f k := letters_as a hs.size hs.defers
  rw [hf] at e0
  rw [ea, e0]
  have HS := Lib.hid hs
  have HF := Lib.hid hf
  have E0 := Lib.hid e0
  clear hs ea hf hN hl h0 e0
  have hta := fun W => assert_keyed ht v W
  simp only [hb, if_true] at hta
  clear ht hb
  conv => arg 2; whnf
  go_wp2_with fail
  refine HN.out _ ?_
  exact Sl.add (Sl.add (Sl.stay [0, 3] HS.out HF.out (by kernel_rfl) rfl ⟨Eq.trans (by kernel_rfl) E0.out.symm, by kernel_rfl, trivial⟩ HL.out) (by kernel_rfl)) (by kernel_rfl)
set_option maxHeartbeats 4000000 in
theorem as_r10F (a : Act) (w : World) (N : Act → World → Prop) (Q : Exit → Act → World → Prop) (l : List (Nat × Value)) (hs : Sl 81 a l) (hl : (l.map Prod.fst).all (fun k => [0, 3].contains k) = true)
    (t : TypeId) (ht : ValTy t) (v : Value) (hb : keyedT t = false) (h0 : l.lookup 0 = some (.iface t v))
    (hN : ∀ a', Sl 81 a' ((11, .bool false) :: ((10, .nilIface) :: l)) → N a' (w)) : (r_as 10).wp Tryd.prog (Exit.then N Q) a w := by
  have HN := Lib.hid hN
  have HL := Lib.hid hl
  have e0 := hs.look 0 h0
  obtain ⟨f, ea, hf⟩ : ∃ f : Nat → Value, a = ⟨(List.toArray (f 0 :: f 1 :: f 2 :: f 3 :: f 4 :: f 5 :: f 6 :: f 7 :: f 8 :: f 9 :: f 10 :: f 11 :: f 12 :: f 13 :: f 14 :: f 15 :: f 16 :: f 17 :: f 18 :: f 19 :: f 20 :: f 21 :: f 22 :: f 23 :: f 24 :: f 25 :: f 26 :: f 27 :: f 28 :: f 29 :: f 30 :: f 31 :: f 32 :: f 33 :: f 34 :: f 35 :: f 36 :: f 37 :: f 38 :: f 39 :: f 40 :: f 41 :: f 42 :: f 43 :: f 44 :: f 45 :: f 46 :: f 47 :: f 48 :: f 49 :: f 50 :: f 51 :: f 52 :: f 53 :: f 54 :: f 55 :: f 56 :: f 57 :: f 58 :: f 59 :: f 60 :: f 61 :: f 62 :: f 63 :: f 64 :: f 65 :: f 66 :: f 67 :: f 68 :: f 69 :: f 70 :: f 71 :: f 72 :: f 73 :: f 74 :: f 75 :: f 76 :: f 77 :: f 78 :: f 79 :: f 80 :: [])), []⟩ ∧ ∀ k, slot a k = f k := letters_as a hs.size hs.defers
  rw [hf] at e0
  rw [ea, e0]
  have HS := Lib.hid hs
  have HF := Lib.hid hf
  have E0 := Lib.hid e0
  clear hs ea hf hN hl h0 e0
  have hta := fun W => assert_keyed ht v W
  simp only [hb, Bool.false_eq_true, if_false] at hta
  clear ht hb
  conv => arg 2; whnf
  go_wp2_with fail
  refine HN.out _ ?_
  exact Sl.add (Sl.add (Sl.stay [0, 3] HS.out HF.out (by kernel_rfl) rfl ⟨Eq.trans (by kernel_rfl) E0.out.symm, by kernel_rfl, trivial⟩ HL.out) (by kernel_rfl)) (by kernel_rfl)
set_option maxHeartbeats 4000000 in
theorem as_r5F (a : Act) (w : World) (N : Act → World → Prop) (Q : Exit → Act → World → Prop) (l : List (Nat × Value)) (hs : Sl 81 a l) (hl : (l.map Prod.fst).all (fun k => [0, 3].contains k) = true)
     (h7 : slot a 7 = .bool false)
    (hN : ∀ a' w', Sl 81 a' ((46, .bool false) :: l) → Below w.heap.size w w' → N a' w') : (r_as 5).wp Tryd.prog (Exit.then N Q) a w := by
  have HN := Lib.hid hN
  have HL := Lib.hid hl
  have e7 := h7
  obtain ⟨f, ea, hf⟩ : ∃ f : Nat → Value, a = ⟨(List.toArray (f 0 :: f 1 :: f 2 :: f 3 :: f 4 :: f 5 :: f 6 :: f 7 :: f 8 :: f 9 :: f 10 :: f 11 :: f 12 :: f 13 :: f 14 :: f 15 :: f 16 :: f 17 :: f 18 :: f 19 :: f 20 :: f 21 :: f 22 :: f 23 :: f 24 :: f 25 :: f 26 :: f 27 :: f 28 :: f 29 :: f 30 :: f 31 :: f 32 :: f 33 :: f 34 :: f 35 :: f 36 :: f 37 :: f 38 :: f 39 :: f 40 :: f 41 :: f 42 :: f 43 :: f 44 :: f 45 :: f 46 :: f 47 :: f 48 :: f 49 :: f 50 :: f 51 :: f 52 :: f 53 :: f 54 :: f 55 :: f 56 :: f 57 :: f 58 :: f 59 :: f 60 :: f 61 :: f 62 :: f 63 :: f 64 :: f 65 :: f 66 :: f 67 :: f 68 :: f 69 :: f 70 :: f 71 :: f 72 :: f 73 :: f 74 :: f 75 :: f 76 :: f 77 :: f 78 :: f 79 :: f 80 :: [])), []⟩ ∧ ∀ k, slot a k = f k := letters_as a hs.size hs.defers
  rw [hf] at e7
  rw [ea, e7]
  have HS := Lib.hid hs
  have HF := Lib.hid hf
  have E7 := Lib.hid e7
  clear hs ea hf hN hl h7 e7
  conv => arg 2; whnf
  refine wp_region_below (by kernel_rfl) (by kernel_rfl) ?_
  repeat (go_big_quiet_step ((fail)))
  refine wpQuiet_nil ?_
  intro w' hb
  go_wp2_with fail
  refine HN.out _ _ ?_ hb
  exact Sl.add (Sl.stay [0, 3] HS.out HF.out (by kernel_rfl) rfl ⟨by kernel_rfl, by kernel_rfl, trivial⟩ HL.out) (by kernel_rfl)
set_option maxHeartbeats 4000000 in
theorem as_r8F (a : Act) (w : World) (N : Act → World → Prop) (Q : Exit → Act → World → Prop) (l : List (Nat × Value)) (hs : Sl 81 a l) (hl : (l.map Prod.fst).all (fun k => [0, 3].contains k) = true)
     (h9 : slot a 9 = .bool false)
    (hN : ∀ a' w', Sl 81 a' ((61, .bool false) :: l) → Below w.heap.size w w' → N a' w') : (r_as 8).wp Tryd.prog (Exit.then N Q) a w := by
  have HN := Lib.hid hN
  have HL := Lib.hid hl
  have e9 := h9
  obtain ⟨f, ea, hf⟩ : ∃ f : Nat → Value, a = ⟨(List.toArray (f 0 :: f 1 :: f 2 :: f 3 :: f 4 :: f 5 :: f 6 :: f 7 :: f 8 :: f 9 :: f 10 :: f 11 :: f 12 :: f 13 :: f 14 :: f 15 :: f 16 :: f 17 :: f 18 :: f 19 :: f 20 :: f 21 :: f 22 :: f 23 :: f 24 :: f 25 :: f 26 :: f 27 :: f 28 :: f 29 :: f 30 :: f 31 :: f 32 :: f 33 :: f 34 :: f 35 :: f 36 :: f 37 :: f 38 :: f 39 :: f 40 :: f 41 :: f 42 :: f 43 :: f 44 :: f 45 :: f 46 :: f 47 :: f 48 :: f 49 :: f 50 :: f 51 :: f 52 :: f 53 :: f 54 :: f 55 :: f 56 :: f 57 :: f 58 :: f 59 :: f 60 :: f 61 :: f 62 :: f 63 :: f 64 :: f 65 :: f 66 :: f 67 :: f 68 :: f 69 :: f 70 :: f 71 :: f 72 :: f 73 :: f 74 :: f 75 :: f 76 :: f 77 :: f 78 :: f 79 :: f 80 :: [])), []⟩ ∧ ∀ k, slot a k = f k := letters_as a hs.size hs.defers
  rw [hf] at e9
  rw [ea, e9]
  have HS := Lib.hid hs
  have HF := Lib.hid hf
  have E9 := Lib.hid e9
  clear hs ea hf hN hl h9 e9
  conv => arg 2; whnf
  refine wp_region_below (by kernel_rfl) (by kernel_rfl) ?_
  repeat (go_big_quiet_step ((fail)))
  refine wpQuiet_nil ?_
  intro w' hb
  go_wp2_with fail
  refine HN.out _ _ ?_ hb
  exact Sl.add (Sl.stay [0, 3] HS.out HF.out (by kernel_rfl) rfl ⟨by kernel_rfl, by kernel_rfl, trivial⟩ HL.out) (by kernel_rfl)
set_option maxHeartbeats 4000000 in
theorem as_r5_letter (a : Act) (w : World) (N : Act → World → Prop) (Q : Exit → Act → World → Prop) (l : List (Nat × Value)) (hs : Sl 81 a l) (hl : (l.map Prod.fst).all (fun k => [0, 3].contains k) = true)
    (h : Hd) (pa : Option Addr) (pc : Nat) (ia : Option Addr) (n ic A : Nat) (hA : Blk w A 28 (h.cells pa pc ia n ic)) (qa : Option Addr) (qc : Nat) (ja : Option Addr) (jc : Nat) (m : Int) (HV : (∀ W, Below w.heap.size w W → Calls Tryd.prog 155 #[.agg (h.cells qa qc ja n jc)] W fun e w' => e = .returned (.int .i64 m) ∧ Below W.heap.size W w')) (HR : (∀ W, Below w.heap.size w W → Calls Tryd.prog 80 #[.agg (h.cells pa pc ia n ic)] W fun e w' => e = .returned (.int .i64 m) ∧ Below W.heap.size W w')) (h3 : l.lookup 3 = some (.pointer (some ⟨A, 0, none⟩))) (h6 : slot a 6 = .iface 116 (.agg (h.cells qa qc ja n jc))) (h7 : slot a 7 = .bool true)
    (hN : ∀ a' w', Sl 81 a' ((46, .bool false) :: l) → Below w.heap.size w w' → N a' w') : (r_as 5).wp Tryd.prog (Exit.then N Q) a w := by
  have HN := Lib.hid hN
  have HL := Lib.hid hl
  have e3 := hs.look 3 h3
  have e6 := h6
  have e7 := h7
  obtain ⟨f, ea, hf⟩ : ∃ f : Nat → Value, a = ⟨(List.toArray (f 0 :: f 1 :: f 2 :: f 3 :: f 4 :: f 5 :: f 6 :: f 7 :: f 8 :: f 9 :: f 10 :: f 11 :: f 12 :: f 13 :: f 14 :: f 15 :: f 16 :: f 17 :: f 18 :: f 19 :: f 20 :: f 21 :: f 22 :: f 23 :: f 24 :: f 25 :: f 26 :: f 27 :: f 28 :: f 29 :: f 30 :: f 31 :: f 32 :: f 33 :: f 34 :: f 35 :: f 36 :: f 37 :: f 38 :: f 39 :: f 40 :: f 41 :: f 42 :: f 43 :: f 44 :: f 45 :: f 46 :: f 47 :: f 48 :: f 49 :: f 50 :: f 51 :: f 52 :: f 53 :: f 54 :: f 55 :: f 56 :: f 57 :: f 58 :: f 59 :: f 60 :: f 61 :: f 62 :: f 63 :: f 64 :: f 65 :: f 66 :: f 67 :: f 68 :: f 69 :: f 70 :: f 71 :: f 72 :: f 73 :: f 74 :: f 75 :: f 76 :: f 77 :: f 78 :: f 79 :: f 80 :: [])), []⟩ ∧ ∀ k, slot a k = f k := letters_as a hs.size hs.defers
  rw [hf] at e3 e6 e7
  rw [ea, e3, e6, e7]
  have HS := Lib.hid hs
  have HF := Lib.hid hf
  have E3 := Lib.hid e3
  have E6 := Lib.hid e6
  have E7 := Lib.hid e7
  clear hs ea hf hN hl h3 e3 h6 e6 h7 e7
  obtain ⟨c0, c1, c2, c3, c4, c5, c6, c7, c8, c9, c10⟩ := (CellsAt.of_blk hA).boxrg
  clear hA
  have hmm : (m != m) = false := by simp
  unfold Hd.cells at HV HR ⊢
  have HV2 := Lib.hid HV
  have HR := Lib.hid HR
  have hml := letter_mLen
  have hmn := letter_nLen
  conv => arg 2; whnf
  refine wp_region_below (by kernel_rfl) (by kernel_rfl) ?_
  repeat (go_big_quiet_step ((first | exact Calls.regrown_of (HV2.out _ (below_regrown _ _ _)) | exact Calls.regrown_of (HR.out _ (below_regrown _ _ _)))))
  refine wpQuiet_nil ?_
  intro w' hb
  go_wp2_with fail
  refine HN.out _ _ ?_ hb
  exact Sl.add (Sl.stay [0, 3] HS.out HF.out (by kernel_rfl) rfl ⟨by kernel_rfl, Eq.trans (by kernel_rfl) E3.out.symm, trivial⟩ HL.out) (by kernel_rfl)
set_option maxHeartbeats 4000000 in
theorem as_r5_row (a : Act) (w : World) (N : Act → World → Prop) (Q : Exit → Act → World → Prop) (l : List (Nat × Value)) (hs : Sl 81 a l) (hl : (l.map Prod.fst).all (fun k => [0, 3].contains k) = true)
    (h : Hd) (pa : Option Addr) (pc : Nat) (ia : Option Addr) (n ic A : Nat) (hA : Blk w A 28 (h.cells pa pc ia n ic)) (qa : Option Addr) (qc : Nat) (ja : Option Addr) (jc : Nat) (m : Int) (HV : (∀ W, Below w.heap.size w W → Calls Tryd.prog 157 #[.agg (h.cells qa qc ja n jc)] W fun e w' => e = .returned (.int .i64 m) ∧ Below W.heap.size W w')) (HR : (∀ W, Below w.heap.size w W → Calls Tryd.prog 80 #[.agg (h.cells pa pc ia n ic)] W fun e w' => e = .returned (.int .i64 m) ∧ Below W.heap.size W w')) (h3 : l.lookup 3 = some (.pointer (some ⟨A, 0, none⟩))) (h6 : slot a 6 = .iface 117 (.agg (h.cells qa qc ja n jc))) (h7 : slot a 7 = .bool true)
    (hN : ∀ a' w', Sl 81 a' ((46, .bool false) :: l) → Below w.heap.size w w' → N a' w') : (r_as 5).wp Tryd.prog (Exit.then N Q) a w := by
  have HN := Lib.hid hN
  have HL := Lib.hid hl
  have e3 := hs.look 3 h3
  have e6 := h6
  have e7 := h7
  obtain ⟨f, ea, hf⟩ : ∃ f : Nat → Value, a = ⟨(List.toArray (f 0 :: f 1 :: f 2 :: f 3 :: f 4 :: f 5 :: f 6 :: f 7 :: f 8 :: f 9 :: f 10 :: f 11 :: f 12 :: f 13 :: f 14 :: f 15 :: f 16 :: f 17 :: f 18 :: f 19 :: f 20 :: f 21 :: f 22 :: f 23 :: f 24 :: f 25 :: f 26 :: f 27 :: f 28 :: f 29 :: f 30 :: f 31 :: f 32 :: f 33 :: f 34 :: f 35 :: f 36 :: f 37 :: f 38 :: f 39 :: f 40 :: f 41 :: f 42 :: f 43 :: f 44 :: f 45 :: f 46 :: f 47 :: f 48 :: f 49 :: f 50 :: f 51 :: f 52 :: f 53 :: f 54 :: f 55 :: f 56 :: f 57 :: f 58 :: f 59 :: f 60 :: f 61 :: f 62 :: f 63 :: f 64 :: f 65 :: f 66 :: f 67 :: f 68 :: f 69 :: f 70 :: f 71 :: f 72 :: f 73 :: f 74 :: f 75 :: f 76 :: f 77 :: f 78 :: f 79 :: f 80 :: [])), []⟩ ∧ ∀ k, slot a k = f k := letters_as a hs.size hs.defers
  rw [hf] at e3 e6 e7
  rw [ea, e3, e6, e7]
  have HS := Lib.hid hs
  have HF := Lib.hid hf
  have E3 := Lib.hid e3
  have E6 := Lib.hid e6
  have E7 := Lib.hid e7
  clear hs ea hf hN hl h3 e3 h6 e6 h7 e7
  obtain ⟨c0, c1, c2, c3, c4, c5, c6, c7, c8, c9, c10⟩ := (CellsAt.of_blk hA).boxrg
  clear hA
  have hmm : (m != m) = false := by simp
  unfold Hd.cells at HV HR ⊢
  have HV2 := Lib.hid HV
  have HR := Lib.hid HR
  have hml := row_mLen
  have hmn := row_nLen
  conv => arg 2; whnf
  refine wp_region_below (by kernel_rfl) (by kernel_rfl) ?_
  repeat (go_big_quiet_step ((first | exact Calls.regrown_of (HV2.out _ (below_regrown _ _ _)) | exact Calls.regrown_of (HR.out _ (below_regrown _ _ _)))))
  refine wpQuiet_nil ?_
  intro w' hb
  go_wp2_with fail
  refine HN.out _ _ ?_ hb
  exact Sl.add (Sl.stay [0, 3] HS.out HF.out (by kernel_rfl) rfl ⟨by kernel_rfl, Eq.trans (by kernel_rfl) E3.out.symm, trivial⟩ HL.out) (by kernel_rfl)
set_option maxHeartbeats 4000000 in
theorem as_r8_row_true (a : Act) (w : World) (N : Act → World → Prop) (Q : Exit → Act → World → Prop) (l : List (Nat × Value)) (hs : Sl 81 a l) (hl : (l.map Prod.fst).all (fun k => [0, 3].contains k) = true)
    (h : Hd) (pa : Option Addr) (pc : Nat) (ia : Option Addr) (n ic A : Nat) (hA : Blk w A 28 (h.cells pa pc ia n ic)) (qa : Option Addr) (qc : Nat) (ja : Option Addr) (jc : Nat) (ho : (h.obj == 0) = true) (HV : (∀ W, Below w.heap.size w W → Calls Tryd.prog 158 #[.agg (h.cells qa qc ja n jc)] W fun e w' => e = .returned (.bool true) ∧ Below W.heap.size W w')) (h3 : l.lookup 3 = some (.pointer (some ⟨A, 0, none⟩))) (h8 : slot a 8 = .iface 117 (.agg (h.cells qa qc ja n jc))) (h9 : slot a 9 = .bool true)
    (hN : ∀ a' w', Sl 81 a' ((61, .bool false) :: l) → Below w.heap.size w w' → N a' w') : (r_as 8).wp Tryd.prog (Exit.then N Q) a w := by
  have HN := Lib.hid hN
  have HL := Lib.hid hl
  have e3 := hs.look 3 h3
  have e8 := h8
  have e9 := h9
  obtain ⟨f, ea, hf⟩ : ∃ f : Nat → Value, a = ⟨(List.toArray (f 0 :: f 1 :: f 2 :: f 3 :: f 4 :: f 5 :: f 6 :: f 7 :: f 8 :: f 9 :: f 10 :: f 11 :: f 12 :: f 13 :: f 14 :: f 15 :: f 16 :: f 17 :: f 18 :: f 19 :: f 20 :: f 21 :: f 22 :: f 23 :: f 24 :: f 25 :: f 26 :: f 27 :: f 28 :: f 29 :: f 30 :: f 31 :: f 32 :: f 33 :: f 34 :: f 35 :: f 36 :: f 37 :: f 38 :: f 39 :: f 40 :: f 41 :: f 42 :: f 43 :: f 44 :: f 45 :: f 46 :: f 47 :: f 48 :: f 49 :: f 50 :: f 51 :: f 52 :: f 53 :: f 54 :: f 55 :: f 56 :: f 57 :: f 58 :: f 59 :: f 60 :: f 61 :: f 62 :: f 63 :: f 64 :: f 65 :: f 66 :: f 67 :: f 68 :: f 69 :: f 70 :: f 71 :: f 72 :: f 73 :: f 74 :: f 75 :: f 76 :: f 77 :: f 78 :: f 79 :: f 80 :: [])), []⟩ ∧ ∀ k, slot a k = f k := letters_as a hs.size hs.defers
  rw [hf] at e3 e8 e9
  rw [ea, e3, e8, e9]
  have HS := Lib.hid hs
  have HF := Lib.hid hf
  have E3 := Lib.hid e3
  have E8 := Lib.hid e8
  have E9 := Lib.hid e9
  clear hs ea hf hN hl h3 e3 h8 e8 h9 e9
  obtain ⟨c0, c1, c2, c3, c4, c5, c6, c7, c8, c9, c10⟩ := (CellsAt.of_blk hA).boxrg
  clear hA
  unfold Hd.cells at HV ⊢
  have HV2 := Lib.hid HV
  have hml := row_mNone
  have hmn := row_nNone
  conv => arg 2; whnf
  refine wp_region_below (by kernel_rfl) (by kernel_rfl) ?_
  repeat (go_big_quiet_step ((exact Calls.regrown_of (HV2.out _ (below_regrown _ _ _)))))
  refine wpQuiet_nil ?_
  intro w' hb
  go_wp2_with fail
  refine HN.out _ _ ?_ hb
  exact Sl.add (Sl.stay [0, 3] HS.out HF.out (by kernel_rfl) rfl ⟨by kernel_rfl, Eq.trans (by kernel_rfl) E3.out.symm, trivial⟩ HL.out) (by kernel_rfl)
set_option maxHeartbeats 4000000 in
theorem as_r8_row_false (a : Act) (w : World) (N : Act → World → Prop) (Q : Exit → Act → World → Prop) (l : List (Nat × Value)) (hs : Sl 81 a l) (hl : (l.map Prod.fst).all (fun k => [0, 3].contains k) = true)
    (h : Hd) (pa : Option Addr) (pc : Nat) (ia : Option Addr) (n ic A : Nat) (hA : Blk w A 28 (h.cells pa pc ia n ic)) (qa : Option Addr) (qc : Nat) (ja : Option Addr) (jc : Nat) (ho : (h.obj == 0) = false) (HV : (∀ W, Below w.heap.size w W → Calls Tryd.prog 158 #[.agg (h.cells qa qc ja n jc)] W fun e w' => e = .returned (.bool false) ∧ Below W.heap.size W w')) (h3 : l.lookup 3 = some (.pointer (some ⟨A, 0, none⟩))) (h8 : slot a 8 = .iface 117 (.agg (h.cells qa qc ja n jc))) (h9 : slot a 9 = .bool true)
    (hN : ∀ a' w', Sl 81 a' ((61, .bool false) :: l) → Below w.heap.size w w' → N a' w') : (r_as 8).wp Tryd.prog (Exit.then N Q) a w := by
  have HN := Lib.hid hN
  have HL := Lib.hid hl
  have e3 := hs.look 3 h3
  have e8 := h8
  have e9 := h9
  obtain ⟨f, ea, hf⟩ : ∃ f : Nat → Value, a = ⟨(List.toArray (f 0 :: f 1 :: f 2 :: f 3 :: f 4 :: f 5 :: f 6 :: f 7 :: f 8 :: f 9 :: f 10 :: f 11 :: f 12 :: f 13 :: f 14 :: f 15 :: f 16 :: f 17 :: f 18 :: f 19 :: f 20 :: f 21 :: f 22 :: f 23 :: f 24 :: f 25 :: f 26 :: f 27 :: f 28 :: f 29 :: f 30 :: f 31 :: f 32 :: f 33 :: f 34 :: f 35 :: f 36 :: f 37 :: f 38 :: f 39 :: f 40 :: f 41 :: f 42 :: f 43 :: f 44 :: f 45 :: f 46 :: f 47 :: f 48 :: f 49 :: f 50 :: f 51 :: f 52 :: f 53 :: f 54 :: f 55 :: f 56 :: f 57 :: f 58 :: f 59 :: f 60 :: f 61 :: f 62 :: f 63 :: f 64 :: f 65 :: f 66 :: f 67 :: f 68 :: f 69 :: f 70 :: f 71 :: f 72 :: f 73 :: f 74 :: f 75 :: f 76 :: f 77 :: f 78 :: f 79 :: f 80 :: [])), []⟩ ∧ ∀ k, slot a k = f k := letters_as a hs.size hs.defers
  rw [hf] at e3 e8 e9
  rw [ea, e3, e8, e9]
  have HS := Lib.hid hs
  have HF := Lib.hid hf
  have E3 := Lib.hid e3
  have E8 := Lib.hid e8
  have E9 := Lib.hid e9
  clear hs ea hf hN hl h3 e3 h8 e8 h9 e9
  obtain ⟨c0, c1, c2, c3, c4, c5, c6, c7, c8, c9, c10⟩ := (CellsAt.of_blk hA).boxrg
  clear hA
  unfold Hd.cells at HV ⊢
  have HV2 := Lib.hid HV
  have hml := row_mNone
  have hmn := row_nNone
  conv => arg 2; whnf
  refine wp_region_below (by kernel_rfl) (by kernel_rfl) ?_
  repeat (go_big_quiet_step ((exact Calls.regrown_of (HV2.out _ (below_regrown _ _ _)))))
  refine wpQuiet_nil ?_
  intro w' hb
  go_wp2_with fail
  refine HN.out _ _ ?_ hb
  exact Sl.add (Sl.stay [0, 3] HS.out HF.out (by kernel_rfl) rfl ⟨by kernel_rfl, Eq.trans (by kernel_rfl) E3.out.symm, trivial⟩ HL.out) (by kernel_rfl)
set_option maxHeartbeats 4000000 in
theorem as_r8_lead_true (a : Act) (w : World) (N : Act → World → Prop) (Q : Exit → Act → World → Prop) (l : List (Nat × Value)) (hs : Sl 81 a l) (hl : (l.map Prod.fst).all (fun k => [0, 3].contains k) = true)
    (h : Hd) (pa : Option Addr) (pc : Nat) (ia : Option Addr) (n ic A : Nat) (hA : Blk w A 28 (h.cells pa pc ia n ic)) (qa : Option Addr) (qc : Nat) (ja : Option Addr) (jc : Nat) (ho : (h.obj == 0) = true) (HV : (∀ W, Below w.heap.size w W → Calls Tryd.prog 159 #[.agg (h.cells qa qc ja n jc)] W fun e w' => e = .returned (.bool true) ∧ Below W.heap.size W w')) (h3 : l.lookup 3 = some (.pointer (some ⟨A, 0, none⟩))) (h8 : slot a 8 = .iface 118 (.agg (h.cells qa qc ja n jc))) (h9 : slot a 9 = .bool true)
    (hN : ∀ a' w', Sl 81 a' ((61, .bool false) :: l) → Below w.heap.size w w' → N a' w') : (r_as 8).wp Tryd.prog (Exit.then N Q) a w := by
  have HN := Lib.hid hN
  have HL := Lib.hid hl
  have e3 := hs.look 3 h3
  have e8 := h8
  have e9 := h9
  obtain ⟨f, ea, hf⟩ : ∃ f : Nat → Value, a = ⟨(List.toArray (f 0 :: f 1 :: f 2 :: f 3 :: f 4 :: f 5 :: f 6 :: f 7 :: f 8 :: f 9 :: f 10 :: f 11 :: f 12 :: f 13 :: f 14 :: f 15 :: f 16 :: f 17 :: f 18 :: f 19 :: f 20 :: f 21 :: f 22 :: f 23 :: f 24 :: f 25 :: f 26 :: f 27 :: f 28 :: f 29 :: f 30 :: f 31 :: f 32 :: f 33 :: f 34 :: f 35 :: f 36 :: f 37 :: f 38 :: f 39 :: f 40 :: f 41 :: f 42 :: f 43 :: f 44 :: f 45 :: f 46 :: f 47 :: f 48 :: f 49 :: f 50 :: f 51 :: f 52 :: f 53 :: f 54 :: f 55 :: f 56 :: f 57 :: f 58 :: f 59 :: f 60 :: f 61 :: f 62 :: f 63 :: f 64 :: f 65 :: f 66 :: f 67 :: f 68 :: f 69 :: f 70 :: f 71 :: f 72 :: f 73 :: f 74 :: f 75 :: f 76 :: f 77 :: f 78 :: f 79 :: f 80 :: [])), []⟩ ∧ ∀ k, slot a k = f k := letters_as a hs.size hs.defers
  rw [hf] at e3 e8 e9
  rw [ea, e3, e8, e9]
  have HS := Lib.hid hs
  have HF := Lib.hid hf
  have E3 := Lib.hid e3
  have E8 := Lib.hid e8
  have E9 := Lib.hid e9
  clear hs ea hf hN hl h3 e3 h8 e8 h9 e9
  obtain ⟨c0, c1, c2, c3, c4, c5, c6, c7, c8, c9, c10⟩ := (CellsAt.of_blk hA).boxrg
  clear hA
  unfold Hd.cells at HV ⊢
  have HV2 := Lib.hid HV
  have hml := lead_mNone
  have hmn := lead_nNone
  conv => arg 2; whnf
  refine wp_region_below (by kernel_rfl) (by kernel_rfl) ?_
  repeat (go_big_quiet_step ((exact Calls.regrown_of (HV2.out _ (below_regrown _ _ _)))))
  refine wpQuiet_nil ?_
  intro w' hb
  go_wp2_with fail
  refine HN.out _ _ ?_ hb
  exact Sl.add (Sl.stay [0, 3] HS.out HF.out (by kernel_rfl) rfl ⟨by kernel_rfl, Eq.trans (by kernel_rfl) E3.out.symm, trivial⟩ HL.out) (by kernel_rfl)
set_option maxHeartbeats 4000000 in
theorem as_r8_lead_false (a : Act) (w : World) (N : Act → World → Prop) (Q : Exit → Act → World → Prop) (l : List (Nat × Value)) (hs : Sl 81 a l) (hl : (l.map Prod.fst).all (fun k => [0, 3].contains k) = true)
    (h : Hd) (pa : Option Addr) (pc : Nat) (ia : Option Addr) (n ic A : Nat) (hA : Blk w A 28 (h.cells pa pc ia n ic)) (qa : Option Addr) (qc : Nat) (ja : Option Addr) (jc : Nat) (ho : (h.obj == 0) = false) (HV : (∀ W, Below w.heap.size w W → Calls Tryd.prog 159 #[.agg (h.cells qa qc ja n jc)] W fun e w' => e = .returned (.bool false) ∧ Below W.heap.size W w')) (h3 : l.lookup 3 = some (.pointer (some ⟨A, 0, none⟩))) (h8 : slot a 8 = .iface 118 (.agg (h.cells qa qc ja n jc))) (h9 : slot a 9 = .bool true)
    (hN : ∀ a' w', Sl 81 a' ((61, .bool false) :: l) → Below w.heap.size w w' → N a' w') : (r_as 8).wp Tryd.prog (Exit.then N Q) a w := by
  have HN := Lib.hid hN
  have HL := Lib.hid hl
  have e3 := hs.look 3 h3
  have e8 := h8
  have e9 := h9
  obtain ⟨f, ea, hf⟩ : ∃ f : Nat → Value, a = ⟨(List.toArray (f 0 :: f 1 :: f 2 :: f 3 :: f 4 :: f 5 :: f 6 :: f 7 :: f 8 :: f 9 :: f 10 :: f 11 :: f 12 :: f 13 :: f 14 :: f 15 :: f 16 :: f 17 :: f 18 :: f 19 :: f 20 :: f 21 :: f 22 :: f 23 :: f 24 :: f 25 :: f 26 :: f 27 :: f 28 :: f 29 :: f 30 :: f 31 :: f 32 :: f 33 :: f 34 :: f 35 :: f 36 :: f 37 :: f 38 :: f 39 :: f 40 :: f 41 :: f 42 :: f 43 :: f 44 :: f 45 :: f 46 :: f 47 :: f 48 :: f 49 :: f 50 :: f 51 :: f 52 :: f 53 :: f 54 :: f 55 :: f 56 :: f 57 :: f 58 :: f 59 :: f 60 :: f 61 :: f 62 :: f 63 :: f 64 :: f 65 :: f 66 :: f 67 :: f 68 :: f 69 :: f 70 :: f 71 :: f 72 :: f 73 :: f 74 :: f 75 :: f 76 :: f 77 :: f 78 :: f 79 :: f 80 :: [])), []⟩ ∧ ∀ k, slot a k = f k := letters_as a hs.size hs.defers
  rw [hf] at e3 e8 e9
  rw [ea, e3, e8, e9]
  have HS := Lib.hid hs
  have HF := Lib.hid hf
  have E3 := Lib.hid e3
  have E8 := Lib.hid e8
  have E9 := Lib.hid e9
  clear hs ea hf hN hl h3 e3 h8 e8 h9 e9
  obtain ⟨c0, c1, c2, c3, c4, c5, c6, c7, c8, c9, c10⟩ := (CellsAt.of_blk hA).boxrg
  clear hA
  unfold Hd.cells at HV ⊢
  have HV2 := Lib.hid HV
  have hml := lead_mNone
  have hmn := lead_nNone
  conv => arg 2; whnf
  refine wp_region_below (by kernel_rfl) (by kernel_rfl) ?_
  repeat (go_big_quiet_step ((exact Calls.regrown_of (HV2.out _ (below_regrown _ _ _)))))
  refine wpQuiet_nil ?_
  intro w' hb
  go_wp2_with fail
  refine HN.out _ _ ?_ hb
  exact Sl.add (Sl.stay [0, 3] HS.out HF.out (by kernel_rfl) rfl ⟨by kernel_rfl, Eq.trans (by kernel_rfl) E3.out.symm, trivial⟩ HL.out) (by kernel_rfl)
set_option maxHeartbeats 4000000 in
theorem as_r8_arrow_true (a : Act) (w : World) (N : Act → World → Prop) (Q : Exit → Act → World → Prop) (l : List (Nat × Value)) (hs : Sl 81 a l) (hl : (l.map Prod.fst).all (fun k => [0, 3].contains k) = true)
    (h : Hd) (pa : Option Addr) (pc : Nat) (ia : Option Addr) (n ic A : Nat) (hA : Blk w A 28 (h.cells pa pc ia n ic)) (qa : Option Addr) (qc : Nat) (ja : Option Addr) (jc : Nat) (ho : (h.obj == 0) = true) (HV : (∀ W, Below w.heap.size w W → Calls Tryd.prog 161 #[.agg (h.cells qa qc ja n jc)] W fun e w' => e = .returned (.bool true) ∧ Below W.heap.size W w')) (h3 : l.lookup 3 = some (.pointer (some ⟨A, 0, none⟩))) (h8 : slot a 8 = .iface 119 (.agg (h.cells qa qc ja n jc))) (h9 : slot a 9 = .bool true)
    (hN : ∀ a' w', Sl 81 a' ((61, .bool false) :: l) → Below w.heap.size w w' → N a' w') : (r_as 8).wp Tryd.prog (Exit.then N Q) a w := by
  have HN := Lib.hid hN
  have HL := Lib.hid hl
  have e3 := hs.look 3 h3
  have e8 := h8
  have e9 := h9
  obtain ⟨f, ea, hf⟩ : ∃ f : Nat → Value, a = ⟨(List.toArray (f 0 :: f 1 :: f 2 :: f 3 :: f 4 :: f 5 :: f 6 :: f 7 :: f 8 :: f 9 :: f 10 :: f 11 :: f 12 :: f 13 :: f 14 :: f 15 :: f 16 :: f 17 :: f 18 :: f 19 :: f 20 :: f 21 :: f 22 :: f 23 :: f 24 :: f 25 :: f 26 :: f 27 :: f 28 :: f 29 :: f 30 :: f 31 :: f 32 :: f 33 :: f 34 :: f 35 :: f 36 :: f 37 :: f 38 :: f 39 :: f 40 :: f 41 :: f 42 :: f 43 :: f 44 :: f 45 :: f 46 :: f 47 :: f 48 :: f 49 :: f 50 :: f 51 :: f 52 :: f 53 :: f 54 :: f 55 :: f 56 :: f 57 :: f 58 :: f 59 :: f 60 :: f 61 :: f 62 :: f 63 :: f 64 :: f 65 :: f 66 :: f 67 :: f 68 :: f 69 :: f 70 :: f 71 :: f 72 :: f 73 :: f 74 :: f 75 :: f 76 :: f 77 :: f 78 :: f 79 :: f 80 :: [])), []⟩ ∧ ∀ k, slot a k = f k := letters_as a hs.size hs.defers
  rw [hf] at e3 e8 e9
  rw [ea, e3, e8, e9]
  have HS := Lib.hid hs
  have HF := Lib.hid hf
  have E3 := Lib.hid e3
  have E8 := Lib.hid e8
  have E9 := Lib.hid e9
  clear hs ea hf hN hl h3 e3 h8 e8 h9 e9
  obtain ⟨c0, c1, c2, c3, c4, c5, c6, c7, c8, c9, c10⟩ := (CellsAt.of_blk hA).boxrg
  clear hA
  unfold Hd.cells at HV ⊢
  have HV2 := Lib.hid HV
  have hml := arrow_mNone
  have hmn := arrow_nNone
  conv => arg 2; whnf
  refine wp_region_below (by kernel_rfl) (by kernel_rfl) ?_
  repeat (go_big_quiet_step ((exact Calls.regrown_of (HV2.out _ (below_regrown _ _ _)))))
  refine wpQuiet_nil ?_
  intro w' hb
  go_wp2_with fail
  refine HN.out _ _ ?_ hb
  exact Sl.add (Sl.stay [0, 3] HS.out HF.out (by kernel_rfl) rfl ⟨by kernel_rfl, Eq.trans (by kernel_rfl) E3.out.symm, trivial⟩ HL.out) (by kernel_rfl)
set_option maxHeartbeats 4000000 in
theorem as_r8_arrow_false (a : Act) (w : World) (N : Act → World → Prop) (Q : Exit → Act → World → Prop) (l : List (Nat × Value)) (hs : Sl 81 a l) (hl : (l.map Prod.fst).all (fun k => [0, 3].contains k) = true)
    (h : Hd) (pa : Option Addr) (pc : Nat) (ia : Option Addr) (n ic A : Nat) (hA : Blk w A 28 (h.cells pa pc ia n ic)) (qa : Option Addr) (qc : Nat) (ja : Option Addr) (jc : Nat) (ho : (h.obj == 0) = false) (HV : (∀ W, Below w.heap.size w W → Calls Tryd.prog 161 #[.agg (h.cells qa qc ja n jc)] W fun e w' => e = .returned (.bool false) ∧ Below W.heap.size W w')) (h3 : l.lookup 3 = some (.pointer (some ⟨A, 0, none⟩))) (h8 : slot a 8 = .iface 119 (.agg (h.cells qa qc ja n jc))) (h9 : slot a 9 = .bool true)
    (hN : ∀ a' w', Sl 81 a' ((61, .bool false) :: l) → Below w.heap.size w w' → N a' w') : (r_as 8).wp Tryd.prog (Exit.then N Q) a w := by
  have HN := Lib.hid hN
  have HL := Lib.hid hl
  have e3 := hs.look 3 h3
  have e8 := h8
  have e9 := h9
  obtain ⟨f, ea, hf⟩ : ∃ f : Nat → Value, a = ⟨(List.toArray (f 0 :: f 1 :: f 2 :: f 3 :: f 4 :: f 5 :: f 6 :: f 7 :: f 8 :: f 9 :: f 10 :: f 11 :: f 12 :: f 13 :: f 14 :: f 15 :: f 16 :: f 17 :: f 18 :: f 19 :: f 20 :: f 21 :: f 22 :: f 23 :: f 24 :: f 25 :: f 26 :: f 27 :: f 28 :: f 29 :: f 30 :: f 31 :: f 32 :: f 33 :: f 34 :: f 35 :: f 36 :: f 37 :: f 38 :: f 39 :: f 40 :: f 41 :: f 42 :: f 43 :: f 44 :: f 45 :: f 46 :: f 47 :: f 48 :: f 49 :: f 50 :: f 51 :: f 52 :: f 53 :: f 54 :: f 55 :: f 56 :: f 57 :: f 58 :: f 59 :: f 60 :: f 61 :: f 62 :: f 63 :: f 64 :: f 65 :: f 66 :: f 67 :: f 68 :: f 69 :: f 70 :: f 71 :: f 72 :: f 73 :: f 74 :: f 75 :: f 76 :: f 77 :: f 78 :: f 79 :: f 80 :: [])), []⟩ ∧ ∀ k, slot a k = f k := letters_as a hs.size hs.defers
  rw [hf] at e3 e8 e9
  rw [ea, e3, e8, e9]
  have HS := Lib.hid hs
  have HF := Lib.hid hf
  have E3 := Lib.hid e3
  have E8 := Lib.hid e8
  have E9 := Lib.hid e9
  clear hs ea hf hN hl h3 e3 h8 e8 h9 e9
  obtain ⟨c0, c1, c2, c3, c4, c5, c6, c7, c8, c9, c10⟩ := (CellsAt.of_blk hA).boxrg
  clear hA
  unfold Hd.cells at HV ⊢
  have HV2 := Lib.hid HV
  have hml := arrow_mNone
  have hmn := arrow_nNone
  conv => arg 2; whnf
  refine wp_region_below (by kernel_rfl) (by kernel_rfl) ?_
  repeat (go_big_quiet_step ((exact Calls.regrown_of (HV2.out _ (below_regrown _ _ _)))))
  refine wpQuiet_nil ?_
  intro w' hb
  go_wp2_with fail
  refine HN.out _ _ ?_ hb
  exact Sl.add (Sl.stay [0, 3] HS.out HF.out (by kernel_rfl) rfl ⟨by kernel_rfl, Eq.trans (by kernel_rfl) E3.out.symm, trivial⟩ HL.out) (by kernel_rfl)
set_option maxHeartbeats 4000000 in
theorem as_r11 (a : Act) (w : World) (N : Act → World → Prop) (Q : Exit → Act → World → Prop) (l : List (Nat × Value)) (hs : Sl 81 a l) (hl : (l.map Prod.fst).all (fun k => [0, 3, 10].contains k) = true)
    (b : Bool) (h11 : slot a 11 = .bool b)
    (hN : ∀ a', Sl 81 a' ((67, .bool b) :: l) → N a' (w)) : (r_as 11).wp Tryd.prog (Exit.then N Q) a w := by
  have HN := Lib.hid hN
  have HL := Lib.hid hl
  have e11 := h11
  obtain ⟨f, ea, hf⟩ : ∃ f : Nat → Value, a = ⟨(List.toArray (f 0 :: f 1 :: f 2 :: f 3 :: f 4 :: f 5 :: f 6 :: f 7 :: f 8 :: f 9 :: f 10 :: f 11 :: f 12 :: f 13 :: f 14 :: f 15 :: f 16 :: f 17 :: f 18 :: f 19 :: f 20 :: f 21 :: f 22 :: f 23 :: f 24 :: f 25 :: f 26 :: f 27 :: f 28 :: f 29 :: f 30 :: f 31 :: f 32 :: f 33 :: f 34 :: f 35 :: f 36 :: f 37 :: f 38 :: f 39 :: f 40 :: f 41 :: f 42 :: f 43 :: f 44 :: f 45 :: f 46 :: f 47 :: f 48 :: f 49 :: f 50 :: f 51 :: f 52 :: f 53 :: f 54 :: f 55 :: f 56 :: f 57 :: f 58 :: f 59 :: f 60 :: f 61 :: f 62 :: f 63 :: f 64 :: f 65 :: f 66 :: f 67 :: f 68 :: f 69 :: f 70 :: f 71 :: f 72 :: f 73 :: f 74 :: f 75 :: f 76 :: f 77 :: f 78 :: f 79 :: f 80 :: [])), []⟩ ∧ ∀ k, slot a k = f k := letters_as a hs.size hs.defers
  rw [hf] at e11
  rw [ea, e11]
  have HS := Lib.hid hs
  have HF := Lib.hid hf
  have E11 := Lib.hid e11
  clear hs ea hf hN hl h11 e11
  conv => arg 2; whnf
  go_wp2_with fail
  refine HN.out _ ?_
  exact Sl.add (Sl.stay [0, 3, 10] HS.out HF.out (by kernel_rfl) rfl ⟨by kernel_rfl, by kernel_rfl, by kernel_rfl, trivial⟩ HL.out) (by kernel_rfl)
set_option maxHeartbeats 4000000 in
theorem as_r12 (a : Act) (w : World) (N : Act → World → Prop) (Q : Exit → Act → World → Prop) (l : List (Nat × Value)) (hs : Sl 81 a l) (hl : (l.map Prod.fst).all (fun k => [0, 3, 10].contains k) = true)
    (h : Hd) (pa : Option Addr) (pc : Nat) (ia : Option Addr) (n ic A : Nat) (hA : Blk w A 28 (h.cells pa pc ia n ic)) (m : Int) (HC : Calls Tryd.prog 26 #[.agg (h.cells pa pc ia n ic)] w fun e w' => e = .returned (.tuple #[.int .u64 m, .nilIface]) ∧ Below w.heap.size w w') (h3 : l.lookup 3 = some (.pointer (some ⟨A, 0, none⟩)))
    (hN : ∀ a' w', Sl 81 a' ((13, .nilIface) :: ((12, .int .u64 m) :: l)) → Below w.heap.size w w' → N a' w') : (r_as 12).wp Tryd.prog (Exit.then N Q) a w := by
  have HN := Lib.hid hN
  have HL := Lib.hid hl
  have e3 := hs.look 3 h3
  obtain ⟨f, ea, hf⟩ : ∃ f : Nat → Value, a = ⟨(List.toArray (f 0 :: f 1 :: f 2 :: f 3 :: f 4 :: f 5 :: f 6 :: f 7 :: f 8 :: f 9 :: f 10 :: f 11 :: f 12 :: f 13 :: f 14 :: f 15 :: f 16 :: f 17 :: f 18 :: f 19 :: f 20 :: f 21 :: f 22 :: f 23 :: f 24 :: f 25 :: f 26 :: f 27 :: f 28 :: f 29 :: f 30 :: f 31 :: f 32 :: f 33 :: f 34 :: f 35 :: f 36 :: f 37 :: f 38 :: f 39 :: f 40 :: f 41 :: f 42 :: f 43 :: f 44 :: f 45 :: f 46 :: f 47 :: f 48 :: f 49 :: f 50 :: f 51 :: f 52 :: f 53 :: f 54 :: f 55 :: f 56 :: f 57 :: f 58 :: f 59 :: f 60 :: f 61 :: f 62 :: f 63 :: f 64 :: f 65 :: f 66 :: f 67 :: f 68 :: f 69 :: f 70 :: f 71 :: f 72 :: f 73 :: f 74 :: f 75 :: f 76 :: f 77 :: f 78 :: f 79 :: f 80 :: [])), []⟩ ∧ ∀ k, slot a k = f k := letters_as a hs.size hs.defers
  rw [hf] at e3
  rw [ea, e3]
  have HS := Lib.hid hs
  have HF := Lib.hid hf
  have E3 := Lib.hid e3
  clear hs ea hf hN hl h3 e3
  obtain ⟨c0, c1, c2, c3, c4, c5, c6, c7, c8, c9, c10⟩ := (CellsAt.of_blk hA).box
  clear hA
  unfold Hd.cells at HC
  have HC := Lib.hid HC
  conv => arg 2; whnf
  go_wp2_with fail
  refine HC.out.mono ?_
  rintro e w' ⟨rfl, hb⟩
  go_wp2_with fail
  refine HN.out _ _ ?_ hb
  exact Sl.add (Sl.add (Sl.stay [0, 3, 10] HS.out HF.out (by kernel_rfl) rfl ⟨by kernel_rfl, Eq.trans (by kernel_rfl) E3.out.symm, by kernel_rfl, trivial⟩ HL.out) (by kernel_rfl)) (by kernel_rfl)
set_option maxHeartbeats 4000000 in
theorem as_r13_truth (a : Act) (w : World) (N : Act → World → Prop) (Q : Exit → Act → World → Prop) (l : List (Nat × Value)) (hs : Sl 81 a l) (hl : (l.map Prod.fst).all (fun k => [0, 3].contains k) = true)
    (h : Hd) (n : Nat) (qa : Option Addr) (qc : Nat) (ja : Option Addr) (jc : Nat) (m : Int) (HC : Calls Tryd.prog 146 #[.agg (h.cells qa qc ja n jc)] w fun e w' => e = .returned (.int .u64 m) ∧ Below w.heap.size w w') (h10 : slot a 10 = .iface 114 (.agg (h.cells qa qc ja n jc))) (h12 : slot a 12 = .int .u64 m) (h13 : slot a 13 = .nilIface)
    (hN : ∀ a' w', Sl 81 a' ((80, .bool false) :: l) → Below w.heap.size w w' → N a' w') : (r_as 13).wp Tryd.prog (Exit.then N Q) a w := by
  have HN := Lib.hid hN
  have HL := Lib.hid hl
  have e10 := h10
  have e12 := h12
  have e13 := h13
  obtain ⟨f, ea, hf⟩ : ∃ f : Nat → Value, a = ⟨(List.toArray (f 0 :: f 1 :: f 2 :: f 3 :: f 4 :: f 5 :: f 6 :: f 7 :: f 8 :: f 9 :: f 10 :: f 11 :: f 12 :: f 13 :: f 14 :: f 15 :: f 16 :: f 17 :: f 18 :: f 19 :: f 20 :: f 21 :: f 22 :: f 23 :: f 24 :: f 25 :: f 26 :: f 27 :: f 28 :: f 29 :: f 30 :: f 31 :: f 32 :: f 33 :: f 34 :: f 35 :: f 36 :: f 37 :: f 38 :: f 39 :: f 40 :: f 41 :: f 42 :: f 43 :: f 44 :: f 45 :: f 46 :: f 47 :: f 48 :: f 49 :: f 50 :: f 51 :: f 52 :: f 53 :: f 54 :: f 55 :: f 56 :: f 57 :: f 58 :: f 59 :: f 60 :: f 61 :: f 62 :: f 63 :: f 64 :: f 65 :: f 66 :: f 67 :: f 68 :: f 69 :: f 70 :: f 71 :: f 72 :: f 73 :: f 74 :: f 75 :: f 76 :: f 77 :: f 78 :: f 79 :: f 80 :: [])), []⟩ ∧ ∀ k, slot a k = f k := letters_as a hs.size hs.defers
  rw [hf] at e10 e12 e13
  rw [ea, e10, e12, e13]
  have HS := Lib.hid hs
  have HF := Lib.hid hf
  have E10 := Lib.hid e10
  have E12 := Lib.hid e12
  have E13 := Lib.hid e13
  clear hs ea hf hN hl h10 e10 h12 e12 h13 e13
  have hmm : (m != m) = false := by simp
  unfold Hd.cells at HC ⊢
  have HC := Lib.hid HC
  have hml := truth_hash
  conv => arg 2; whnf
  go_wp2_with fail
  refine HC.out.mono ?_
  rintro e w' ⟨rfl, hb⟩
  go_wp2_with fail
  refine HN.out _ _ ?_ hb
  exact Sl.add (Sl.stay [0, 3] HS.out HF.out (by kernel_rfl) rfl ⟨by kernel_rfl, by kernel_rfl, trivial⟩ HL.out) (by kernel_rfl)
set_option maxHeartbeats 4000000 in
theorem as_r13_figure (a : Act) (w : World) (N : Act → World → Prop) (Q : Exit → Act → World → Prop) (l : List (Nat × Value)) (hs : Sl 81 a l) (hl : (l.map Prod.fst).all (fun k => [0, 3].contains k) = true)
    (h : Hd) (n : Nat) (qa : Option Addr) (qc : Nat) (ja : Option Addr) (jc : Nat) (m : Int) (HC : Calls Tryd.prog 147 #[.agg (h.cells qa qc ja n jc)] w fun e w' => e = .returned (.int .u64 m) ∧ Below w.heap.size w w') (h10 : slot a 10 = .iface 115 (.agg (h.cells qa qc ja n jc))) (h12 : slot a 12 = .int .u64 m) (h13 : slot a 13 = .nilIface)
    (hN : ∀ a' w', Sl 81 a' ((80, .bool false) :: l) → Below w.heap.size w w' → N a' w') : (r_as 13).wp Tryd.prog (Exit.then N Q) a w := by
  have HN := Lib.hid hN
  have HL := Lib.hid hl
  have e10 := h10
  have e12 := h12
  have e13 := h13
  obtain ⟨f, ea, hf⟩ : ∃ f : Nat → Value, a = ⟨(List.toArray (f 0 :: f 1 :: f 2 :: f 3 :: f 4 :: f 5 :: f 6 :: f 7 :: f 8 :: f 9 :: f 10 :: f 11 :: f 12 :: f 13 :: f 14 :: f 15 :: f 16 :: f 17 :: f 18 :: f 19 :: f 20 :: f 21 :: f 22 :: f 23 :: f 24 :: f 25 :: f 26 :: f 27 :: f 28 :: f 29 :: f 30 :: f 31 :: f 32 :: f 33 :: f 34 :: f 35 :: f 36 :: f 37 :: f 38 :: f 39 :: f 40 :: f 41 :: f 42 :: f 43 :: f 44 :: f 45 :: f 46 :: f 47 :: f 48 :: f 49 :: f 50 :: f 51 :: f 52 :: f 53 :: f 54 :: f 55 :: f 56 :: f 57 :: f 58 :: f 59 :: f 60 :: f 61 :: f 62 :: f 63 :: f 64 :: f 65 :: f 66 :: f 67 :: f 68 :: f 69 :: f 70 :: f 71 :: f 72 :: f 73 :: f 74 :: f 75 :: f 76 :: f 77 :: f 78 :: f 79 :: f 80 :: [])), []⟩ ∧ ∀ k, slot a k = f k := letters_as a hs.size hs.defers
  rw [hf] at e10 e12 e13
  rw [ea, e10, e12, e13]
  have HS := Lib.hid hs
  have HF := Lib.hid hf
  have E10 := Lib.hid e10
  have E12 := Lib.hid e12
  have E13 := Lib.hid e13
  clear hs ea hf hN hl h10 e10 h12 e12 h13 e13
  have hmm : (m != m) = false := by simp
  unfold Hd.cells at HC ⊢
  have HC := Lib.hid HC
  have hml := figure_hash
  conv => arg 2; whnf
  go_wp2_with fail
  refine HC.out.mono ?_
  rintro e w' ⟨rfl, hb⟩
  go_wp2_with fail
  refine HN.out _ _ ?_ hb
  exact Sl.add (Sl.stay [0, 3] HS.out HF.out (by kernel_rfl) rfl ⟨by kernel_rfl, by kernel_rfl, trivial⟩ HL.out) (by kernel_rfl)
set_option maxHeartbeats 4000000 in
theorem as_r13_letter (a : Act) (w : World) (N : Act → World → Prop) (Q : Exit → Act → World → Prop) (l : List (Nat × Value)) (hs : Sl 81 a l) (hl : (l.map Prod.fst).all (fun k => [0, 3].contains k) = true)
    (h : Hd) (n : Nat) (qa : Option Addr) (qc : Nat) (ja : Option Addr) (jc : Nat) (m : Int) (HC : Calls Tryd.prog 154 #[.agg (h.cells qa qc ja n jc)] w fun e w' => e = .returned (.int .u64 m) ∧ Below w.heap.size w w') (h10 : slot a 10 = .iface 116 (.agg (h.cells qa qc ja n jc))) (h12 : slot a 12 = .int .u64 m) (h13 : slot a 13 = .nilIface)
    (hN : ∀ a' w', Sl 81 a' ((80, .bool false) :: l) → Below w.heap.size w w' → N a' w') : (r_as 13).wp Tryd.prog (Exit.then N Q) a w := by
  have HN := Lib.hid hN
  have HL := Lib.hid hl
  have e10 := h10
  have e12 := h12
  have e13 := h13
  obtain ⟨f, ea, hf⟩ : ∃ f : Nat → Value, a = ⟨(List.toArray (f 0 :: f 1 :: f 2 :: f 3 :: f 4 :: f 5 :: f 6 :: f 7 :: f 8 :: f 9 :: f 10 :: f 11 :: f 12 :: f 13 :: f 14 :: f 15 :: f 16 :: f 17 :: f 18 :: f 19 :: f 20 :: f 21 :: f 22 :: f 23 :: f 24 :: f 25 :: f 26 :: f 27 :: f 28 :: f 29 :: f 30 :: f 31 :: f 32 :: f 33 :: f 34 :: f 35 :: f 36 :: f 37 :: f 38 :: f 39 :: f 40 :: f 41 :: f 42 :: f 43 :: f 44 :: f 45 :: f 46 :: f 47 :: f 48 :: f 49 :: f 50 :: f 51 :: f 52 :: f 53 :: f 54 :: f 55 :: f 56 :: f 57 :: f 58 :: f 59 :: f 60 :: f 61 :: f 62 :: f 63 :: f 64 :: f 65 :: f 66 :: f 67 :: f 68 :: f 69 :: f 70 :: f 71 :: f 72 :: f 73 :: f 74 :: f 75 :: f 76 :: f 77 :: f 78 :: f 79 :: f 80 :: [])), []⟩ ∧ ∀ k, slot a k = f k := letters_as a hs.size hs.defers
  rw [hf] at e10 e12 e13
  rw [ea, e10, e12, e13]
  have HS := Lib.hid hs
  have HF := Lib.hid hf
  have E10 := Lib.hid e10
  have E12 := Lib.hid e12
  have E13 := Lib.hid e13
  clear hs ea hf hN hl h10 e10 h12 e12 h13 e13
  have hmm : (m != m) = false := by simp
  unfold Hd.cells at HC ⊢
  have HC := Lib.hid HC
  have hml := letter_hash
  conv => arg 2; whnf
  go_wp2_with fail
  refine HC.out.mono ?_
  rintro e w' ⟨rfl, hb⟩
  go_wp2_with fail
  refine HN.out _ _ ?_ hb
  exact Sl.add (Sl.stay [0, 3] HS.out HF.out (by kernel_rfl) rfl ⟨by kernel_rfl, by kernel_rfl, trivial⟩ HL.out) (by kernel_rfl)
set_option maxHeartbeats 4000000 in
theorem as_r13_arrow (a : Act) (w : World) (N : Act → World → Prop) (Q : Exit → Act → World → Prop) (l : List (Nat × Value)) (hs : Sl 81 a l) (hl : (l.map Prod.fst).all (fun k => [0, 3].contains k) = true)
    (h : Hd) (n : Nat) (qa : Option Addr) (qc : Nat) (ja : Option Addr) (jc : Nat) (m : Int) (HC : Calls Tryd.prog 160 #[.agg (h.cells qa qc ja n jc)] w fun e w' => e = .returned (.int .u64 m) ∧ Below w.heap.size w w') (h10 : slot a 10 = .iface 119 (.agg (h.cells qa qc ja n jc))) (h12 : slot a 12 = .int .u64 m) (h13 : slot a 13 = .nilIface)
    (hN : ∀ a' w', Sl 81 a' ((80, .bool false) :: l) → Below w.heap.size w w' → N a' w') : (r_as 13).wp Tryd.prog (Exit.then N Q) a w := by
  have HN := Lib.hid hN
  have HL := Lib.hid hl
  have e10 := h10
  have e12 := h12
  have e13 := h13
  obtain ⟨f, ea, hf⟩ : ∃ f : Nat → Value, a = ⟨(List.toArray (f 0 :: f 1 :: f 2 :: f 3 :: f 4 :: f 5 :: f 6 :: f 7 :: f 8 :: f 9 :: f 10 :: f 11 :: f 12 :: f 13 :: f 14 :: f 15 :: f 16 :: f 17 :: f 18 :: f 19 :: f 20 :: f 21 :: f 22 :: f 23 :: f 24 :: f 25 :: f 26 :: f 27 :: f 28 :: f 29 :: f 30 :: f 31 :: f 32 :: f 33 :: f 34 :: f 35 :: f 36 :: f 37 :: f 38 :: f 39 :: f 40 :: f 41 :: f 42 :: f 43 :: f 44 :: f 45 :: f 46 :: f 47 :: f 48 :: f 49 :: f 50 :: f 51 :: f 52 :: f 53 :: f 54 :: f 55 :: f 56 :: f 57 :: f 58 :: f 59 :: f 60 :: f 61 :: f 62 :: f 63 :: f 64 :: f 65 :: f 66 :: f 67 :: f 68 :: f 69 :: f 70 :: f 71 :: f 72 :: f 73 :: f 74 :: f 75 :: f 76 :: f 77 :: f 78 :: f 79 :: f 80 :: [])), []⟩ ∧ ∀ k, slot a k = f k := letters_as a hs.size hs.defers
  rw [hf] at e10 e12 e13
  rw [ea, e10, e12, e13]
  have HS := Lib.hid hs
  have HF := Lib.hid hf
  have E10 := Lib.hid e10
  have E12 := Lib.hid e12
  have E13 := Lib.hid e13
  clear hs ea hf hN hl h10 e10 h12 e12 h13 e13
  have hmm : (m != m) = false := by simp
  unfold Hd.cells at HC ⊢
  have HC := Lib.hid HC
  have hml := arrow_hash
  conv => arg 2; whnf
  go_wp2_with fail
  refine HC.out.mono ?_
  rintro e w' ⟨rfl, hb⟩
  go_wp2_with fail
  refine HN.out _ _ ?_ hb
  exact Sl.add (Sl.stay [0, 3] HS.out HF.out (by kernel_rfl) rfl ⟨by kernel_rfl, by kernel_rfl, trivial⟩ HL.out) (by kernel_rfl)
set_option maxHeartbeats 4000000 in
theorem as_r13_filed (a : Act) (w : World) (N : Act → World → Prop) (Q : Exit → Act → World → Prop) (l : List (Nat × Value)) (hs : Sl 81 a l) (hl : (l.map Prod.fst).all (fun k => [0, 3].contains k) = true)
    (h : Hd) (n : Nat) (qa : Option Addr) (qc : Nat) (ja : Option Addr) (jc : Nat) (m : Int) (HC : Calls Tryd.prog 162 #[.agg (h.cells qa qc ja n jc)] w fun e w' => e = .returned (.int .u64 m) ∧ Below w.heap.size w w') (h10 : slot a 10 = .iface 123 (.agg (h.cells qa qc ja n jc))) (h12 : slot a 12 = .int .u64 m) (h13 : slot a 13 = .nilIface)
    (hN : ∀ a' w', Sl 81 a' ((80, .bool false) :: l) → Below w.heap.size w w' → N a' w') : (r_as 13).wp Tryd.prog (Exit.then N Q) a w := by
  have HN := Lib.hid hN
  have HL := Lib.hid hl
  have e10 := h10
  have e12 := h12
  have e13 := h13
  obtain ⟨f, ea, hf⟩ : ∃ f : Nat → Value, a = ⟨(List.toArray (f 0 :: f 1 :: f 2 :: f 3 :: f 4 :: f 5 :: f 6 :: f 7 :: f 8 :: f 9 :: f 10 :: f 11 :: f 12 :: f 13 :: f 14 :: f 15 :: f 16 :: f 17 :: f 18 :: f 19 :: f 20 :: f 21 :: f 22 :: f 23 :: f 24 :: f 25 :: f 26 :: f 27 :: f 28 :: f 29 :: f 30 :: f 31 :: f 32 :: f 33 :: f 34 :: f 35 :: f 36 :: f 37 :: f 38 :: f 39 :: f 40 :: f 41 :: f 42 :: f 43 :: f 44 :: f 45 :: f 46 :: f 47 :: f 48 :: f 49 :: f 50 :: f 51 :: f 52 :: f 53 :: f 54 :: f 55 :: f 56 :: f 57 :: f 58 :: f 59 :: f 60 :: f 61 :: f 62 :: f 63 :: f 64 :: f 65 :: f 66 :: f 67 :: f 68 :: f 69 :: f 70 :: f 71 :: f 72 :: f 73 :: f 74 :: f 75 :: f 76 :: f 77 :: f 78 :: f 79 :: f 80 :: [])), []⟩ ∧ ∀ k, slot a k = f k := letters_as a hs.size hs.defers
  rw [hf] at e10 e12 e13
  rw [ea, e10, e12, e13]
  have HS := Lib.hid hs
  have HF := Lib.hid hf
  have E10 := Lib.hid e10
  have E12 := Lib.hid e12
  have E13 := Lib.hid e13
  clear hs ea hf hN hl h10 e10 h12 e12 h13 e13
  have hmm : (m != m) = false := by simp
  unfold Hd.cells at HC ⊢
  have HC := Lib.hid HC
  have hml := filed_hash
  conv => arg 2; whnf
  go_wp2_with fail
  refine HC.out.mono ?_
  rintro e w' ⟨rfl, hb⟩
  go_wp2_with fail
  refine HN.out _ _ ?_ hb
  exact Sl.add (Sl.stay [0, 3] HS.out HF.out (by kernel_rfl) rfl ⟨by kernel_rfl, by kernel_rfl, trivial⟩ HL.out) (by kernel_rfl)
set_option maxHeartbeats 4000000 in
theorem as_r15 (a : Act) (w : World) (N : Act → World → Prop) (Q : Exit → Act → World → Prop) (l : List (Nat × Value)) (hs : Sl 81 a l) (hl : (l.map Prod.fst).all (fun k => [].contains k) = true)
     
    (hN : ∀ a', Sl 81 a' ((4, .bool true) :: l) → N a' (w)) : (r_as 15).wp Tryd.prog (Exit.then N Q) a w := by
  have HN := Lib.hid hN
  have HL := Lib.hid hl
  obtain ⟨f, ea, hf⟩ : ∃ f : Nat → Value, a = ⟨(List.toArray (f 0 :: f 1 :: f 2 :: f 3 :: f 4 :: f 5 :: f 6 :: f 7 :: f 8 :: f 9 :: f 10 :: f 11 :: f 12 :: f 13 :: f 14 :: f 15 :: f 16 :: f 17 :: f 18 :: f 19 :: f 20 :: f 21 :: f 22 :: f 23 :: f 24 :: f 25 :: f 26 :: f 27 :: f 28 :: f 29 :: f 30 :: f 31 :: f 32 :: f 33 :: f 34 :: f 35 :: f 36 :: f 37 :: f 38 :: f 39 :: f 40 :: f 41 :: f 42 :: f 43 :: f 44 :: f 45 :: f 46 :: f 47 :: f 48 :: f 49 :: f 50 :: f 51 :: f 52 :: f 53 :: f 54 :: f 55 :: f 56 :: f 57 :: f 58 :: f 59 :: f 60 :: f 61 :: f 62 :: f 63 :: f 64 :: f 65 :: f 66 :: f 67 :: f 68 :: f 69 :: f 70 :: f 71 :: f 72 :: f 73 :: f 74 :: f 75 :: f 76 :: f 77 :: f 78 :: f 79 :: f 80 :: [])), []⟩ ∧ ∀ k, slot a k = f k := letters_as a hs.size hs.defers
  rw [ea]
  have HS := Lib.hid hs
  have HF := Lib.hid hf
  clear hs ea hf hN hl 
  conv => arg 2; whnf
  go_wp2_with fail
  refine HN.out _ ?_
  exact Sl.add (Sl.stay [] HS.out HF.out (by kernel_rfl) rfl trivial HL.out) (by kernel_rfl)
end Go.Proofs.YthdmmhiifkebeaaDoor

namespace Go.Proofs.YthdmmhiifkebeaaDoor
open Go.RowKit Go.Sort

def sizB (h : Hd) : Bool := decide (h.kind = 4 ∨ h.kind = 5)
def poiB (h : Hd) : Bool := decide (h.kind = 5 ∨ h.kind = 6 ∨ h.kind = 7 ∨ h.kind = 9)
def lenI (h : Hd) : Int := if h.kind = 4 then h.s.size else h.len
def kindB (h : Hd) : Bool := decide (h.kind ≠ 5 ∧ h.kind ≠ 6 ∧ h.kind ≠ 7)
set_option maxHeartbeats 400000 in
theorem rsized_any (h : Hd) (n : Nat) (pa : Option Addr) (pc : Nat) (ia : Option Addr) (ic : Nat) (w : World) :
    Calls Tryd.prog 75 #[.agg (h.cells pa pc ia n ic)] w fun e w' => e = .returned (.bool (sizB h)) ∧ Below w.heap.size w w' := by
  unfold Hd.cells
  go_enter Tryd.func75, Tryd.ntmps75
  go_wp2
  all_goals
    go_ret
    refine ⟨ret_bool ?_, by ((repeat' (first | exact Below.refl _ _ | assumption | (refine bl_alloc ?_ _) | (refine Below.drew ?_) | (refine below_drewN ?_ _) | (refine Below.setCell ?_ ?_ _) | (refine bl_trans ?_ (by assumption)))) <;> first | omega | (simp; done) | (simp; omega))⟩
    unfold sizB
    rw [Bool.eq_iff_iff]
    simp
    try omega
set_option maxHeartbeats 400000 in
theorem rpointing_any (h : Hd) (n : Nat) (pa : Option Addr) (pc : Nat) (ia : Option Addr) (ic : Nat) (w : World) :
    Calls Tryd.prog 77 #[.agg (h.cells pa pc ia n ic)] w fun e w' => e = .returned (.bool (poiB h)) ∧ Below w.heap.size w w' := by
  unfold Hd.cells
  go_enter Tryd.func77, Tryd.ntmps77
  go_wp2
  all_goals
    go_ret
    refine ⟨ret_bool ?_, by ((repeat' (first | exact Below.refl _ _ | assumption | (refine bl_alloc ?_ _) | (refine Below.drew ?_) | (refine below_drewN ?_ _) | (refine Below.setCell ?_ ?_ _) | (refine bl_trans ?_ (by assumption)))) <;> first | omega | (simp; done) | (simp; omega))⟩
    unfold poiB
    rw [Bool.eq_iff_iff]
    simp
    try omega
set_option maxHeartbeats 400000 in
theorem rlen_any (h : Hd) (ho : h.ok) (n : Nat) (pa : Option Addr) (pc : Nat) (ia : Option Addr) (ic : Nat) (w : World) :
    Calls Tryd.prog 80 #[.agg (h.cells pa pc ia n ic)] w fun e w' => e = .returned (.int .i64 (lenI h)) ∧ Below w.heap.size w w' := by
  unfold Hd.cells
  have hs := ho.s
  by_cases h4 : h.kind = 4
  · have HL : Hid (lenI h = h.s.size) := by unfold Hid lenI; rw [if_pos h4]
    go_enter Tryd.func80, Tryd.ntmps80
    go_wp2_with fail
    go_ret
    exact ⟨by rw [HL.out]; rfl, by ((repeat' (first | exact Below.refl _ _ | assumption | (refine bl_alloc ?_ _) | (refine Below.drew ?_) | (refine below_drewN ?_ _) | (refine Below.setCell ?_ ?_ _) | (refine bl_trans ?_ (by assumption)))) <;> first | omega | (simp; done) | (simp; omega))⟩
  · have HL : Hid (lenI h = h.len) := by unfold Hid lenI; rw [if_neg h4]
    have h44 : (h.kind == 4) = false := by simpa using h4
    clear h4
    go_enter Tryd.func80, Tryd.ntmps80
    go_wp2_with fail
    go_ret
    exact ⟨by rw [HL.out]; rfl, by ((repeat' (first | exact Below.refl _ _ | assumption | (refine bl_alloc ?_ _) | (refine Below.drew ?_) | (refine below_drewN ?_ _) | (refine Below.setCell ?_ ?_ _) | (refine bl_trans ?_ (by assumption)))) <;> first | omega | (simp; done) | (simp; omega))⟩
set_option maxHeartbeats 400000 in
theorem rname_any (h : Hd) (k : Nat) (pa : Option Addr) (pc : Nat) (ia : Option Addr) (ic : Nat) (ho : h.ok) (w : World) :
    Calls Tryd.prog 79 #[.agg (h.cells pa pc ia k ic)] w fun e w' => e = .returned (.string (nameS h)) ∧ Below w.heap.size w w' := by
  unfold Hd.cells
  have hs := ho.type
  by_cases h0 : h.kind = 0
  · have HN : Hid (nameS h = ⟨#[110, 105, 108]⟩) := by simp [Hid, nameS, h0]
    go_enter Tryd.func79, Tryd.ntmps79
    go_wp2_with fail
    go_ret
    exact ⟨by rw [HN.out]; rfl, by ((repeat' (first | exact Below.refl _ _ | assumption | (refine bl_alloc ?_ _) | (refine Below.drew ?_) | (refine below_drewN ?_ _) | (refine Below.setCell ?_ ?_ _) | (refine bl_trans ?_ (by assumption)))) <;> first | omega | (simp; done) | (simp; omega))⟩
  by_cases h9 : h.kind = 9
  · have HN : Hid (nameS h = ⟨#[42]⟩ ++ h.type) := by simp [Hid, nameS, h9]
    go_enter Tryd.func79, Tryd.ntmps79
    go_wp2_with fail
    go_ret
    exact ⟨by rw [HN.out]; rfl, by ((repeat' (first | exact Below.refl _ _ | assumption | (refine bl_alloc ?_ _) | (refine Below.drew ?_) | (refine below_drewN ?_ _) | (refine Below.setCell ?_ ?_ _) | (refine bl_trans ?_ (by assumption)))) <;> first | omega | (simp; done) | (simp; omega))⟩
  · have HN : Hid (nameS h = h.type) := by simp [Hid, nameS, h0, h9]
    have h00 : (h.kind == 0) = false := by simpa using h0
    have h99 : (h.kind == 9) = false := by simpa using h9
    clear h0 h9
    go_enter Tryd.func79, Tryd.ntmps79
    go_wp2_with fail
    go_ret
    exact ⟨by rw [HN.out]; rfl, by ((repeat' (first | exact Below.refl _ _ | assumption | (refine bl_alloc ?_ _) | (refine Below.drew ?_) | (refine below_drewN ?_ _) | (refine Below.setCell ?_ ?_ _) | (refine bl_trans ?_ (by assumption)))) <;> first | omega | (simp; done) | (simp; omega))⟩
set_option maxRecDepth 100000 in
set_option maxHeartbeats 1000000 in
theorem datumS_any (h : Hd) (k : Fo) (ho : h.ok) (hk : k.ok) (hl : k.len ≤ 1034834473170) (w : World) (S : Nat → Prop) (pa : Option Addr) (pc : Nat) (ia : Option Addr) (ic : Nat) (hd : DatAt w S h k pa pc ia ic) :
    Calls Tryd.prog 143 #[.agg (h.cells pa pc ia k.len ic)] w (TwinSPost h k w) := by
  unfold Hd.cells
  go_enter Tryd.func143, Tryd.ntmps143
  go_upto_region 0 with fail
  go_cut [0, 1, 2] (fun _ t1 t2 wx => t1 = .pointer (some ⟨w.heap.size, 0, none⟩) ∧ t2 = .pointer (some ⟨w.heap.size + 1, 0, none⟩) ∧ Blk wx w.heap.size 112 (h.cells pa pc ia k.len ic) ∧ (∃ cs, cs.size = 11 ∧ Blk wx (w.heap.size + 1) 28 cs) ∧ Below w.heap.size w wx ∧ wx.heap.size = w.heap.size + 2)
  case first =>
    go_wp2_with fail
    go_meet
    case rel => exact ⟨rfl, rfl, (Blk.new _ _ _).alloc _, ⟨_, by rfl, Blk.new1 _ _ _ _⟩, by ((repeat' (first | exact Below.refl _ _ | assumption | (refine bl_alloc ?_ _) | (refine Below.drew ?_) | (refine below_drewN ?_ _) | (refine Below.setCell ?_ ?_ _) | (refine bl_trans ?_ (by assumption)))) <;> first | omega | (simp; done) | (simp; omega)), by simp⟩
  case rest =>
  obtain ⟨rfl, rfl, hA, ⟨cs, hcs, hR⟩, hbw, hz⟩ := hcut
  obtain ⟨w0, rfl⟩ : ∃ w0 : World, w0 = wc := ⟨_, rfl⟩
  have HT := twinS_any h k ho hk hl w0 _ pa pc ia ic ((hd.keep (S' := fun b => b < w.heap.size) (fun _ _ _ => rfl) (fun _ _ h => h)).below hbw (fun b h _ => h))
  unfold Hd.cells at HT
  have HT := Lib.hid HT
  obtain ⟨c0, c1, c2, c3, c4, c5, c6, c7, c8, c9, c10⟩ := (CellsAt.of_blk hA).box
  clear hd hA
  have HR := Lib.hid hR
  clear hR
  go_wp2_with fail
  refine HT.out.mono ?_
  rintro e w6 ⟨pa', pc', ia', ic', rfl, hd6, hs6, hb6⟩
  have hR6 := HR.out.below hb6 HR.out.lt
  have hst := run_store_cells hR6 0 h pa' pc' ia' k.len ic' (by omega)
  clear c0 c1 c2 c3 c4 c5 c6 c7 c8 c9 c10
  have HD6 := Lib.hid hd6
  have HS6 := Lib.hid hs6
  clear hd6 hs6
  go_wp2_with fail
  have hc8 : CellsAt (w6.setCells (w.heap.size + 1) 0 (h.cells pa' pc' ia' k.len ic').toList) (w.heap.size + 1) 0 (h.cells pa' pc' ia' k.len ic') := fun n v hv => World.rangeAt_setCells_same w6 (w.heap.size + 1) 0 _ (there_blk hR6 (by rw [hcs]; simp [Hd.cells])) n v (by simpa using hv)
  have hz6 := setCells_size (w.heap.size + 1) (h.cells pa' pc' ia' k.len ic').toList 0 w6
  refine bodyPost_ret (v := .agg (h.cells pa' pc' ia' k.len ic')) (res_dat rfl _ _ (w.heap.size + 1) rfl h pa' pc' ia' k.len ic' hc8) rfl ⟨pa', pc', ia', ic', rfl, HD6.out.keep (fun b h1 _ => setCells_heap _ _ _ _ b (by omega)) (fun b h1 _ => by show w.heap.size ≤ b; omega), ?_, setCells_below _ _ _ (bl_trans hbw hb6) (by omega)⟩
  rw [hz6]
  exact (HS6.out.keep fun x h1 _ _ => setCells_heap _ _ _ _ x (by omega)).mono (by omega) (Nat.le_refl _)
set_option maxRecDepth 100000 in
set_option maxHeartbeats 1000000 in
theorem rkeyed_any (h : Hd) (k : Fo) (ho : h.ok) (hk : k.ok) (hr : rightB h k = true) (w : World) (S : Nat → Prop) (pa : Option Addr) (pc : Nat) (ia : Option Addr) (ic : Nat) (hd : DatAt w S h k pa pc ia ic) :
    Calls Tryd.prog 76 #[.agg (h.cells pa pc ia k.len ic)] w fun e w' => e = .returned (.bool (kindB h && keyB h k)) ∧ Below w.heap.size w w' := by
  obtain ⟨word, more, e1, _, e3⟩ := key_told hr
  have hd' := hd.keep (w' := w.alloc (.cells (h.cells pa pc ia k.len ic) 28)) (fun b _ h => Below.heap_alloc _ _ _ h) (fun _ h _ => h)
  have HK := rKey_any h k ho hk _ S pa pc ia ic hd'
  have e1' : keyFault (reqD h k h k).2 = .agg #[.string word, .string more] := e1
  rw [e1'] at HK
  clear e1 e1' hd hd'
  unfold Hd.cells at HK ⊢
  have HK := Lib.hid HK
  have hk4 : ((h.kind != 5) = false ∧ kindB h = false) ∨ ((h.kind != 5) = true ∧ (h.kind != 6) = false ∧ kindB h = false) ∨ ((h.kind != 5) = true ∧ (h.kind != 6) = true ∧ (h.kind != 7) = false ∧ kindB h = false) ∨ ((h.kind != 5) = true ∧ (h.kind != 6) = true ∧ (h.kind != 7) = true ∧ kindB h = true) := by
    unfold kindB
    simp only [decide_eq_false_iff_not, decide_eq_true_iff, bne_iff_ne, bne_eq_false_iff_eq]
    omega
  have hrr : keyB h k = true ∧ word = ⟨#[]⟩ ∨ keyB h k = false ∧ word = ⟨#[107, 101, 121]⟩ := by
    rcases e3 with ⟨a, b⟩ | ⟨a, b, _⟩
    · exact .inl ⟨a, b⟩
    · exact .inr ⟨a, b⟩
  clear e3
  rcases hrr with ⟨hkb, rfl⟩ | ⟨hkb, rfl⟩ <;> rcases hk4 with ⟨q5, hq⟩ | ⟨q5, q6, hq⟩ | ⟨q5, q6, q7, hq⟩ | ⟨q5, q6, q7, hq⟩
  all_goals
    rw [hkb, hq]
    clear hkb hq
    go_enter Tryd.func76, Tryd.ntmps76
    go_wp2_with fail
    refine HK.out.mono ?_
    rintro e w1 ⟨rfl, hb1⟩
    have hz1 : w.heap.size < w1.heap.size := by have := hb1.size; simp at this; omega
    have a0 : w1.cell? ⟨w.heap.size, 0, none⟩ = some (.int .i64 h.kind) := (hb1.cell (p := ⟨w.heap.size, 0, none⟩) (by simp)).trans (by rw [(Blk.new _ _ _).cell]; rfl)
    go_wp2_with fail
    go_ret
    exact ⟨rfl, by ((repeat' (first | exact Below.refl _ _ | assumption | (refine bl_alloc ?_ _) | (refine Below.drew ?_) | (refine below_drewN ?_ _) | (refine Below.setCell ?_ ?_ _) | (refine bl_trans ?_ (by assumption)))) <;> first | omega | (simp; done) | (simp; omega))⟩
end Go.Proofs.YthdmmhiifkebeaaDoor

namespace Go.Proofs.YthdmmhiifkebeaaDoor
open Go.RowKit Go.Sort
set_option maxRecDepth 100000

noncomputable def asKey : Code := .seq (.seq (r_as 10) (.seq (r_as 11) (.cond (.tmp 67) (.seq (r_as 12) (.seq (r_as 13) (.cond (.tmp 80) (.seq (r_as 14) .ret) .skip))) .skip))) (.seq (r_as 15) .ret)
noncomputable def asPoint : Code := .seq (.seq (r_as 7) (.seq (r_as 8) (.cond (.tmp 61) (.seq (r_as 9) .ret) .skip))) asKey
noncomputable def asSize : Code := .seq (.seq (r_as 4) (.seq (r_as 5) (.cond (.tmp 46) (.seq (r_as 6) .ret) .skip))) asPoint
noncomputable def asBody : Code := .seq (r_as 0) (.seq (r_as 1) (.seq (.seq (r_as 2) (.cond (.tmp 33) (.seq (r_as 3) .ret) .skip)) asSize))
theorem as_body : Tryd.f40.body = some asBody := by kernel_rfl

set_option maxHeartbeats 2000000 in
theorem abil_any {t : TypeId} (ht : ValTy t) (v : Value) (w : World) : Calls Tryd.prog 78 #[.iface t v] w fun e w' => e = .returned (.agg #[.bool (orderedT t), .bool (sizedT t), .bool (keyedT t), .bool (pointT t)]) ∧ Below w.heap.size w w' := by
  have h1 := fun W => assert_ordered ht v W
  have h2 := fun W => assert_sized ht v W
  have h3 := fun W => assert_keyed ht v W
  have h4 := fun W => assert_pointing ht v W
  generalize orderedT t = b0 at *
  generalize sizedT t = b1 at *
  generalize keyedT t = b2 at *
  generalize pointT t = b3 at *
  generalize (if b0 = true then Value.iface t v else Value.nilIface) = v0 at h1
  generalize (if b1 = true then Value.iface t v else Value.nilIface) = v1 at h2
  generalize (if b2 = true then Value.iface t v else Value.nilIface) = v2 at h3
  generalize (if b3 = true then Value.iface t v else Value.nilIface) = v3 at h4
  clear ht
  go_enter Tryd.func78, Tryd.ntmps78
  go_wp2_with fail
  exact bodyPost_ret (v := .agg #[.bool b0, .bool b1, .bool b2, .bool b3]) (by simp [results, Tryd.results78, go_sem]) rfl ⟨rfl, by ((repeat' (first | exact Below.refl _ _ | assumption | (refine bl_alloc ?_ _) | (refine Below.drew ?_) | (refine below_drewN ?_ _) | (refine Below.setCell ?_ ?_ _) | (refine bl_trans ?_ (by assumption)))) <;> first | omega | (simp; done) | (simp; omega))⟩


theorem ans_truth (h : Hd) (k : Fo) (ho : h.ok) (hk : k.ok) (hl : k.len ≤ 1034834473170) (hr : rightB h k = true) (et : tyO h k = some 114) (hkd : h.kind = 1) (w : World) (S T : Nat → Prop) (pa : Option Addr) (pc : Nat) (ia : Option Addr) (ic : Nat) (qa : Option Addr) (qc : Nat) (ja : Option Addr) (jc : Nat)
    (hd : DatAt w S h k pa pc ia ic) (hv : DatAt w T h k qa qc ja jc) (hown : OwnAt w) :
    Calls Tryd.prog 40 #[Value.iface 114 (.agg (h.cells qa qc ja k.len jc)), .agg (h.cells pa pc ia k.len ic)] w fun e w' => e = .returned (.bool true) ∧ Below w.heap.size w w' := by
  have ht : ValTy 114 := tyO_val et
  have hkb : keyB h k = true := by unfold keyB; rw [et]; rfl
  have e0 : ordB h = false := by unfold ordB; rw [decide_eq_false_iff_not]; omega
  have e1 : sizB h = false := by unfold sizB; rw [decide_eq_false_iff_not]; omega
  have e2 : (kindB h && keyB h k) = true := by rw [hkb]; rw [Bool.and_true]; unfold kindB; rw [decide_eq_true_iff]; omega
  have e3 : poiB h = false := by unfold poiB; rw [decide_eq_false_iff_not]; omega
  refine calls_of_wp Tryd.func40 as_body ?_
  have h0 : Sl 81 { tmps := #[Value.iface 114 (.agg (h.cells qa qc ja k.len jc)), .agg (h.cells pa pc ia k.len ic)] ++ Array.replicate (Tryd.f40.ntmps - #[Value.iface 114 (.agg (h.cells qa qc ja k.len jc)), .agg (h.cells pa pc ia k.len ic)].size) undef, defers := [] } [(0, .iface 114 (.agg (h.cells qa qc ja k.len jc))), (1, .agg (h.cells pa pc ia k.len ic))] :=
    ⟨by simp [Tryd.ntmps40], rfl, fun p hp => by
      simp only [List.mem_cons, List.not_mem_nil, or_false] at hp
      rcases hp with rfl | rfl <;> simp [slot]⟩
  generalize { tmps := #[Value.iface 114 (.agg (h.cells qa qc ja k.len jc)), .agg (h.cells pa pc ia k.len ic)] ++ Array.replicate (Tryd.f40.ntmps - #[Value.iface 114 (.agg (h.cells qa qc ja k.len jc)), .agg (h.cells pa pc ia k.len ic)].size) undef, defers := [] : Act } = a0 at h0 ⊢
  unfold asBody
  refine wp_seq (as_r0 a0 w _ _ _ (h0.none.add (h0.look 0 rfl)) rfl h pa pc ia k.len ic (h0.look 1 rfl) fun a1 h1 => ?_)
  have hA : Blk (w.alloc (.cells (h.cells pa pc ia k.len ic) 28)) w.heap.size 28 (h.cells pa pc ia k.len ic) := Blk.new _ _ _
  have hb : Below w.heap.size w (w.alloc (.cells (h.cells pa pc ia k.len ic) 28)) := (Below.refl _ _).alloc (Nat.le_refl _) _
  generalize w.alloc (.cells (h.cells pa pc ia k.len ic) 28) = w1 at hA hb ⊢
  refine wp_seq (as_r1 a1 w1 _ _ _ h1 rfl h pa pc ia k.len ic w.heap.size hA false false true false (fun W hW => by have := rordered_any h k.len pa pc ia ic W; rwa [e0] at this) (fun W hW => by have := rsized_any h k.len pa pc ia ic W; rwa [e1] at this)
    (fun W hW => by have := rkeyed_any h k ho hk hr W _ pa pc ia ic (hd.below (bl_trans hb hW) (fun b _ h => h)); rwa [e2] at this) (fun W hW => by have := rpointing_any h k.len pa pc ia ic W; rwa [e3] at this) rfl fun a2 w2 g h2 hX hg hb2 => ?_)
  have hA2 := hA.below hb2 hA.lt
  have hbw2 := bl_trans hb hb2
  clear hA
  refine wp_seq (wp_seq (as_r2_truth a2 w2 _ _ _ ((h2.none.add (h2.look 0 rfl)).add (h2.look 3 rfl) |>.add (h2.look 5 rfl)) rfl h pa pc ia k.len ic w.heap.size hA2 qa qc ja jc (nameS h) g false false true false hX (fun W _ => abil_any ht _ W)
    (fun W _ => type_any h k ho W qa qc ja jc) (fun W _ => rname_any h k.len pa pc ia ic ho W) rfl rfl rfl fun a3 w3 h3 hb3 => ?_))
  refine wpc_off (h3.look 33 rfl) ?_
  have hA3 := hA2.below hb3 hA2.lt
  have hbw3 := bl_trans hbw2 hb3
  clear hA2 hX hg hbw2
  have h3 := (h3.none.add (h3.look 0 rfl)).add (h3.look 3 rfl)
  show Code.wp _ asSize _ a3 w3
  unfold asSize
  refine wp_seq (wp_seq (as_r4F a3 w3 _ _ _ h3 rfl 114 ht _ rfl rfl fun a4 h4 => ?_))
  refine wp_seq (as_r5F a4 w3 _ _ _ ((h4.none.add (h4.look 0 rfl)).add (h4.look 3 rfl)) rfl (h4.look 7 rfl) fun a5 w5 h5 hb5 => ?_)
  refine wpc_off (h5.look 46 rfl) ?_
  have hA5 := hA3.below hb5 hA3.lt
  have hbw5 := bl_trans hbw3 hb5
  clear hA3 hbw3
  have h5 := h5.tl
  show Code.wp _ asPoint _ a5 w5
  unfold asPoint
  refine wp_seq (wp_seq (as_r7F a5 w5 _ _ _ h5 rfl 114 ht _ rfl rfl fun a6 h6 => ?_))
  refine wp_seq (as_r8F a6 w5 _ _ _ ((h6.none.add (h6.look 0 rfl)).add (h6.look 3 rfl)) rfl (h6.look 9 rfl) fun a7 w7 h7 hb7 => ?_)
  refine wpc_off (h7.look 61 rfl) ?_
  have hA7 := hA5.below hb7 hA5.lt
  have hbw7 := bl_trans hbw5 hb7
  have h7 := h7.tl
  show Code.wp _ asKey _ a7 w7
  unfold asKey
  refine wp_seq (wp_seq (as_r10T a7 w7 _ _ _ h7 rfl 114 ht _ rfl rfl fun a8 h8 => ?_))
  refine wp_seq (as_r11 a8 w7 _ _ _ ((h8.none.add (h8.look 0 rfl)).add (h8.look 3 rfl) |>.add (h8.look 10 rfl)) rfl true (h8.look 11 rfl) fun a9 h9 => ?_)
  refine wp_cond_true (h9.look 67 rfl) ?_
  have hH : Calls Tryd.prog 26 #[.agg (h.cells pa pc ia k.len ic)] w7 fun e w' => e = .returned (.tuple #[.int .u64 (hashD h k), .nilIface]) ∧ Below w7.heap.size w7 w' := by
    refine (Hash_any h k ho hk hl w7 _ pa pc ia ic (hd.below hbw7 (fun b _ h => h)) (hown.below hbw7 (Nat.le_refl _))).mono ?_
    rintro e w' ⟨hbx, n, v, rfl, hv, hn⟩
    rw [if_pos (by rw [hr, hkb]; rfl)] at hn
    unfold KeyV at hv
    rw [if_pos hr, if_pos hkb] at hv
    subst hv hn
    have hhv : hashV h k = hashD h k := by unfold hashV; rw [et]
    rw [hhv]
    exact ⟨rfl, hbx⟩
  refine wp_seq (as_r12 a9 w7 _ _ _ h9.tl rfl h pa pc ia k.len ic w.heap.size hA7 (hashD h k) hH rfl fun a10 w10 h10 hb10 => ?_)
  have hv10 := hv.below (bl_trans hbw7 hb10) (fun b _ h => h)
  refine wp_seq (as_r13_truth a10 w10 _ _ _ ((h10.none.add (h10.look 0 rfl)).add (h10.look 3 rfl)) rfl h k.len qa qc ja jc (hashD h k) (truthHash_any h k ho hk hl w10 _ qa qc ja jc hv10) (h10.look 10 rfl) (h10.look 12 rfl) (h10.look 13 rfl) fun a11 w11 h11 hb11 => ?_)
  refine wpc_off (h11.look 80 rfl) ?_
  show Code.wp _ (Code.seq (r_as 15) .ret) _ a11 w11
  refine wp_seq (as_r15 a11 w11 _ _ _ h11.none rfl fun a12 h12 => wp_ret ?_)
  exact bodyPost_ret (results_tmp rfl _ _ _) h12.defers ⟨congrArg Ending.returned (h12.look 4 rfl), bl_trans (bl_trans hbw7 hb10) hb11⟩


theorem ans_figure (h : Hd) (k : Fo) (ho : h.ok) (hk : k.ok) (hl : k.len ≤ 1034834473170) (hr : rightB h k = true) (et : tyO h k = some 115) (hkd : (h.kind = 2 ∨ h.kind = 3)) (w : World) (S T : Nat → Prop) (pa : Option Addr) (pc : Nat) (ia : Option Addr) (ic : Nat) (qa : Option Addr) (qc : Nat) (ja : Option Addr) (jc : Nat)
    (hd : DatAt w S h k pa pc ia ic) (hv : DatAt w T h k qa qc ja jc) (hown : OwnAt w) :
    Calls Tryd.prog 40 #[Value.iface 115 (.agg (h.cells qa qc ja k.len jc)), .agg (h.cells pa pc ia k.len ic)] w fun e w' => e = .returned (.bool true) ∧ Below w.heap.size w w' := by
  have ht : ValTy 115 := tyO_val et
  have hkb : keyB h k = true := by unfold keyB; rw [et]; rfl
  have e0 : ordB h = true := by unfold ordB; rw [decide_eq_true_iff]; omega
  have e1 : sizB h = false := by unfold sizB; rw [decide_eq_false_iff_not]; omega
  have e2 : (kindB h && keyB h k) = true := by rw [hkb]; rw [Bool.and_true]; unfold kindB; rw [decide_eq_true_iff]; omega
  have e3 : poiB h = false := by unfold poiB; rw [decide_eq_false_iff_not]; omega
  refine calls_of_wp Tryd.func40 as_body ?_
  have h0 : Sl 81 { tmps := #[Value.iface 115 (.agg (h.cells qa qc ja k.len jc)), .agg (h.cells pa pc ia k.len ic)] ++ Array.replicate (Tryd.f40.ntmps - #[Value.iface 115 (.agg (h.cells qa qc ja k.len jc)), .agg (h.cells pa pc ia k.len ic)].size) undef, defers := [] } [(0, .iface 115 (.agg (h.cells qa qc ja k.len jc))), (1, .agg (h.cells pa pc ia k.len ic))] :=
    ⟨by simp [Tryd.ntmps40], rfl, fun p hp => by
      simp only [List.mem_cons, List.not_mem_nil, or_false] at hp
      rcases hp with rfl | rfl <;> simp [slot]⟩
  generalize { tmps := #[Value.iface 115 (.agg (h.cells qa qc ja k.len jc)), .agg (h.cells pa pc ia k.len ic)] ++ Array.replicate (Tryd.f40.ntmps - #[Value.iface 115 (.agg (h.cells qa qc ja k.len jc)), .agg (h.cells pa pc ia k.len ic)].size) undef, defers := [] : Act } = a0 at h0 ⊢
  unfold asBody
  refine wp_seq (as_r0 a0 w _ _ _ (h0.none.add (h0.look 0 rfl)) rfl h pa pc ia k.len ic (h0.look 1 rfl) fun a1 h1 => ?_)
  have hA : Blk (w.alloc (.cells (h.cells pa pc ia k.len ic) 28)) w.heap.size 28 (h.cells pa pc ia k.len ic) := Blk.new _ _ _
  have hb : Below w.heap.size w (w.alloc (.cells (h.cells pa pc ia k.len ic) 28)) := (Below.refl _ _).alloc (Nat.le_refl _) _
  generalize w.alloc (.cells (h.cells pa pc ia k.len ic) 28) = w1 at hA hb ⊢
  refine wp_seq (as_r1 a1 w1 _ _ _ h1 rfl h pa pc ia k.len ic w.heap.size hA true false true false (fun W hW => by have := rordered_any h k.len pa pc ia ic W; rwa [e0] at this) (fun W hW => by have := rsized_any h k.len pa pc ia ic W; rwa [e1] at this)
    (fun W hW => by have := rkeyed_any h k ho hk hr W _ pa pc ia ic (hd.below (bl_trans hb hW) (fun b _ h => h)); rwa [e2] at this) (fun W hW => by have := rpointing_any h k.len pa pc ia ic W; rwa [e3] at this) rfl fun a2 w2 g h2 hX hg hb2 => ?_)
  have hA2 := hA.below hb2 hA.lt
  have hbw2 := bl_trans hb hb2
  clear hA
  refine wp_seq (wp_seq (as_r2_figure a2 w2 _ _ _ ((h2.none.add (h2.look 0 rfl)).add (h2.look 3 rfl) |>.add (h2.look 5 rfl)) rfl h pa pc ia k.len ic w.heap.size hA2 qa qc ja jc (nameS h) g true false true false hX (fun W _ => abil_any ht _ W)
    (fun W _ => type_any h k ho W qa qc ja jc) (fun W _ => rname_any h k.len pa pc ia ic ho W) rfl rfl rfl fun a3 w3 h3 hb3 => ?_))
  refine wpc_off (h3.look 33 rfl) ?_
  have hA3 := hA2.below hb3 hA2.lt
  have hbw3 := bl_trans hbw2 hb3
  clear hA2 hX hg hbw2
  have h3 := (h3.none.add (h3.look 0 rfl)).add (h3.look 3 rfl)
  show Code.wp _ asSize _ a3 w3
  unfold asSize
  refine wp_seq (wp_seq (as_r4F a3 w3 _ _ _ h3 rfl 115 ht _ rfl rfl fun a4 h4 => ?_))
  refine wp_seq (as_r5F a4 w3 _ _ _ ((h4.none.add (h4.look 0 rfl)).add (h4.look 3 rfl)) rfl (h4.look 7 rfl) fun a5 w5 h5 hb5 => ?_)
  refine wpc_off (h5.look 46 rfl) ?_
  have hA5 := hA3.below hb5 hA3.lt
  have hbw5 := bl_trans hbw3 hb5
  clear hA3 hbw3
  have h5 := h5.tl
  show Code.wp _ asPoint _ a5 w5
  unfold asPoint
  refine wp_seq (wp_seq (as_r7F a5 w5 _ _ _ h5 rfl 115 ht _ rfl rfl fun a6 h6 => ?_))
  refine wp_seq (as_r8F a6 w5 _ _ _ ((h6.none.add (h6.look 0 rfl)).add (h6.look 3 rfl)) rfl (h6.look 9 rfl) fun a7 w7 h7 hb7 => ?_)
  refine wpc_off (h7.look 61 rfl) ?_
  have hA7 := hA5.below hb7 hA5.lt
  have hbw7 := bl_trans hbw5 hb7
  have h7 := h7.tl
  show Code.wp _ asKey _ a7 w7
  unfold asKey
  refine wp_seq (wp_seq (as_r10T a7 w7 _ _ _ h7 rfl 115 ht _ rfl rfl fun a8 h8 => ?_))
  refine wp_seq (as_r11 a8 w7 _ _ _ ((h8.none.add (h8.look 0 rfl)).add (h8.look 3 rfl) |>.add (h8.look 10 rfl)) rfl true (h8.look 11 rfl) fun a9 h9 => ?_)
  refine wp_cond_true (h9.look 67 rfl) ?_
  have hH : Calls Tryd.prog 26 #[.agg (h.cells pa pc ia k.len ic)] w7 fun e w' => e = .returned (.tuple #[.int .u64 (hashD h k), .nilIface]) ∧ Below w7.heap.size w7 w' := by
    refine (Hash_any h k ho hk hl w7 _ pa pc ia ic (hd.below hbw7 (fun b _ h => h)) (hown.below hbw7 (Nat.le_refl _))).mono ?_
    rintro e w' ⟨hbx, n, v, rfl, hv, hn⟩
    rw [if_pos (by rw [hr, hkb]; rfl)] at hn
    unfold KeyV at hv
    rw [if_pos hr, if_pos hkb] at hv
    subst hv hn
    have hhv : hashV h k = hashD h k := by unfold hashV; rw [et]
    rw [hhv]
    exact ⟨rfl, hbx⟩
  refine wp_seq (as_r12 a9 w7 _ _ _ h9.tl rfl h pa pc ia k.len ic w.heap.size hA7 (hashD h k) hH rfl fun a10 w10 h10 hb10 => ?_)
  have hv10 := hv.below (bl_trans hbw7 hb10) (fun b _ h => h)
  refine wp_seq (as_r13_figure a10 w10 _ _ _ ((h10.none.add (h10.look 0 rfl)).add (h10.look 3 rfl)) rfl h k.len qa qc ja jc (hashD h k) (figureHash_any h k ho hk hl w10 _ qa qc ja jc hv10) (h10.look 10 rfl) (h10.look 12 rfl) (h10.look 13 rfl) fun a11 w11 h11 hb11 => ?_)
  refine wpc_off (h11.look 80 rfl) ?_
  show Code.wp _ (Code.seq (r_as 15) .ret) _ a11 w11
  refine wp_seq (as_r15 a11 w11 _ _ _ h11.none rfl fun a12 h12 => wp_ret ?_)
  exact bodyPost_ret (results_tmp rfl _ _ _) h12.defers ⟨congrArg Ending.returned (h12.look 4 rfl), bl_trans (bl_trans hbw7 hb10) hb11⟩


theorem ans_letter (h : Hd) (k : Fo) (ho : h.ok) (hk : k.ok) (hl : k.len ≤ 1034834473170) (hr : rightB h k = true) (et : tyO h k = some 116) (hkd : h.kind = 4) (w : World) (S T : Nat → Prop) (pa : Option Addr) (pc : Nat) (ia : Option Addr) (ic : Nat) (qa : Option Addr) (qc : Nat) (ja : Option Addr) (jc : Nat)
    (hd : DatAt w S h k pa pc ia ic) (hv : DatAt w T h k qa qc ja jc) (hown : OwnAt w) :
    Calls Tryd.prog 40 #[Value.iface 116 (.agg (h.cells qa qc ja k.len jc)), .agg (h.cells pa pc ia k.len ic)] w fun e w' => e = .returned (.bool true) ∧ Below w.heap.size w w' := by
  have ht : ValTy 116 := tyO_val et
  have hkb : keyB h k = true := by unfold keyB; rw [et]; rfl
  have e0 : ordB h = true := by unfold ordB; rw [decide_eq_true_iff]; omega
  have e1 : sizB h = true := by unfold sizB; rw [decide_eq_true_iff]; omega
  have e2 : (kindB h && keyB h k) = true := by rw [hkb]; rw [Bool.and_true]; unfold kindB; rw [decide_eq_true_iff]; omega
  have e3 : poiB h = false := by unfold poiB; rw [decide_eq_false_iff_not]; omega
  refine calls_of_wp Tryd.func40 as_body ?_
  have h0 : Sl 81 { tmps := #[Value.iface 116 (.agg (h.cells qa qc ja k.len jc)), .agg (h.cells pa pc ia k.len ic)] ++ Array.replicate (Tryd.f40.ntmps - #[Value.iface 116 (.agg (h.cells qa qc ja k.len jc)), .agg (h.cells pa pc ia k.len ic)].size) undef, defers := [] } [(0, .iface 116 (.agg (h.cells qa qc ja k.len jc))), (1, .agg (h.cells pa pc ia k.len ic))] :=
    ⟨by simp [Tryd.ntmps40], rfl, fun p hp => by
      simp only [List.mem_cons, List.not_mem_nil, or_false] at hp
      rcases hp with rfl | rfl <;> simp [slot]⟩
  generalize { tmps := #[Value.iface 116 (.agg (h.cells qa qc ja k.len jc)), .agg (h.cells pa pc ia k.len ic)] ++ Array.replicate (Tryd.f40.ntmps - #[Value.iface 116 (.agg (h.cells qa qc ja k.len jc)), .agg (h.cells pa pc ia k.len ic)].size) undef, defers := [] : Act } = a0 at h0 ⊢
  unfold asBody
  refine wp_seq (as_r0 a0 w _ _ _ (h0.none.add (h0.look 0 rfl)) rfl h pa pc ia k.len ic (h0.look 1 rfl) fun a1 h1 => ?_)
  have hA : Blk (w.alloc (.cells (h.cells pa pc ia k.len ic) 28)) w.heap.size 28 (h.cells pa pc ia k.len ic) := Blk.new _ _ _
  have hb : Below w.heap.size w (w.alloc (.cells (h.cells pa pc ia k.len ic) 28)) := (Below.refl _ _).alloc (Nat.le_refl _) _
  generalize w.alloc (.cells (h.cells pa pc ia k.len ic) 28) = w1 at hA hb ⊢
  refine wp_seq (as_r1 a1 w1 _ _ _ h1 rfl h pa pc ia k.len ic w.heap.size hA true true true false (fun W hW => by have := rordered_any h k.len pa pc ia ic W; rwa [e0] at this) (fun W hW => by have := rsized_any h k.len pa pc ia ic W; rwa [e1] at this)
    (fun W hW => by have := rkeyed_any h k ho hk hr W _ pa pc ia ic (hd.below (bl_trans hb hW) (fun b _ h => h)); rwa [e2] at this) (fun W hW => by have := rpointing_any h k.len pa pc ia ic W; rwa [e3] at this) rfl fun a2 w2 g h2 hX hg hb2 => ?_)
  have hA2 := hA.below hb2 hA.lt
  have hbw2 := bl_trans hb hb2
  clear hA
  refine wp_seq (wp_seq (as_r2_letter a2 w2 _ _ _ ((h2.none.add (h2.look 0 rfl)).add (h2.look 3 rfl) |>.add (h2.look 5 rfl)) rfl h pa pc ia k.len ic w.heap.size hA2 qa qc ja jc (nameS h) g true true true false hX (fun W _ => abil_any ht _ W)
    (fun W _ => type_any h k ho W qa qc ja jc) (fun W _ => rname_any h k.len pa pc ia ic ho W) rfl rfl rfl fun a3 w3 h3 hb3 => ?_))
  refine wpc_off (h3.look 33 rfl) ?_
  have hA3 := hA2.below hb3 hA2.lt
  have hbw3 := bl_trans hbw2 hb3
  clear hA2 hX hg hbw2
  have h3 := (h3.none.add (h3.look 0 rfl)).add (h3.look 3 rfl)
  show Code.wp _ asSize _ a3 w3
  unfold asSize
  refine wp_seq (wp_seq (as_r4T a3 w3 _ _ _ h3 rfl 116 ht _ rfl rfl fun a4 h4 => ?_))
  refine wp_seq (as_r5_letter a4 w3 _ _ _ ((h4.none.add (h4.look 0 rfl)).add (h4.look 3 rfl)) rfl h pa pc ia k.len ic w.heap.size hA3 qa qc ja jc (lenI h) (fun W _ => by have := letterLen_any h k.len W qa qc ja jc ho; rwa [show (h.s.size : Int) = lenI h by unfold lenI; rw [if_pos hkd]] at this) (fun W _ => rlen_any h ho k.len pa pc ia ic W) rfl (h4.look 6 rfl) (h4.look 7 rfl) fun a5 w5 h5 hb5 => ?_)
  refine wpc_off (h5.look 46 rfl) ?_
  have hA5 := hA3.below hb5 hA3.lt
  have hbw5 := bl_trans hbw3 hb5
  clear hA3 hbw3
  have h5 := h5.tl
  show Code.wp _ asPoint _ a5 w5
  unfold asPoint
  refine wp_seq (wp_seq (as_r7F a5 w5 _ _ _ h5 rfl 116 ht _ rfl rfl fun a6 h6 => ?_))
  refine wp_seq (as_r8F a6 w5 _ _ _ ((h6.none.add (h6.look 0 rfl)).add (h6.look 3 rfl)) rfl (h6.look 9 rfl) fun a7 w7 h7 hb7 => ?_)
  refine wpc_off (h7.look 61 rfl) ?_
  have hA7 := hA5.below hb7 hA5.lt
  have hbw7 := bl_trans hbw5 hb7
  have h7 := h7.tl
  show Code.wp _ asKey _ a7 w7
  unfold asKey
  refine wp_seq (wp_seq (as_r10T a7 w7 _ _ _ h7 rfl 116 ht _ rfl rfl fun a8 h8 => ?_))
  refine wp_seq (as_r11 a8 w7 _ _ _ ((h8.none.add (h8.look 0 rfl)).add (h8.look 3 rfl) |>.add (h8.look 10 rfl)) rfl true (h8.look 11 rfl) fun a9 h9 => ?_)
  refine wp_cond_true (h9.look 67 rfl) ?_
  have hH : Calls Tryd.prog 26 #[.agg (h.cells pa pc ia k.len ic)] w7 fun e w' => e = .returned (.tuple #[.int .u64 (hashD h k), .nilIface]) ∧ Below w7.heap.size w7 w' := by
    refine (Hash_any h k ho hk hl w7 _ pa pc ia ic (hd.below hbw7 (fun b _ h => h)) (hown.below hbw7 (Nat.le_refl _))).mono ?_
    rintro e w' ⟨hbx, n, v, rfl, hv, hn⟩
    rw [if_pos (by rw [hr, hkb]; rfl)] at hn
    unfold KeyV at hv
    rw [if_pos hr, if_pos hkb] at hv
    subst hv hn
    have hhv : hashV h k = hashD h k := by unfold hashV; rw [et]
    rw [hhv]
    exact ⟨rfl, hbx⟩
  refine wp_seq (as_r12 a9 w7 _ _ _ h9.tl rfl h pa pc ia k.len ic w.heap.size hA7 (hashD h k) hH rfl fun a10 w10 h10 hb10 => ?_)
  have hv10 := hv.below (bl_trans hbw7 hb10) (fun b _ h => h)
  refine wp_seq (as_r13_letter a10 w10 _ _ _ ((h10.none.add (h10.look 0 rfl)).add (h10.look 3 rfl)) rfl h k.len qa qc ja jc (hashD h k) (letterHash_any h k ho hk hl w10 _ qa qc ja jc hv10) (h10.look 10 rfl) (h10.look 12 rfl) (h10.look 13 rfl) fun a11 w11 h11 hb11 => ?_)
  refine wpc_off (h11.look 80 rfl) ?_
  show Code.wp _ (Code.seq (r_as 15) .ret) _ a11 w11
  refine wp_seq (as_r15 a11 w11 _ _ _ h11.none rfl fun a12 h12 => wp_ret ?_)
  exact bodyPost_ret (results_tmp rfl _ _ _) h12.defers ⟨congrArg Ending.returned (h12.look 4 rfl), bl_trans (bl_trans hbw7 hb10) hb11⟩


theorem ans_row (h : Hd) (k : Fo) (ho : h.ok) (hk : k.ok) (_hl : k.len ≤ 1034834473170) (hr : rightB h k = true) (et : tyO h k = some 117) (hkd : h.kind = 5) (w : World) (S T : Nat → Prop) (pa : Option Addr) (pc : Nat) (ia : Option Addr) (ic : Nat) (qa : Option Addr) (qc : Nat) (ja : Option Addr) (jc : Nat)
    (hd : DatAt w S h k pa pc ia ic) (_hv : DatAt w T h k qa qc ja jc) (_hown : OwnAt w) :
    Calls Tryd.prog 40 #[Value.iface 117 (.agg (h.cells qa qc ja k.len jc)), .agg (h.cells pa pc ia k.len ic)] w fun e w' => e = .returned (.bool true) ∧ Below w.heap.size w w' := by
  have ht : ValTy 117 := tyO_val et
  have hkb : keyB h k = false := by unfold keyB; rw [et]; rfl
  have e0 : ordB h = false := by unfold ordB; rw [decide_eq_false_iff_not]; omega
  have e1 : sizB h = true := by unfold sizB; rw [decide_eq_true_iff]; omega
  have e2 : (kindB h && keyB h k) = false := by rw [hkb]; rw [Bool.and_false]
  have e3 : poiB h = true := by unfold poiB; rw [decide_eq_true_iff]; omega
  refine calls_of_wp Tryd.func40 as_body ?_
  have h0 : Sl 81 { tmps := #[Value.iface 117 (.agg (h.cells qa qc ja k.len jc)), .agg (h.cells pa pc ia k.len ic)] ++ Array.replicate (Tryd.f40.ntmps - #[Value.iface 117 (.agg (h.cells qa qc ja k.len jc)), .agg (h.cells pa pc ia k.len ic)].size) undef, defers := [] } [(0, .iface 117 (.agg (h.cells qa qc ja k.len jc))), (1, .agg (h.cells pa pc ia k.len ic))] :=
    ⟨by simp [Tryd.ntmps40], rfl, fun p hp => by
      simp only [List.mem_cons, List.not_mem_nil, or_false] at hp
      rcases hp with rfl | rfl <;> simp [slot]⟩
  generalize { tmps := #[Value.iface 117 (.agg (h.cells qa qc ja k.len jc)), .agg (h.cells pa pc ia k.len ic)] ++ Array.replicate (Tryd.f40.ntmps - #[Value.iface 117 (.agg (h.cells qa qc ja k.len jc)), .agg (h.cells pa pc ia k.len ic)].size) undef, defers := [] : Act } = a0 at h0 ⊢
  unfold asBody
  refine wp_seq (as_r0 a0 w _ _ _ (h0.none.add (h0.look 0 rfl)) rfl h pa pc ia k.len ic (h0.look 1 rfl) fun a1 h1 => ?_)
  have hA : Blk (w.alloc (.cells (h.cells pa pc ia k.len ic) 28)) w.heap.size 28 (h.cells pa pc ia k.len ic) := Blk.new _ _ _
  have hb : Below w.heap.size w (w.alloc (.cells (h.cells pa pc ia k.len ic) 28)) := (Below.refl _ _).alloc (Nat.le_refl _) _
  generalize w.alloc (.cells (h.cells pa pc ia k.len ic) 28) = w1 at hA hb ⊢
  refine wp_seq (as_r1 a1 w1 _ _ _ h1 rfl h pa pc ia k.len ic w.heap.size hA false true false true (fun W hW => by have := rordered_any h k.len pa pc ia ic W; rwa [e0] at this) (fun W hW => by have := rsized_any h k.len pa pc ia ic W; rwa [e1] at this)
    (fun W hW => by have := rkeyed_any h k ho hk hr W _ pa pc ia ic (hd.below (bl_trans hb hW) (fun b _ h => h)); rwa [e2] at this) (fun W hW => by have := rpointing_any h k.len pa pc ia ic W; rwa [e3] at this) rfl fun a2 w2 g h2 hX hg hb2 => ?_)
  have hA2 := hA.below hb2 hA.lt
  have hbw2 := bl_trans hb hb2
  clear hA
  refine wp_seq (wp_seq (as_r2_row a2 w2 _ _ _ ((h2.none.add (h2.look 0 rfl)).add (h2.look 3 rfl) |>.add (h2.look 5 rfl)) rfl h pa pc ia k.len ic w.heap.size hA2 qa qc ja jc (nameS h) g false true false true hX (fun W _ => abil_any ht _ W)
    (fun W _ => type_any h k ho W qa qc ja jc) (fun W _ => rname_any h k.len pa pc ia ic ho W) rfl rfl rfl fun a3 w3 h3 hb3 => ?_))
  refine wpc_off (h3.look 33 rfl) ?_
  have hA3 := hA2.below hb3 hA2.lt
  have hbw3 := bl_trans hbw2 hb3
  clear hA2 hX hg hbw2
  have h3 := (h3.none.add (h3.look 0 rfl)).add (h3.look 3 rfl)
  show Code.wp _ asSize _ a3 w3
  unfold asSize
  refine wp_seq (wp_seq (as_r4T a3 w3 _ _ _ h3 rfl 117 ht _ rfl rfl fun a4 h4 => ?_))
  refine wp_seq (as_r5_row a4 w3 _ _ _ ((h4.none.add (h4.look 0 rfl)).add (h4.look 3 rfl)) rfl h pa pc ia k.len ic w.heap.size hA3 qa qc ja jc (lenI h) (fun W _ => by have := rowLen_any h k.len W qa qc ja jc; rwa [show h.len = lenI h by unfold lenI; rw [if_neg (by omega)]] at this) (fun W _ => rlen_any h ho k.len pa pc ia ic W) rfl (h4.look 6 rfl) (h4.look 7 rfl) fun a5 w5 h5 hb5 => ?_)
  refine wpc_off (h5.look 46 rfl) ?_
  have hA5 := hA3.below hb5 hA3.lt
  have hbw5 := bl_trans hbw3 hb5
  clear hA3 hbw3
  have h5 := h5.tl
  show Code.wp _ asPoint _ a5 w5
  unfold asPoint
  refine wp_seq (wp_seq (as_r7T a5 w5 _ _ _ h5 rfl 117 ht _ rfl rfl fun a6 h6 => ?_))
  have hrest : ∀ a7 w7, Sl 81 a7 [(61, .bool false), (3, .pointer (some ⟨w.heap.size, 0, none⟩)), (0, .iface 117 (.agg (h.cells qa qc ja k.len jc)))] → Below w5.heap.size w5 w7 → (Code.cond (.tmp 61) (.seq (r_as 9) .ret) .skip).wp Tryd.prog (Exit.then (asKey.wp Tryd.prog (bodyPost Tryd.prog Tryd.f40 fun e w' => e = .returned (.bool true) ∧ Below w.heap.size w w')) (bodyPost Tryd.prog Tryd.f40 fun e w' => e = .returned (.bool true) ∧ Below w.heap.size w w')) a7 w7 := fun a7 w7 h7 hb7 => by
    refine wpc_off (h7.look 61 rfl) ?_
    have hA7 := hA5.below hb7 hA5.lt
    have hbw7 := bl_trans hbw5 hb7
    have h7 := h7.tl
    show Code.wp _ asKey _ a7 w7
    unfold asKey
    refine wp_seq (wp_seq (as_r10F a7 w7 _ _ _ h7 rfl 117 ht _ rfl rfl fun a8 h8 => ?_))
    refine wp_seq (as_r11 a8 w7 _ _ _ ((h8.none.add (h8.look 0 rfl)).add (h8.look 3 rfl) |>.add (h8.look 10 rfl)) rfl false (h8.look 11 rfl) fun a9 h9 => ?_)
    refine wpc_off (h9.look 67 rfl) ?_
    show Code.wp _ (Code.seq (r_as 15) .ret) _ a9 w7
    refine wp_seq (as_r15 a9 w7 _ _ _ h9.none rfl fun a12 h12 => wp_ret ?_)
    exact bodyPost_ret (results_tmp rfl _ _ _) h12.defers ⟨congrArg Ending.returned (h12.look 4 rfl), hbw7⟩
  have hN := fun W => rowNone_any h k.len W qa qc ja jc
  cases hob : decide (h.obj = 0) with
  | true =>
    have ho0 : (h.obj == 0) = true := by simpa using hob
    rw [hob] at hN
    exact wp_seq (as_r8_row_true a6 w5 _ _ _ ((h6.none.add (h6.look 0 rfl)).add (h6.look 3 rfl)) rfl h pa pc ia k.len ic w.heap.size hA5 qa qc ja jc ho0 (fun W _ => hN W) rfl (h6.look 8 rfl) (h6.look 9 rfl) hrest)
  | false =>
    have ho0 : (h.obj == 0) = false := by simpa using hob
    rw [hob] at hN
    exact wp_seq (as_r8_row_false a6 w5 _ _ _ ((h6.none.add (h6.look 0 rfl)).add (h6.look 3 rfl)) rfl h pa pc ia k.len ic w.heap.size hA5 qa qc ja jc ho0 (fun W _ => hN W) rfl (h6.look 8 rfl) (h6.look 9 rfl) hrest)


theorem ans_lead (h : Hd) (k : Fo) (ho : h.ok) (hk : k.ok) (_hl : k.len ≤ 1034834473170) (hr : rightB h k = true) (et : tyO h k = some 118) (hkd : (h.kind = 6 ∨ h.kind = 7)) (w : World) (S T : Nat → Prop) (pa : Option Addr) (pc : Nat) (ia : Option Addr) (ic : Nat) (qa : Option Addr) (qc : Nat) (ja : Option Addr) (jc : Nat)
    (hd : DatAt w S h k pa pc ia ic) (_hv : DatAt w T h k qa qc ja jc) (_hown : OwnAt w) :
    Calls Tryd.prog 40 #[Value.iface 118 (.agg (h.cells qa qc ja k.len jc)), .agg (h.cells pa pc ia k.len ic)] w fun e w' => e = .returned (.bool true) ∧ Below w.heap.size w w' := by
  have ht : ValTy 118 := tyO_val et
  have hkb : keyB h k = false := by unfold keyB; rw [et]; rfl
  have e0 : ordB h = false := by unfold ordB; rw [decide_eq_false_iff_not]; omega
  have e1 : sizB h = false := by unfold sizB; rw [decide_eq_false_iff_not]; omega
  have e2 : (kindB h && keyB h k) = false := by rw [hkb]; rw [Bool.and_false]
  have e3 : poiB h = true := by unfold poiB; rw [decide_eq_true_iff]; omega
  refine calls_of_wp Tryd.func40 as_body ?_
  have h0 : Sl 81 { tmps := #[Value.iface 118 (.agg (h.cells qa qc ja k.len jc)), .agg (h.cells pa pc ia k.len ic)] ++ Array.replicate (Tryd.f40.ntmps - #[Value.iface 118 (.agg (h.cells qa qc ja k.len jc)), .agg (h.cells pa pc ia k.len ic)].size) undef, defers := [] } [(0, .iface 118 (.agg (h.cells qa qc ja k.len jc))), (1, .agg (h.cells pa pc ia k.len ic))] :=
    ⟨by simp [Tryd.ntmps40], rfl, fun p hp => by
      simp only [List.mem_cons, List.not_mem_nil, or_false] at hp
      rcases hp with rfl | rfl <;> simp [slot]⟩
  generalize { tmps := #[Value.iface 118 (.agg (h.cells qa qc ja k.len jc)), .agg (h.cells pa pc ia k.len ic)] ++ Array.replicate (Tryd.f40.ntmps - #[Value.iface 118 (.agg (h.cells qa qc ja k.len jc)), .agg (h.cells pa pc ia k.len ic)].size) undef, defers := [] : Act } = a0 at h0 ⊢
  unfold asBody
  refine wp_seq (as_r0 a0 w _ _ _ (h0.none.add (h0.look 0 rfl)) rfl h pa pc ia k.len ic (h0.look 1 rfl) fun a1 h1 => ?_)
  have hA : Blk (w.alloc (.cells (h.cells pa pc ia k.len ic) 28)) w.heap.size 28 (h.cells pa pc ia k.len ic) := Blk.new _ _ _
  have hb : Below w.heap.size w (w.alloc (.cells (h.cells pa pc ia k.len ic) 28)) := (Below.refl _ _).alloc (Nat.le_refl _) _
  generalize w.alloc (.cells (h.cells pa pc ia k.len ic) 28) = w1 at hA hb ⊢
  refine wp_seq (as_r1 a1 w1 _ _ _ h1 rfl h pa pc ia k.len ic w.heap.size hA false false false true (fun W hW => by have := rordered_any h k.len pa pc ia ic W; rwa [e0] at this) (fun W hW => by have := rsized_any h k.len pa pc ia ic W; rwa [e1] at this)
    (fun W hW => by have := rkeyed_any h k ho hk hr W _ pa pc ia ic (hd.below (bl_trans hb hW) (fun b _ h => h)); rwa [e2] at this) (fun W hW => by have := rpointing_any h k.len pa pc ia ic W; rwa [e3] at this) rfl fun a2 w2 g h2 hX hg hb2 => ?_)
  have hA2 := hA.below hb2 hA.lt
  have hbw2 := bl_trans hb hb2
  clear hA
  refine wp_seq (wp_seq (as_r2_lead a2 w2 _ _ _ ((h2.none.add (h2.look 0 rfl)).add (h2.look 3 rfl) |>.add (h2.look 5 rfl)) rfl h pa pc ia k.len ic w.heap.size hA2 qa qc ja jc (nameS h) g false false false true hX (fun W _ => abil_any ht _ W)
    (fun W _ => type_any h k ho W qa qc ja jc) (fun W _ => rname_any h k.len pa pc ia ic ho W) rfl rfl rfl fun a3 w3 h3 hb3 => ?_))
  refine wpc_off (h3.look 33 rfl) ?_
  have hA3 := hA2.below hb3 hA2.lt
  have hbw3 := bl_trans hbw2 hb3
  clear hA2 hX hg hbw2
  have h3 := (h3.none.add (h3.look 0 rfl)).add (h3.look 3 rfl)
  show Code.wp _ asSize _ a3 w3
  unfold asSize
  refine wp_seq (wp_seq (as_r4F a3 w3 _ _ _ h3 rfl 118 ht _ rfl rfl fun a4 h4 => ?_))
  refine wp_seq (as_r5F a4 w3 _ _ _ ((h4.none.add (h4.look 0 rfl)).add (h4.look 3 rfl)) rfl (h4.look 7 rfl) fun a5 w5 h5 hb5 => ?_)
  refine wpc_off (h5.look 46 rfl) ?_
  have hA5 := hA3.below hb5 hA3.lt
  have hbw5 := bl_trans hbw3 hb5
  clear hA3 hbw3
  have h5 := h5.tl
  show Code.wp _ asPoint _ a5 w5
  unfold asPoint
  refine wp_seq (wp_seq (as_r7T a5 w5 _ _ _ h5 rfl 118 ht _ rfl rfl fun a6 h6 => ?_))
  have hrest : ∀ a7 w7, Sl 81 a7 [(61, .bool false), (3, .pointer (some ⟨w.heap.size, 0, none⟩)), (0, .iface 118 (.agg (h.cells qa qc ja k.len jc)))] → Below w5.heap.size w5 w7 → (Code.cond (.tmp 61) (.seq (r_as 9) .ret) .skip).wp Tryd.prog (Exit.then (asKey.wp Tryd.prog (bodyPost Tryd.prog Tryd.f40 fun e w' => e = .returned (.bool true) ∧ Below w.heap.size w w')) (bodyPost Tryd.prog Tryd.f40 fun e w' => e = .returned (.bool true) ∧ Below w.heap.size w w')) a7 w7 := fun a7 w7 h7 hb7 => by
    refine wpc_off (h7.look 61 rfl) ?_
    have hA7 := hA5.below hb7 hA5.lt
    have hbw7 := bl_trans hbw5 hb7
    have h7 := h7.tl
    show Code.wp _ asKey _ a7 w7
    unfold asKey
    refine wp_seq (wp_seq (as_r10F a7 w7 _ _ _ h7 rfl 118 ht _ rfl rfl fun a8 h8 => ?_))
    refine wp_seq (as_r11 a8 w7 _ _ _ ((h8.none.add (h8.look 0 rfl)).add (h8.look 3 rfl) |>.add (h8.look 10 rfl)) rfl false (h8.look 11 rfl) fun a9 h9 => ?_)
    refine wpc_off (h9.look 67 rfl) ?_
    show Code.wp _ (Code.seq (r_as 15) .ret) _ a9 w7
    refine wp_seq (as_r15 a9 w7 _ _ _ h9.none rfl fun a12 h12 => wp_ret ?_)
    exact bodyPost_ret (results_tmp rfl _ _ _) h12.defers ⟨congrArg Ending.returned (h12.look 4 rfl), hbw7⟩
  have hN := fun W => leadNone_any h k.len W qa qc ja jc
  cases hob : decide (h.obj = 0) with
  | true =>
    have ho0 : (h.obj == 0) = true := by simpa using hob
    rw [hob] at hN
    exact wp_seq (as_r8_lead_true a6 w5 _ _ _ ((h6.none.add (h6.look 0 rfl)).add (h6.look 3 rfl)) rfl h pa pc ia k.len ic w.heap.size hA5 qa qc ja jc ho0 (fun W _ => hN W) rfl (h6.look 8 rfl) (h6.look 9 rfl) hrest)
  | false =>
    have ho0 : (h.obj == 0) = false := by simpa using hob
    rw [hob] at hN
    exact wp_seq (as_r8_lead_false a6 w5 _ _ _ ((h6.none.add (h6.look 0 rfl)).add (h6.look 3 rfl)) rfl h pa pc ia k.len ic w.heap.size hA5 qa qc ja jc ho0 (fun W _ => hN W) rfl (h6.look 8 rfl) (h6.look 9 rfl) hrest)


theorem ans_arrow (h : Hd) (k : Fo) (ho : h.ok) (hk : k.ok) (hl : k.len ≤ 1034834473170) (hr : rightB h k = true) (et : tyO h k = some 119) (hkd : h.kind = 9) (w : World) (S T : Nat → Prop) (pa : Option Addr) (pc : Nat) (ia : Option Addr) (ic : Nat) (qa : Option Addr) (qc : Nat) (ja : Option Addr) (jc : Nat)
    (hd : DatAt w S h k pa pc ia ic) (hv : DatAt w T h k qa qc ja jc) (hown : OwnAt w) :
    Calls Tryd.prog 40 #[Value.iface 119 (.agg (h.cells qa qc ja k.len jc)), .agg (h.cells pa pc ia k.len ic)] w fun e w' => e = .returned (.bool true) ∧ Below w.heap.size w w' := by
  have ht : ValTy 119 := tyO_val et
  have hkb : keyB h k = true := by unfold keyB; rw [et]; rfl
  have e0 : ordB h = false := by unfold ordB; rw [decide_eq_false_iff_not]; omega
  have e1 : sizB h = false := by unfold sizB; rw [decide_eq_false_iff_not]; omega
  have e2 : (kindB h && keyB h k) = true := by rw [hkb]; rw [Bool.and_true]; unfold kindB; rw [decide_eq_true_iff]; omega
  have e3 : poiB h = true := by unfold poiB; rw [decide_eq_true_iff]; omega
  refine calls_of_wp Tryd.func40 as_body ?_
  have h0 : Sl 81 { tmps := #[Value.iface 119 (.agg (h.cells qa qc ja k.len jc)), .agg (h.cells pa pc ia k.len ic)] ++ Array.replicate (Tryd.f40.ntmps - #[Value.iface 119 (.agg (h.cells qa qc ja k.len jc)), .agg (h.cells pa pc ia k.len ic)].size) undef, defers := [] } [(0, .iface 119 (.agg (h.cells qa qc ja k.len jc))), (1, .agg (h.cells pa pc ia k.len ic))] :=
    ⟨by simp [Tryd.ntmps40], rfl, fun p hp => by
      simp only [List.mem_cons, List.not_mem_nil, or_false] at hp
      rcases hp with rfl | rfl <;> simp [slot]⟩
  generalize { tmps := #[Value.iface 119 (.agg (h.cells qa qc ja k.len jc)), .agg (h.cells pa pc ia k.len ic)] ++ Array.replicate (Tryd.f40.ntmps - #[Value.iface 119 (.agg (h.cells qa qc ja k.len jc)), .agg (h.cells pa pc ia k.len ic)].size) undef, defers := [] : Act } = a0 at h0 ⊢
  unfold asBody
  refine wp_seq (as_r0 a0 w _ _ _ (h0.none.add (h0.look 0 rfl)) rfl h pa pc ia k.len ic (h0.look 1 rfl) fun a1 h1 => ?_)
  have hA : Blk (w.alloc (.cells (h.cells pa pc ia k.len ic) 28)) w.heap.size 28 (h.cells pa pc ia k.len ic) := Blk.new _ _ _
  have hb : Below w.heap.size w (w.alloc (.cells (h.cells pa pc ia k.len ic) 28)) := (Below.refl _ _).alloc (Nat.le_refl _) _
  generalize w.alloc (.cells (h.cells pa pc ia k.len ic) 28) = w1 at hA hb ⊢
  refine wp_seq (as_r1 a1 w1 _ _ _ h1 rfl h pa pc ia k.len ic w.heap.size hA false false true true (fun W hW => by have := rordered_any h k.len pa pc ia ic W; rwa [e0] at this) (fun W hW => by have := rsized_any h k.len pa pc ia ic W; rwa [e1] at this)
    (fun W hW => by have := rkeyed_any h k ho hk hr W _ pa pc ia ic (hd.below (bl_trans hb hW) (fun b _ h => h)); rwa [e2] at this) (fun W hW => by have := rpointing_any h k.len pa pc ia ic W; rwa [e3] at this) rfl fun a2 w2 g h2 hX hg hb2 => ?_)
  have hA2 := hA.below hb2 hA.lt
  have hbw2 := bl_trans hb hb2
  clear hA
  refine wp_seq (wp_seq (as_r2_arrow a2 w2 _ _ _ ((h2.none.add (h2.look 0 rfl)).add (h2.look 3 rfl) |>.add (h2.look 5 rfl)) rfl h pa pc ia k.len ic w.heap.size hA2 qa qc ja jc (nameS h) g false false true true hX (fun W _ => abil_any ht _ W)
    (fun W _ => type_any h k ho W qa qc ja jc) (fun W _ => rname_any h k.len pa pc ia ic ho W) rfl rfl rfl fun a3 w3 h3 hb3 => ?_))
  refine wpc_off (h3.look 33 rfl) ?_
  have hA3 := hA2.below hb3 hA2.lt
  have hbw3 := bl_trans hbw2 hb3
  clear hA2 hX hg hbw2
  have h3 := (h3.none.add (h3.look 0 rfl)).add (h3.look 3 rfl)
  show Code.wp _ asSize _ a3 w3
  unfold asSize
  refine wp_seq (wp_seq (as_r4F a3 w3 _ _ _ h3 rfl 119 ht _ rfl rfl fun a4 h4 => ?_))
  refine wp_seq (as_r5F a4 w3 _ _ _ ((h4.none.add (h4.look 0 rfl)).add (h4.look 3 rfl)) rfl (h4.look 7 rfl) fun a5 w5 h5 hb5 => ?_)
  refine wpc_off (h5.look 46 rfl) ?_
  have hA5 := hA3.below hb5 hA3.lt
  have hbw5 := bl_trans hbw3 hb5
  clear hA3 hbw3
  have h5 := h5.tl
  show Code.wp _ asPoint _ a5 w5
  unfold asPoint
  refine wp_seq (wp_seq (as_r7T a5 w5 _ _ _ h5 rfl 119 ht _ rfl rfl fun a6 h6 => ?_))
  have hrest : ∀ a7 w7, Sl 81 a7 [(61, .bool false), (3, .pointer (some ⟨w.heap.size, 0, none⟩)), (0, .iface 119 (.agg (h.cells qa qc ja k.len jc)))] → Below w5.heap.size w5 w7 → (Code.cond (.tmp 61) (.seq (r_as 9) .ret) .skip).wp Tryd.prog (Exit.then (asKey.wp Tryd.prog (bodyPost Tryd.prog Tryd.f40 fun e w' => e = .returned (.bool true) ∧ Below w.heap.size w w')) (bodyPost Tryd.prog Tryd.f40 fun e w' => e = .returned (.bool true) ∧ Below w.heap.size w w')) a7 w7 := fun a7 w7 h7 hb7 => by
    refine wpc_off (h7.look 61 rfl) ?_
    have hA7 := hA5.below hb7 hA5.lt
    have hbw7 := bl_trans hbw5 hb7
    have h7 := h7.tl
    show Code.wp _ asKey _ a7 w7
    unfold asKey
    refine wp_seq (wp_seq (as_r10T a7 w7 _ _ _ h7 rfl 119 ht _ rfl rfl fun a8 h8 => ?_))
    refine wp_seq (as_r11 a8 w7 _ _ _ ((h8.none.add (h8.look 0 rfl)).add (h8.look 3 rfl) |>.add (h8.look 10 rfl)) rfl true (h8.look 11 rfl) fun a9 h9 => ?_)
    refine wp_cond_true (h9.look 67 rfl) ?_
    have hH : Calls Tryd.prog 26 #[.agg (h.cells pa pc ia k.len ic)] w7 fun e w' => e = .returned (.tuple #[.int .u64 (hashD h k), .nilIface]) ∧ Below w7.heap.size w7 w' := by
      refine (Hash_any h k ho hk hl w7 _ pa pc ia ic (hd.below hbw7 (fun b _ h => h)) (hown.below hbw7 (Nat.le_refl _))).mono ?_
      rintro e w' ⟨hbx, n, v, rfl, hv, hn⟩
      rw [if_pos (by rw [hr, hkb]; rfl)] at hn
      unfold KeyV at hv
      rw [if_pos hr, if_pos hkb] at hv
      subst hv hn
      have hhv : hashV h k = hashD h k := by unfold hashV; rw [et]
      rw [hhv]
      exact ⟨rfl, hbx⟩
    refine wp_seq (as_r12 a9 w7 _ _ _ h9.tl rfl h pa pc ia k.len ic w.heap.size hA7 (hashD h k) hH rfl fun a10 w10 h10 hb10 => ?_)
    have hv10 := hv.below (bl_trans hbw7 hb10) (fun b _ h => h)
    refine wp_seq (as_r13_arrow a10 w10 _ _ _ ((h10.none.add (h10.look 0 rfl)).add (h10.look 3 rfl)) rfl h k.len qa qc ja jc (hashD h k) (arrowHash_any h k ho hk hl w10 _ qa qc ja jc hv10) (h10.look 10 rfl) (h10.look 12 rfl) (h10.look 13 rfl) fun a11 w11 h11 hb11 => ?_)
    refine wpc_off (h11.look 80 rfl) ?_
    show Code.wp _ (Code.seq (r_as 15) .ret) _ a11 w11
    refine wp_seq (as_r15 a11 w11 _ _ _ h11.none rfl fun a12 h12 => wp_ret ?_)
    exact bodyPost_ret (results_tmp rfl _ _ _) h12.defers ⟨congrArg Ending.returned (h12.look 4 rfl), bl_trans (bl_trans hbw7 hb10) hb11⟩
  have hN := fun W => arrowNone_any h k.len W qa qc ja jc
  cases hob : decide (h.obj = 0) with
  | true =>
    have ho0 : (h.obj == 0) = true := by simpa using hob
    rw [hob] at hN
    exact wp_seq (as_r8_arrow_true a6 w5 _ _ _ ((h6.none.add (h6.look 0 rfl)).add (h6.look 3 rfl)) rfl h pa pc ia k.len ic w.heap.size hA5 qa qc ja jc ho0 (fun W _ => hN W) rfl (h6.look 8 rfl) (h6.look 9 rfl) hrest)
  | false =>
    have ho0 : (h.obj == 0) = false := by simpa using hob
    rw [hob] at hN
    exact wp_seq (as_r8_arrow_false a6 w5 _ _ _ ((h6.none.add (h6.look 0 rfl)).add (h6.look 3 rfl)) rfl h pa pc ia k.len ic w.heap.size hA5 qa qc ja jc ho0 (fun W _ => hN W) rfl (h6.look 8 rfl) (h6.look 9 rfl) hrest)


theorem ans_filed (h : Hd) (k : Fo) (ho : h.ok) (hk : k.ok) (hl : k.len ≤ 1034834473170) (hr : rightB h k = true) (et : tyO h k = some 123) (hkd : h.kind = 8) (w : World) (S T : Nat → Prop) (pa : Option Addr) (pc : Nat) (ia : Option Addr) (ic : Nat) (qa : Option Addr) (qc : Nat) (ja : Option Addr) (jc : Nat)
    (hd : DatAt w S h k pa pc ia ic) (hv : DatAt w T h k qa qc ja jc) (hown : OwnAt w) :
    Calls Tryd.prog 40 #[Value.iface 123 (.agg (h.cells qa qc ja k.len jc)), .agg (h.cells pa pc ia k.len ic)] w fun e w' => e = .returned (.bool true) ∧ Below w.heap.size w w' := by
  have ht : ValTy 123 := tyO_val et
  have hkb : keyB h k = true := by unfold keyB; rw [et]; rfl
  have e0 : ordB h = false := by unfold ordB; rw [decide_eq_false_iff_not]; omega
  have e1 : sizB h = false := by unfold sizB; rw [decide_eq_false_iff_not]; omega
  have e2 : (kindB h && keyB h k) = true := by rw [hkb]; rw [Bool.and_true]; unfold kindB; rw [decide_eq_true_iff]; omega
  have e3 : poiB h = false := by unfold poiB; rw [decide_eq_false_iff_not]; omega
  refine calls_of_wp Tryd.func40 as_body ?_
  have h0 : Sl 81 { tmps := #[Value.iface 123 (.agg (h.cells qa qc ja k.len jc)), .agg (h.cells pa pc ia k.len ic)] ++ Array.replicate (Tryd.f40.ntmps - #[Value.iface 123 (.agg (h.cells qa qc ja k.len jc)), .agg (h.cells pa pc ia k.len ic)].size) undef, defers := [] } [(0, .iface 123 (.agg (h.cells qa qc ja k.len jc))), (1, .agg (h.cells pa pc ia k.len ic))] :=
    ⟨by simp [Tryd.ntmps40], rfl, fun p hp => by
      simp only [List.mem_cons, List.not_mem_nil, or_false] at hp
      rcases hp with rfl | rfl <;> simp [slot]⟩
  generalize { tmps := #[Value.iface 123 (.agg (h.cells qa qc ja k.len jc)), .agg (h.cells pa pc ia k.len ic)] ++ Array.replicate (Tryd.f40.ntmps - #[Value.iface 123 (.agg (h.cells qa qc ja k.len jc)), .agg (h.cells pa pc ia k.len ic)].size) undef, defers := [] : Act } = a0 at h0 ⊢
  unfold asBody
  refine wp_seq (as_r0 a0 w _ _ _ (h0.none.add (h0.look 0 rfl)) rfl h pa pc ia k.len ic (h0.look 1 rfl) fun a1 h1 => ?_)
  have hA : Blk (w.alloc (.cells (h.cells pa pc ia k.len ic) 28)) w.heap.size 28 (h.cells pa pc ia k.len ic) := Blk.new _ _ _
  have hb : Below w.heap.size w (w.alloc (.cells (h.cells pa pc ia k.len ic) 28)) := (Below.refl _ _).alloc (Nat.le_refl _) _
  generalize w.alloc (.cells (h.cells pa pc ia k.len ic) 28) = w1 at hA hb ⊢
  refine wp_seq (as_r1 a1 w1 _ _ _ h1 rfl h pa pc ia k.len ic w.heap.size hA false false true false (fun W hW => by have := rordered_any h k.len pa pc ia ic W; rwa [e0] at this) (fun W hW => by have := rsized_any h k.len pa pc ia ic W; rwa [e1] at this)
    (fun W hW => by have := rkeyed_any h k ho hk hr W _ pa pc ia ic (hd.below (bl_trans hb hW) (fun b _ h => h)); rwa [e2] at this) (fun W hW => by have := rpointing_any h k.len pa pc ia ic W; rwa [e3] at this) rfl fun a2 w2 g h2 hX hg hb2 => ?_)
  have hA2 := hA.below hb2 hA.lt
  have hbw2 := bl_trans hb hb2
  clear hA
  refine wp_seq (wp_seq (as_r2_filed a2 w2 _ _ _ ((h2.none.add (h2.look 0 rfl)).add (h2.look 3 rfl) |>.add (h2.look 5 rfl)) rfl h pa pc ia k.len ic w.heap.size hA2 qa qc ja jc (nameS h) g false false true false hX (fun W _ => abil_any ht _ W)
    (fun W _ => type_any h k ho W qa qc ja jc) (fun W _ => rname_any h k.len pa pc ia ic ho W) rfl rfl rfl fun a3 w3 h3 hb3 => ?_))
  refine wpc_off (h3.look 33 rfl) ?_
  have hA3 := hA2.below hb3 hA2.lt
  have hbw3 := bl_trans hbw2 hb3
  clear hA2 hX hg hbw2
  have h3 := (h3.none.add (h3.look 0 rfl)).add (h3.look 3 rfl)
  show Code.wp _ asSize _ a3 w3
  unfold asSize
  refine wp_seq (wp_seq (as_r4F a3 w3 _ _ _ h3 rfl 123 ht _ rfl rfl fun a4 h4 => ?_))
  refine wp_seq (as_r5F a4 w3 _ _ _ ((h4.none.add (h4.look 0 rfl)).add (h4.look 3 rfl)) rfl (h4.look 7 rfl) fun a5 w5 h5 hb5 => ?_)
  refine wpc_off (h5.look 46 rfl) ?_
  have hA5 := hA3.below hb5 hA3.lt
  have hbw5 := bl_trans hbw3 hb5
  clear hA3 hbw3
  have h5 := h5.tl
  show Code.wp _ asPoint _ a5 w5
  unfold asPoint
  refine wp_seq (wp_seq (as_r7F a5 w5 _ _ _ h5 rfl 123 ht _ rfl rfl fun a6 h6 => ?_))
  refine wp_seq (as_r8F a6 w5 _ _ _ ((h6.none.add (h6.look 0 rfl)).add (h6.look 3 rfl)) rfl (h6.look 9 rfl) fun a7 w7 h7 hb7 => ?_)
  refine wpc_off (h7.look 61 rfl) ?_
  have hA7 := hA5.below hb7 hA5.lt
  have hbw7 := bl_trans hbw5 hb7
  have h7 := h7.tl
  show Code.wp _ asKey _ a7 w7
  unfold asKey
  refine wp_seq (wp_seq (as_r10T a7 w7 _ _ _ h7 rfl 123 ht _ rfl rfl fun a8 h8 => ?_))
  refine wp_seq (as_r11 a8 w7 _ _ _ ((h8.none.add (h8.look 0 rfl)).add (h8.look 3 rfl) |>.add (h8.look 10 rfl)) rfl true (h8.look 11 rfl) fun a9 h9 => ?_)
  refine wp_cond_true (h9.look 67 rfl) ?_
  have hH : Calls Tryd.prog 26 #[.agg (h.cells pa pc ia k.len ic)] w7 fun e w' => e = .returned (.tuple #[.int .u64 (hashD h k), .nilIface]) ∧ Below w7.heap.size w7 w' := by
    refine (Hash_any h k ho hk hl w7 _ pa pc ia ic (hd.below hbw7 (fun b _ h => h)) (hown.below hbw7 (Nat.le_refl _))).mono ?_
    rintro e w' ⟨hbx, n, v, rfl, hv, hn⟩
    rw [if_pos (by rw [hr, hkb]; rfl)] at hn
    unfold KeyV at hv
    rw [if_pos hr, if_pos hkb] at hv
    subst hv hn
    have hhv : hashV h k = hashD h k := by unfold hashV; rw [et]
    rw [hhv]
    exact ⟨rfl, hbx⟩
  refine wp_seq (as_r12 a9 w7 _ _ _ h9.tl rfl h pa pc ia k.len ic w.heap.size hA7 (hashD h k) hH rfl fun a10 w10 h10 hb10 => ?_)
  have hv10 := hv.below (bl_trans hbw7 hb10) (fun b _ h => h)
  refine wp_seq (as_r13_filed a10 w10 _ _ _ ((h10.none.add (h10.look 0 rfl)).add (h10.look 3 rfl)) rfl h k.len qa qc ja jc (hashD h k) (filedHash_any h k ho hk hl w10 _ qa qc ja jc hv10) (h10.look 10 rfl) (h10.look 12 rfl) (h10.look 13 rfl) fun a11 w11 h11 hb11 => ?_)
  refine wpc_off (h11.look 80 rfl) ?_
  show Code.wp _ (Code.seq (r_as 15) .ret) _ a11 w11
  refine wp_seq (as_r15 a11 w11 _ _ _ h11.none rfl fun a12 h12 => wp_ret ?_)
  exact bodyPost_ret (results_tmp rfl _ _ _) h12.defers ⟨congrArg Ending.returned (h12.look 4 rfl), bl_trans (bl_trans hbw7 hb10) hb11⟩


theorem ans_record (h : Hd) (k : Fo) (ho : h.ok) (hk : k.ok) (_hl : k.len ≤ 1034834473170) (hr : rightB h k = true) (et : tyO h k = some 121) (hkd : h.kind = 8) (w : World) (S T : Nat → Prop) (pa : Option Addr) (pc : Nat) (ia : Option Addr) (ic : Nat) (qa : Option Addr) (qc : Nat) (ja : Option Addr) (jc : Nat)
    (hd : DatAt w S h k pa pc ia ic) (_hv : DatAt w T h k qa qc ja jc) (_hown : OwnAt w) :
    Calls Tryd.prog 40 #[Value.iface 121 (.agg (h.cells qa qc ja k.len jc)), .agg (h.cells pa pc ia k.len ic)] w fun e w' => e = .returned (.bool true) ∧ Below w.heap.size w w' := by
  have ht : ValTy 121 := tyO_val et
  have hkb : keyB h k = false := by unfold keyB; rw [et]; rfl
  have e0 : ordB h = false := by unfold ordB; rw [decide_eq_false_iff_not]; omega
  have e1 : sizB h = false := by unfold sizB; rw [decide_eq_false_iff_not]; omega
  have e2 : (kindB h && keyB h k) = false := by rw [hkb]; rw [Bool.and_false]
  have e3 : poiB h = false := by unfold poiB; rw [decide_eq_false_iff_not]; omega
  refine calls_of_wp Tryd.func40 as_body ?_
  have h0 : Sl 81 { tmps := #[Value.iface 121 (.agg (h.cells qa qc ja k.len jc)), .agg (h.cells pa pc ia k.len ic)] ++ Array.replicate (Tryd.f40.ntmps - #[Value.iface 121 (.agg (h.cells qa qc ja k.len jc)), .agg (h.cells pa pc ia k.len ic)].size) undef, defers := [] } [(0, .iface 121 (.agg (h.cells qa qc ja k.len jc))), (1, .agg (h.cells pa pc ia k.len ic))] :=
    ⟨by simp [Tryd.ntmps40], rfl, fun p hp => by
      simp only [List.mem_cons, List.not_mem_nil, or_false] at hp
      rcases hp with rfl | rfl <;> simp [slot]⟩
  generalize { tmps := #[Value.iface 121 (.agg (h.cells qa qc ja k.len jc)), .agg (h.cells pa pc ia k.len ic)] ++ Array.replicate (Tryd.f40.ntmps - #[Value.iface 121 (.agg (h.cells qa qc ja k.len jc)), .agg (h.cells pa pc ia k.len ic)].size) undef, defers := [] : Act } = a0 at h0 ⊢
  unfold asBody
  refine wp_seq (as_r0 a0 w _ _ _ (h0.none.add (h0.look 0 rfl)) rfl h pa pc ia k.len ic (h0.look 1 rfl) fun a1 h1 => ?_)
  have hA : Blk (w.alloc (.cells (h.cells pa pc ia k.len ic) 28)) w.heap.size 28 (h.cells pa pc ia k.len ic) := Blk.new _ _ _
  have hb : Below w.heap.size w (w.alloc (.cells (h.cells pa pc ia k.len ic) 28)) := (Below.refl _ _).alloc (Nat.le_refl _) _
  generalize w.alloc (.cells (h.cells pa pc ia k.len ic) 28) = w1 at hA hb ⊢
  refine wp_seq (as_r1 a1 w1 _ _ _ h1 rfl h pa pc ia k.len ic w.heap.size hA false false false false (fun W hW => by have := rordered_any h k.len pa pc ia ic W; rwa [e0] at this) (fun W hW => by have := rsized_any h k.len pa pc ia ic W; rwa [e1] at this)
    (fun W hW => by have := rkeyed_any h k ho hk hr W _ pa pc ia ic (hd.below (bl_trans hb hW) (fun b _ h => h)); rwa [e2] at this) (fun W hW => by have := rpointing_any h k.len pa pc ia ic W; rwa [e3] at this) rfl fun a2 w2 g h2 hX hg hb2 => ?_)
  have hA2 := hA.below hb2 hA.lt
  have hbw2 := bl_trans hb hb2
  clear hA
  refine wp_seq (wp_seq (as_r2_record a2 w2 _ _ _ ((h2.none.add (h2.look 0 rfl)).add (h2.look 3 rfl) |>.add (h2.look 5 rfl)) rfl h pa pc ia k.len ic w.heap.size hA2 qa qc ja jc (nameS h) g false false false false hX (fun W _ => abil_any ht _ W)
    (fun W _ => type_any h k ho W qa qc ja jc) (fun W _ => rname_any h k.len pa pc ia ic ho W) rfl rfl rfl fun a3 w3 h3 hb3 => ?_))
  refine wpc_off (h3.look 33 rfl) ?_
  have hA3 := hA2.below hb3 hA2.lt
  have hbw3 := bl_trans hbw2 hb3
  clear hA2 hX hg hbw2
  have h3 := (h3.none.add (h3.look 0 rfl)).add (h3.look 3 rfl)
  show Code.wp _ asSize _ a3 w3
  unfold asSize
  refine wp_seq (wp_seq (as_r4F a3 w3 _ _ _ h3 rfl 121 ht _ rfl rfl fun a4 h4 => ?_))
  refine wp_seq (as_r5F a4 w3 _ _ _ ((h4.none.add (h4.look 0 rfl)).add (h4.look 3 rfl)) rfl (h4.look 7 rfl) fun a5 w5 h5 hb5 => ?_)
  refine wpc_off (h5.look 46 rfl) ?_
  have hA5 := hA3.below hb5 hA3.lt
  have hbw5 := bl_trans hbw3 hb5
  clear hA3 hbw3
  have h5 := h5.tl
  show Code.wp _ asPoint _ a5 w5
  unfold asPoint
  refine wp_seq (wp_seq (as_r7F a5 w5 _ _ _ h5 rfl 121 ht _ rfl rfl fun a6 h6 => ?_))
  refine wp_seq (as_r8F a6 w5 _ _ _ ((h6.none.add (h6.look 0 rfl)).add (h6.look 3 rfl)) rfl (h6.look 9 rfl) fun a7 w7 h7 hb7 => ?_)
  refine wpc_off (h7.look 61 rfl) ?_
  have hA7 := hA5.below hb7 hA5.lt
  have hbw7 := bl_trans hbw5 hb7
  have h7 := h7.tl
  show Code.wp _ asKey _ a7 w7
  unfold asKey
  refine wp_seq (wp_seq (as_r10F a7 w7 _ _ _ h7 rfl 121 ht _ rfl rfl fun a8 h8 => ?_))
  refine wp_seq (as_r11 a8 w7 _ _ _ ((h8.none.add (h8.look 0 rfl)).add (h8.look 3 rfl) |>.add (h8.look 10 rfl)) rfl false (h8.look 11 rfl) fun a9 h9 => ?_)
  refine wpc_off (h9.look 67 rfl) ?_
  show Code.wp _ (Code.seq (r_as 15) .ret) _ a9 w7
  refine wp_seq (as_r15 a9 w7 _ _ _ h9.none rfl fun a12 h12 => wp_ret ?_)
  exact bodyPost_ret (results_tmp rfl _ _ _) h12.defers ⟨congrArg Ending.returned (h12.look 4 rfl), hbw7⟩

end Go.Proofs.YthdmmhiifkebeaaDoor
