/-
  The regions of the law ValueOf, one by one. The law ValueOf walked: any datum as a value: what it can be asked, and answers; memory. It returns true. Written by an AI agent.
-/
import Derived.Test.YthdmmhiifkebeaaDoorWide
import Derived.Test.YthdmmhiifkebeaaDoorLent
import Derived.Test.YthdmmhiifkebeaaDoorVal13
import Derived.Test.YthdmmhiifkebeaaDoorKept
import Derived.Test.YthdmmhiifkebeaaDoorAns
import Derived.Test.YthdmmhiifkebeaaDoorRef7
import Derived.Test.YthdmmhiifkebeaaDoorVal18
namespace Go.Proofs.YthdmmhiifkebeaaDoor
open Go.RowKit Go.Sort
set_option maxRecDepth 100000
theorem letters_vo (a : Act) (h1 : a.tmps.size = 104) (h2 : a.defers = []) : ∃ f : Nat → Value, a = ⟨(List.toArray (f 0 :: f 1 :: f 2 :: f 3 :: f 4 :: f 5 :: f 6 :: f 7 :: f 8 :: f 9 :: f 10 :: f 11 :: f 12 :: f 13 :: f 14 :: f 15 :: f 16 :: f 17 :: f 18 :: f 19 :: f 20 :: f 21 :: f 22 :: f 23 :: f 24 :: f 25 :: f 26 :: f 27 :: f 28 :: f 29 :: f 30 :: f 31 :: f 32 :: f 33 :: f 34 :: f 35 :: f 36 :: f 37 :: f 38 :: f 39 :: f 40 :: f 41 :: f 42 :: f 43 :: f 44 :: f 45 :: f 46 :: f 47 :: f 48 :: f 49 :: f 50 :: f 51 :: f 52 :: f 53 :: f 54 :: f 55 :: f 56 :: f 57 :: f 58 :: f 59 :: f 60 :: f 61 :: f 62 :: f 63 :: f 64 :: f 65 :: f 66 :: f 67 :: f 68 :: f 69 :: f 70 :: f 71 :: f 72 :: f 73 :: f 74 :: f 75 :: f 76 :: f 77 :: f 78 :: f 79 :: f 80 :: f 81 :: f 82 :: f 83 :: f 84 :: f 85 :: f 86 :: f 87 :: f 88 :: f 89 :: f 90 :: f 91 :: f 92 :: f 93 :: f 94 :: f 95 :: f 96 :: f 97 :: f 98 :: f 99 :: f 100 :: f 101 :: f 102 :: f 103 :: [])), []⟩ ∧ ∀ k, slot a k = f k :=
  ⟨slot a, (spread a 104 h1 h2).trans (by kernel_rfl), fun _ => rfl⟩
noncomputable def r_vo (n : Nat) : Code := ((Tryd.f11.body.bind (findR n)).getD .skip)
/-- What a call that hands back two values does, whatever more is known of them. -/
def PairR (PO : World → Value → Value → Prop) (w : World) (e : Ending) (w' : World) : Prop := ∃ v ev, e = .returned (.tuple #[v, ev]) ∧ PO w' v ev ∧ Below w.heap.size w w'
theorem meth_datum {t : TypeId} (ht : ValTy t) (a0 a1 a2 a3 a4 a5 a6 a7 a8 a9 a10 : Value) (w : World) : (method 326 t (.agg #[a0, a1, a2, a3, a4, a5, a6, a7, a8, a9, a10]) "Datum").run Tryd.prog w = .ok (143, .agg #[a0, a1, a2, a3, a4, a5, a6, a7, a8, a9, a10]) w := by
  rcases ht with rfl | rfl | rfl | rfl | rfl | rfl | rfl | rfl <;> exact (by kernel_rfl)
theorem nil_datum {t : TypeId} (ht : ValTy t) (a0 a1 a2 a3 a4 a5 a6 a7 a8 a9 a10 : Value) (w : World) : (nilAhead 326 t (.agg #[a0, a1, a2, a3, a4, a5, a6, a7, a8, a9, a10]) "Datum").run Tryd.prog w = .ok (some false) w := by
  rcases ht with rfl | rfl | rfl | rfl | rfl | rfl | rfl | rfl <;> exact (by kernel_rfl)
set_option maxHeartbeats 4000000 in
theorem vo_r0 (a : Act) (w : World) (N : Act → World → Prop) (Q : Exit → Act → World → Prop) (l : List (Nat × Value)) (hs : Sl 104 a l) (hl : (l.map Prod.fst).all (fun k => [].contains k) = true)
    (h : Hd) (pa : Option Addr) (pc : Nat) (ia : Option Addr) (n ic : Nat)  (h0 : slot a 0 = .agg (h.cells pa pc ia n ic))
    (hN : ∀ a', Sl 104 a' ((1, .pointer (some ⟨w.heap.size, 0, none⟩)) :: l) → N a' (w.alloc (.cells (h.cells pa pc ia n ic) 28))) : (r_vo 0).wp Tryd.prog (Exit.then N Q) a w := by
  have HN := Lib.hid hN
  have HL := Lib.hid hl
  have e0 := h0
  obtain ⟨f, ea, hf⟩ : ∃ f : Nat → Value, a = ⟨(List.toArray (f 0 :: f 1 :: f 2 :: f 3 :: f 4 :: f 5 :: f 6 :: f 7 :: f 8 :: f 9 :: f 10 :: f 11 :: f 12 :: f 13 :: f 14 :: f 15 :: f 16 :: f 17 :: f 18 :: f 19 :: f 20 :: f 21 :: f 22 :: f 23 :: f 24 :: f 25 :: f 26 :: f 27 :: f 28 :: f 29 :: f 30 :: f 31 :: f 32 :: f 33 :: f 34 :: f 35 :: f 36 :: f 37 :: f 38 :: f 39 :: f 40 :: f 41 :: f 42 :: f 43 :: f 44 :: f 45 :: f 46 :: f 47 :: f 48 :: f 49 :: f 50 :: f 51 :: f 52 :: f 53 :: f 54 :: f 55 :: f 56 :: f 57 :: f 58 :: f 59 :: f 60 :: f 61 :: f 62 :: f 63 :: f 64 :: f 65 :: f 66 :: f 67 :: f 68 :: f 69 :: f 70 :: f 71 :: f 72 :: f 73 :: f 74 :: f 75 :: f 76 :: f 77 :: f 78 :: f 79 :: f 80 :: f 81 :: f 82 :: f 83 :: f 84 :: f 85 :: f 86 :: f 87 :: f 88 :: f 89 :: f 90 :: f 91 :: f 92 :: f 93 :: f 94 :: f 95 :: f 96 :: f 97 :: f 98 :: f 99 :: f 100 :: f 101 :: f 102 :: f 103 :: [])), []⟩ ∧ ∀ k, slot a k = f k := letters_vo a hs.size hs.defers
  rw [hf] at e0
  rw [ea, e0]
  have HS := Lib.hid hs
  have HF := Lib.hid hf
  have E0 := Lib.hid e0
  clear hs ea hf hN hl h0 e0
  unfold Hd.cells
  conv => arg 2; whnf
  go_wp2_with fail
  refine HN.out _ ?_
  exact Sl.add (Sl.stay [] HS.out HF.out (by kernel_rfl) rfl trivial HL.out) (by kernel_rfl)
set_option maxHeartbeats 4000000 in
theorem vo_r1 (a : Act) (w : World) (N : Act → World → Prop) (Q : Exit → Act → World → Prop) (l : List (Nat × Value)) (hs : Sl 104 a l) (hl : (l.map Prod.fst).all (fun k => [1].contains k) = true)
    (HC : Calls Tryd.prog 15 #[] w fun e w' => e = .returned (.bool true) ∧ Below w.heap.size w w')  
    (hN : ∀ a' w', Sl 104 a' ((3, .bool true) :: l) → Below w.heap.size w w' → N a' w') : (r_vo 1).wp Tryd.prog (Exit.then N Q) a w := by
  have HN := Lib.hid hN
  have HL := Lib.hid hl
  obtain ⟨f, ea, hf⟩ : ∃ f : Nat → Value, a = ⟨(List.toArray (f 0 :: f 1 :: f 2 :: f 3 :: f 4 :: f 5 :: f 6 :: f 7 :: f 8 :: f 9 :: f 10 :: f 11 :: f 12 :: f 13 :: f 14 :: f 15 :: f 16 :: f 17 :: f 18 :: f 19 :: f 20 :: f 21 :: f 22 :: f 23 :: f 24 :: f 25 :: f 26 :: f 27 :: f 28 :: f 29 :: f 30 :: f 31 :: f 32 :: f 33 :: f 34 :: f 35 :: f 36 :: f 37 :: f 38 :: f 39 :: f 40 :: f 41 :: f 42 :: f 43 :: f 44 :: f 45 :: f 46 :: f 47 :: f 48 :: f 49 :: f 50 :: f 51 :: f 52 :: f 53 :: f 54 :: f 55 :: f 56 :: f 57 :: f 58 :: f 59 :: f 60 :: f 61 :: f 62 :: f 63 :: f 64 :: f 65 :: f 66 :: f 67 :: f 68 :: f 69 :: f 70 :: f 71 :: f 72 :: f 73 :: f 74 :: f 75 :: f 76 :: f 77 :: f 78 :: f 79 :: f 80 :: f 81 :: f 82 :: f 83 :: f 84 :: f 85 :: f 86 :: f 87 :: f 88 :: f 89 :: f 90 :: f 91 :: f 92 :: f 93 :: f 94 :: f 95 :: f 96 :: f 97 :: f 98 :: f 99 :: f 100 :: f 101 :: f 102 :: f 103 :: [])), []⟩ ∧ ∀ k, slot a k = f k := letters_vo a hs.size hs.defers
  rw [ea]
  have HS := Lib.hid hs
  have HF := Lib.hid hf
  clear hs ea hf hN hl 
  have HC := Lib.hid HC
  conv => arg 2; whnf
  go_wp2_with fail
  refine HC.out.mono ?_
  rintro e w' ⟨rfl, hb⟩
  go_wp2_with fail
  refine HN.out _ _ ?_ hb
  exact Sl.add (Sl.stay [1] HS.out HF.out (by kernel_rfl) rfl ⟨by kernel_rfl, trivial⟩ HL.out) (by kernel_rfl)
set_option maxHeartbeats 4000000 in
theorem vo_r2 (a : Act) (w : World) (N : Act → World → Prop) (Q : Exit → Act → World → Prop) (l : List (Nat × Value)) (hs : Sl 104 a l) (hl : (l.map Prod.fst).all (fun k => [1, 3].contains k) = true)
    (h : Hd) (pa : Option Addr) (pc : Nat) (ia : Option Addr) (n ic : Nat) (A : Nat) (hA : Blk w A 28 (h.cells pa pc ia n ic)) (HC : Calls Tryd.prog 28 #[.agg (h.cells pa pc ia n ic), .int .i64 5000] w (WidePost 5000 w))  (h1 : l.lookup 1 = some (.pointer (some ⟨A, 0, none⟩))) (h3 : l.lookup 3 = some (.bool true))
    (hN : ∀ a' w' b, Sl 104 a' ((23, .bool b) :: l) → (∃ x : Int, b = decide (5000 < x)) → Below w.heap.size w w' → N a' w') : (r_vo 2).wp Tryd.prog (Exit.then N Q) a w := by
  have HN := Lib.hid hN
  have HL := Lib.hid hl
  have e1 := hs.look 1 h1
  have e3 := hs.look 3 h3
  obtain ⟨f, ea, hf⟩ : ∃ f : Nat → Value, a = ⟨(List.toArray (f 0 :: f 1 :: f 2 :: f 3 :: f 4 :: f 5 :: f 6 :: f 7 :: f 8 :: f 9 :: f 10 :: f 11 :: f 12 :: f 13 :: f 14 :: f 15 :: f 16 :: f 17 :: f 18 :: f 19 :: f 20 :: f 21 :: f 22 :: f 23 :: f 24 :: f 25 :: f 26 :: f 27 :: f 28 :: f 29 :: f 30 :: f 31 :: f 32 :: f 33 :: f 34 :: f 35 :: f 36 :: f 37 :: f 38 :: f 39 :: f 40 :: f 41 :: f 42 :: f 43 :: f 44 :: f 45 :: f 46 :: f 47 :: f 48 :: f 49 :: f 50 :: f 51 :: f 52 :: f 53 :: f 54 :: f 55 :: f 56 :: f 57 :: f 58 :: f 59 :: f 60 :: f 61 :: f 62 :: f 63 :: f 64 :: f 65 :: f 66 :: f 67 :: f 68 :: f 69 :: f 70 :: f 71 :: f 72 :: f 73 :: f 74 :: f 75 :: f 76 :: f 77 :: f 78 :: f 79 :: f 80 :: f 81 :: f 82 :: f 83 :: f 84 :: f 85 :: f 86 :: f 87 :: f 88 :: f 89 :: f 90 :: f 91 :: f 92 :: f 93 :: f 94 :: f 95 :: f 96 :: f 97 :: f 98 :: f 99 :: f 100 :: f 101 :: f 102 :: f 103 :: [])), []⟩ ∧ ∀ k, slot a k = f k := letters_vo a hs.size hs.defers
  rw [hf] at e1 e3
  rw [ea, e1, e3]
  have HS := Lib.hid hs
  have HF := Lib.hid hf
  have E1 := Lib.hid e1
  have E3 := Lib.hid e3
  clear hs ea hf hN hl h1 e1 h3 e3
  obtain ⟨c0, c1, c2, c3, c4, c5, c6, c7, c8, c9, c10⟩ := (CellsAt.of_blk hA).box
  clear hA
  unfold Hd.cells at HC
  have HC := Lib.hid HC
  conv => arg 2; whnf
  go_wp2_with fail
  refine HC.out.mono ?_
  rintro e w' ⟨x, hx1, hx2, rfl, hb⟩
  go_wp2_with fail
  refine HN.out _ _ _ ?_ (⟨x, rfl⟩) hb
  exact Sl.add (Sl.stay [1, 3] HS.out HF.out (by kernel_rfl) rfl ⟨Eq.trans (by kernel_rfl) E1.out.symm, Eq.trans (by kernel_rfl) E3.out.symm, trivial⟩ HL.out) (by kernel_rfl)
set_option maxHeartbeats 4000000 in
theorem vo_r3 (a : Act) (w : World) (N : Act → World → Prop) (Q : Exit → Act → World → Prop) (l : List (Nat × Value)) (hs : Sl 104 a l) (hl : (l.map Prod.fst).all (fun k => [].contains k) = true)
     (h3 : slot a 3 = .bool true)
    (hN : ∀ a', Sl 104 a' ((2, .bool true) :: l) → N a' (w)) : (r_vo 3).wp Tryd.prog (Exit.then N Q) a w := by
  have HN := Lib.hid hN
  have HL := Lib.hid hl
  have e3 := h3
  obtain ⟨f, ea, hf⟩ : ∃ f : Nat → Value, a = ⟨(List.toArray (f 0 :: f 1 :: f 2 :: f 3 :: f 4 :: f 5 :: f 6 :: f 7 :: f 8 :: f 9 :: f 10 :: f 11 :: f 12 :: f 13 :: f 14 :: f 15 :: f 16 :: f 17 :: f 18 :: f 19 :: f 20 :: f 21 :: f 22 :: f 23 :: f 24 :: f 25 :: f 26 :: f 27 :: f 28 :: f 29 :: f 30 :: f 31 :: f 32 :: f 33 :: f 34 :: f 35 :: f 36 :: f 37 :: f 38 :: f 39 :: f 40 :: f 41 :: f 42 :: f 43 :: f 44 :: f 45 :: f 46 :: f 47 :: f 48 :: f 49 :: f 50 :: f 51 :: f 52 :: f 53 :: f 54 :: f 55 :: f 56 :: f 57 :: f 58 :: f 59 :: f 60 :: f 61 :: f 62 :: f 63 :: f 64 :: f 65 :: f 66 :: f 67 :: f 68 :: f 69 :: f 70 :: f 71 :: f 72 :: f 73 :: f 74 :: f 75 :: f 76 :: f 77 :: f 78 :: f 79 :: f 80 :: f 81 :: f 82 :: f 83 :: f 84 :: f 85 :: f 86 :: f 87 :: f 88 :: f 89 :: f 90 :: f 91 :: f 92 :: f 93 :: f 94 :: f 95 :: f 96 :: f 97 :: f 98 :: f 99 :: f 100 :: f 101 :: f 102 :: f 103 :: [])), []⟩ ∧ ∀ k, slot a k = f k := letters_vo a hs.size hs.defers
  rw [hf] at e3
  rw [ea, e3]
  have HS := Lib.hid hs
  have HF := Lib.hid hf
  have E3 := Lib.hid e3
  clear hs ea hf hN hl h3 e3
  conv => arg 2; whnf
  go_wp2_with fail
  refine HN.out _ ?_
  exact Sl.add (Sl.stay [] HS.out HF.out (by kernel_rfl) rfl trivial HL.out) (by kernel_rfl)
set_option maxHeartbeats 4000000 in
theorem vo_r4 (a : Act) (w : World) (N : Act → World → Prop) (Q : Exit → Act → World → Prop) (l : List (Nat × Value)) (hs : Sl 104 a l) (hl : (l.map Prod.fst).all (fun k => [1].contains k) = true)
    (h : Hd) (pa : Option Addr) (pc : Nat) (ia : Option Addr) (n ic : Nat) (A : Nat) (hA : Blk w A 28 (h.cells pa pc ia n ic)) (b : Bool) (HC : Calls Tryd.prog 17 #[.agg (h.cells pa pc ia n ic)] w fun e w' => e = .returned (.bool b) ∧ Below w.heap.size w w')  (h1 : l.lookup 1 = some (.pointer (some ⟨A, 0, none⟩)))
    (hN : ∀ a' w', Sl 104 a' ((4, .bool b) :: l) → Below w.heap.size w w' → N a' w') : (r_vo 4).wp Tryd.prog (Exit.then N Q) a w := by
  have HN := Lib.hid hN
  have HL := Lib.hid hl
  have e1 := hs.look 1 h1
  obtain ⟨f, ea, hf⟩ : ∃ f : Nat → Value, a = ⟨(List.toArray (f 0 :: f 1 :: f 2 :: f 3 :: f 4 :: f 5 :: f 6 :: f 7 :: f 8 :: f 9 :: f 10 :: f 11 :: f 12 :: f 13 :: f 14 :: f 15 :: f 16 :: f 17 :: f 18 :: f 19 :: f 20 :: f 21 :: f 22 :: f 23 :: f 24 :: f 25 :: f 26 :: f 27 :: f 28 :: f 29 :: f 30 :: f 31 :: f 32 :: f 33 :: f 34 :: f 35 :: f 36 :: f 37 :: f 38 :: f 39 :: f 40 :: f 41 :: f 42 :: f 43 :: f 44 :: f 45 :: f 46 :: f 47 :: f 48 :: f 49 :: f 50 :: f 51 :: f 52 :: f 53 :: f 54 :: f 55 :: f 56 :: f 57 :: f 58 :: f 59 :: f 60 :: f 61 :: f 62 :: f 63 :: f 64 :: f 65 :: f 66 :: f 67 :: f 68 :: f 69 :: f 70 :: f 71 :: f 72 :: f 73 :: f 74 :: f 75 :: f 76 :: f 77 :: f 78 :: f 79 :: f 80 :: f 81 :: f 82 :: f 83 :: f 84 :: f 85 :: f 86 :: f 87 :: f 88 :: f 89 :: f 90 :: f 91 :: f 92 :: f 93 :: f 94 :: f 95 :: f 96 :: f 97 :: f 98 :: f 99 :: f 100 :: f 101 :: f 102 :: f 103 :: [])), []⟩ ∧ ∀ k, slot a k = f k := letters_vo a hs.size hs.defers
  rw [hf] at e1
  rw [ea, e1]
  have HS := Lib.hid hs
  have HF := Lib.hid hf
  have E1 := Lib.hid e1
  clear hs ea hf hN hl h1 e1
  obtain ⟨c0, c1, c2, c3, c4, c5, c6, c7, c8, c9, c10⟩ := (CellsAt.of_blk hA).box
  clear hA
  unfold Hd.cells at HC
  have HC := Lib.hid HC
  conv => arg 2; whnf
  go_wp2_with fail
  refine HC.out.mono ?_
  rintro e w' ⟨rfl, hb⟩
  go_wp2_with fail
  refine HN.out _ _ ?_ hb
  exact Sl.add (Sl.stay [1] HS.out HF.out (by kernel_rfl) rfl ⟨Eq.trans (by kernel_rfl) E1.out.symm, trivial⟩ HL.out) (by kernel_rfl)
set_option maxHeartbeats 4000000 in
theorem vo_r5 (a : Act) (w : World) (N : Act → World → Prop) (Q : Exit → Act → World → Prop) (l : List (Nat × Value)) (hs : Sl 104 a l) (hl : (l.map Prod.fst).all (fun k => [1, 4].contains k) = true)
    (h : Hd) (pa : Option Addr) (pc : Nat) (ia : Option Addr) (n ic : Nat) (A : Nat) (hA : Blk w A 28 (h.cells pa pc ia n ic)) (PO : World → Option Addr → Nat → Option Addr → Nat → Prop) (HC : Calls Tryd.prog 37 #[.agg (h.cells pa pc ia n ic)] w (LentR PO h n w))  (h1 : l.lookup 1 = some (.pointer (some ⟨A, 0, none⟩)))
    (hN : ∀ a' w' qa' qc' ja' jc', Sl 104 a' ((5, .pointer (some ⟨w'.heap.size, 0, none⟩)) :: l) → PO w' qa' qc' ja' jc' → Below w.heap.size w w' → N a' (w'.alloc (.cells (h.cells qa' qc' ja' n jc') 28))) : (r_vo 5).wp Tryd.prog (Exit.then N Q) a w := by
  have HN := Lib.hid hN
  have HL := Lib.hid hl
  have e1 := hs.look 1 h1
  obtain ⟨f, ea, hf⟩ : ∃ f : Nat → Value, a = ⟨(List.toArray (f 0 :: f 1 :: f 2 :: f 3 :: f 4 :: f 5 :: f 6 :: f 7 :: f 8 :: f 9 :: f 10 :: f 11 :: f 12 :: f 13 :: f 14 :: f 15 :: f 16 :: f 17 :: f 18 :: f 19 :: f 20 :: f 21 :: f 22 :: f 23 :: f 24 :: f 25 :: f 26 :: f 27 :: f 28 :: f 29 :: f 30 :: f 31 :: f 32 :: f 33 :: f 34 :: f 35 :: f 36 :: f 37 :: f 38 :: f 39 :: f 40 :: f 41 :: f 42 :: f 43 :: f 44 :: f 45 :: f 46 :: f 47 :: f 48 :: f 49 :: f 50 :: f 51 :: f 52 :: f 53 :: f 54 :: f 55 :: f 56 :: f 57 :: f 58 :: f 59 :: f 60 :: f 61 :: f 62 :: f 63 :: f 64 :: f 65 :: f 66 :: f 67 :: f 68 :: f 69 :: f 70 :: f 71 :: f 72 :: f 73 :: f 74 :: f 75 :: f 76 :: f 77 :: f 78 :: f 79 :: f 80 :: f 81 :: f 82 :: f 83 :: f 84 :: f 85 :: f 86 :: f 87 :: f 88 :: f 89 :: f 90 :: f 91 :: f 92 :: f 93 :: f 94 :: f 95 :: f 96 :: f 97 :: f 98 :: f 99 :: f 100 :: f 101 :: f 102 :: f 103 :: [])), []⟩ ∧ ∀ k, slot a k = f k := letters_vo a hs.size hs.defers
  rw [hf] at e1
  rw [ea, e1]
  have HS := Lib.hid hs
  have HF := Lib.hid hf
  have E1 := Lib.hid e1
  clear hs ea hf hN hl h1 e1
  obtain ⟨c0, c1, c2, c3, c4, c5, c6, c7, c8, c9, c10⟩ := (CellsAt.of_blk hA).box
  clear hA
  unfold Hd.cells at HC
  have HC := Lib.hid HC
  conv => arg 2; whnf
  go_wp2_with fail
  refine HC.out.mono ?_
  rintro e w6 ⟨qa', qc', ja', jc', rfl, hpo, hb6⟩
  unfold Hd.cells
  go_wp2_with fail
  refine HN.out _ _ _ _ _ _ ?_ hpo hb6
  exact Sl.add (Sl.stay [1, 4] HS.out HF.out (by kernel_rfl) rfl ⟨Eq.trans (by kernel_rfl) E1.out.symm, by kernel_rfl, trivial⟩ HL.out) (by kernel_rfl)
set_option maxHeartbeats 4000000 in
theorem vo_r6 (a : Act) (w : World) (N : Act → World → Prop) (Q : Exit → Act → World → Prop) (l : List (Nat × Value)) (hs : Sl 104 a l) (hl : (l.map Prod.fst).all (fun k => [1, 4, 5].contains k) = true)
    (h : Hd) (pa : Option Addr) (pc : Nat) (ia : Option Addr) (n ic : Nat) (A : Nat) (hA : Blk w A 28 (h.cells pa pc ia n ic)) (PO : World → Value → Value → Prop) (HC : Calls Tryd.prog 18 #[.agg (h.cells pa pc ia n ic)] w (PairR PO w))  (h5 : l.lookup 5 = some (.pointer (some ⟨A, 0, none⟩)))
    (hN : ∀ a' w' v ev, Sl 104 a' ((7, ev) :: ((6, v) :: l)) → PO w' v ev → Below w.heap.size w w' → N a' w') : (r_vo 6).wp Tryd.prog (Exit.then N Q) a w := by
  have HN := Lib.hid hN
  have HL := Lib.hid hl
  have e5 := hs.look 5 h5
  obtain ⟨f, ea, hf⟩ : ∃ f : Nat → Value, a = ⟨(List.toArray (f 0 :: f 1 :: f 2 :: f 3 :: f 4 :: f 5 :: f 6 :: f 7 :: f 8 :: f 9 :: f 10 :: f 11 :: f 12 :: f 13 :: f 14 :: f 15 :: f 16 :: f 17 :: f 18 :: f 19 :: f 20 :: f 21 :: f 22 :: f 23 :: f 24 :: f 25 :: f 26 :: f 27 :: f 28 :: f 29 :: f 30 :: f 31 :: f 32 :: f 33 :: f 34 :: f 35 :: f 36 :: f 37 :: f 38 :: f 39 :: f 40 :: f 41 :: f 42 :: f 43 :: f 44 :: f 45 :: f 46 :: f 47 :: f 48 :: f 49 :: f 50 :: f 51 :: f 52 :: f 53 :: f 54 :: f 55 :: f 56 :: f 57 :: f 58 :: f 59 :: f 60 :: f 61 :: f 62 :: f 63 :: f 64 :: f 65 :: f 66 :: f 67 :: f 68 :: f 69 :: f 70 :: f 71 :: f 72 :: f 73 :: f 74 :: f 75 :: f 76 :: f 77 :: f 78 :: f 79 :: f 80 :: f 81 :: f 82 :: f 83 :: f 84 :: f 85 :: f 86 :: f 87 :: f 88 :: f 89 :: f 90 :: f 91 :: f 92 :: f 93 :: f 94 :: f 95 :: f 96 :: f 97 :: f 98 :: f 99 :: f 100 :: f 101 :: f 102 :: f 103 :: [])), []⟩ ∧ ∀ k, slot a k = f k := letters_vo a hs.size hs.defers
  rw [hf] at e5
  rw [ea, e5]
  have HS := Lib.hid hs
  have HF := Lib.hid hf
  have E5 := Lib.hid e5
  clear hs ea hf hN hl h5 e5
  obtain ⟨c0, c1, c2, c3, c4, c5, c6, c7, c8, c9, c10⟩ := (CellsAt.of_blk hA).box
  clear hA
  unfold Hd.cells at HC
  have HC := Lib.hid HC
  conv => arg 2; whnf
  go_wp2_with fail
  refine HC.out.mono ?_
  rintro e w' ⟨v, ev, rfl, hpo, hb⟩
  go_wp2_with fail
  refine HN.out _ _ _ _ ?_ hpo hb
  exact Sl.add (Sl.add (Sl.stay [1, 4, 5] HS.out HF.out (by kernel_rfl) rfl ⟨by kernel_rfl, by kernel_rfl, Eq.trans (by kernel_rfl) E5.out.symm, trivial⟩ HL.out) (by kernel_rfl)) (by kernel_rfl)
set_option maxHeartbeats 4000000 in
theorem vo_r7 (a : Act) (w : World) (N : Act → World → Prop) (Q : Exit → Act → World → Prop) (l : List (Nat × Value)) (hs : Sl 104 a l) (hl : (l.map Prod.fst).all (fun k => [1, 4, 5, 6, 7].contains k) = true)
    (h : Hd) (pa : Option Addr) (pc : Nat) (ia : Option Addr) (n ic : Nat) (A : Nat) (hA : Blk w A 28 (h.cells pa pc ia n ic)) (pa' : Option Addr) (pc' : Nat) (ia' : Option Addr) (ic' : Nat) (B : Nat) (hB : Blk w B 28 (h.cells pa' pc' ia' n ic')) (HC : Calls Tryd.prog 38 #[.agg (h.cells pa pc ia n ic), .agg (h.cells pa' pc' ia' n ic')] w fun e w' => e = .returned (.bool true) ∧ Below w.heap.size w w')  (h5 : l.lookup 5 = some (.pointer (some ⟨A, 0, none⟩))) (h1 : l.lookup 1 = some (.pointer (some ⟨B, 0, none⟩)))
    (hN : ∀ a' w', Sl 104 a' ((8, .bool true) :: l) → Below w.heap.size w w' → N a' w') : (r_vo 7).wp Tryd.prog (Exit.then N Q) a w := by
  have HN := Lib.hid hN
  have HL := Lib.hid hl
  have e5 := hs.look 5 h5
  have e1 := hs.look 1 h1
  obtain ⟨f, ea, hf⟩ : ∃ f : Nat → Value, a = ⟨(List.toArray (f 0 :: f 1 :: f 2 :: f 3 :: f 4 :: f 5 :: f 6 :: f 7 :: f 8 :: f 9 :: f 10 :: f 11 :: f 12 :: f 13 :: f 14 :: f 15 :: f 16 :: f 17 :: f 18 :: f 19 :: f 20 :: f 21 :: f 22 :: f 23 :: f 24 :: f 25 :: f 26 :: f 27 :: f 28 :: f 29 :: f 30 :: f 31 :: f 32 :: f 33 :: f 34 :: f 35 :: f 36 :: f 37 :: f 38 :: f 39 :: f 40 :: f 41 :: f 42 :: f 43 :: f 44 :: f 45 :: f 46 :: f 47 :: f 48 :: f 49 :: f 50 :: f 51 :: f 52 :: f 53 :: f 54 :: f 55 :: f 56 :: f 57 :: f 58 :: f 59 :: f 60 :: f 61 :: f 62 :: f 63 :: f 64 :: f 65 :: f 66 :: f 67 :: f 68 :: f 69 :: f 70 :: f 71 :: f 72 :: f 73 :: f 74 :: f 75 :: f 76 :: f 77 :: f 78 :: f 79 :: f 80 :: f 81 :: f 82 :: f 83 :: f 84 :: f 85 :: f 86 :: f 87 :: f 88 :: f 89 :: f 90 :: f 91 :: f 92 :: f 93 :: f 94 :: f 95 :: f 96 :: f 97 :: f 98 :: f 99 :: f 100 :: f 101 :: f 102 :: f 103 :: [])), []⟩ ∧ ∀ k, slot a k = f k := letters_vo a hs.size hs.defers
  rw [hf] at e5 e1
  rw [ea, e5, e1]
  have HS := Lib.hid hs
  have HF := Lib.hid hf
  have E5 := Lib.hid e5
  have E1 := Lib.hid e1
  clear hs ea hf hN hl h5 e5 h1 e1
  obtain ⟨c0, c1, c2, c3, c4, c5, c6, c7, c8, c9, c10⟩ := (CellsAt.of_blk hA).box
  clear hA
  obtain ⟨d0, d1, d2, d3, d4, d5, d6, d7, d8, d9, d10⟩ := (CellsAt.of_blk hB).box
  clear hB
  unfold Hd.cells at HC
  have HC := Lib.hid HC
  conv => arg 2; whnf
  go_wp2_with fail
  refine HC.out.mono ?_
  rintro e w' ⟨rfl, hb⟩
  go_wp2_with fail
  refine HN.out _ _ ?_ hb
  exact Sl.add (Sl.stay [1, 4, 5, 6, 7] HS.out HF.out (by kernel_rfl) rfl ⟨Eq.trans (by kernel_rfl) E1.out.symm, by kernel_rfl, Eq.trans (by kernel_rfl) E5.out.symm, by kernel_rfl, by kernel_rfl, trivial⟩ HL.out) (by kernel_rfl)
set_option maxHeartbeats 4000000 in
theorem vo_r8 (a : Act) (w : World) (N : Act → World → Prop) (Q : Exit → Act → World → Prop) (l : List (Nat × Value)) (hs : Sl 104 a l) (hl : (l.map Prod.fst).all (fun k => [1, 4, 5, 6, 7, 8].contains k) = true)
    (b : Bool)  (h4 : l.lookup 4 = some (.bool b))
    (hN : ∀ a', Sl 104 a' ((38, .bool (!b)) :: l) → N a' (w)) : (r_vo 8).wp Tryd.prog (Exit.then N Q) a w := by
  have HN := Lib.hid hN
  have HL := Lib.hid hl
  have e4 := hs.look 4 h4
  obtain ⟨f, ea, hf⟩ : ∃ f : Nat → Value, a = ⟨(List.toArray (f 0 :: f 1 :: f 2 :: f 3 :: f 4 :: f 5 :: f 6 :: f 7 :: f 8 :: f 9 :: f 10 :: f 11 :: f 12 :: f 13 :: f 14 :: f 15 :: f 16 :: f 17 :: f 18 :: f 19 :: f 20 :: f 21 :: f 22 :: f 23 :: f 24 :: f 25 :: f 26 :: f 27 :: f 28 :: f 29 :: f 30 :: f 31 :: f 32 :: f 33 :: f 34 :: f 35 :: f 36 :: f 37 :: f 38 :: f 39 :: f 40 :: f 41 :: f 42 :: f 43 :: f 44 :: f 45 :: f 46 :: f 47 :: f 48 :: f 49 :: f 50 :: f 51 :: f 52 :: f 53 :: f 54 :: f 55 :: f 56 :: f 57 :: f 58 :: f 59 :: f 60 :: f 61 :: f 62 :: f 63 :: f 64 :: f 65 :: f 66 :: f 67 :: f 68 :: f 69 :: f 70 :: f 71 :: f 72 :: f 73 :: f 74 :: f 75 :: f 76 :: f 77 :: f 78 :: f 79 :: f 80 :: f 81 :: f 82 :: f 83 :: f 84 :: f 85 :: f 86 :: f 87 :: f 88 :: f 89 :: f 90 :: f 91 :: f 92 :: f 93 :: f 94 :: f 95 :: f 96 :: f 97 :: f 98 :: f 99 :: f 100 :: f 101 :: f 102 :: f 103 :: [])), []⟩ ∧ ∀ k, slot a k = f k := letters_vo a hs.size hs.defers
  rw [hf] at e4
  rw [ea, e4]
  have HS := Lib.hid hs
  have HF := Lib.hid hf
  have E4 := Lib.hid e4
  clear hs ea hf hN hl h4 e4
  conv => arg 2; whnf
  go_wp2_with fail
  refine HN.out _ ?_
  exact Sl.add (Sl.stay [1, 4, 5, 6, 7, 8] HS.out HF.out (by kernel_rfl) rfl ⟨by kernel_rfl, Eq.trans (by kernel_rfl) E4.out.symm, by kernel_rfl, by kernel_rfl, by kernel_rfl, by kernel_rfl, trivial⟩ HL.out) (by kernel_rfl)
set_option maxHeartbeats 4000000 in
theorem vo_r9 (a : Act) (w : World) (N : Act → World → Prop) (Q : Exit → Act → World → Prop) (l : List (Nat × Value)) (hs : Sl 104 a l) (hl : (l.map Prod.fst).all (fun k => [6, 7, 8].contains k) = true)
    (v : Value) (HC : Calls Tryd.prog 22 #[v] w fun e w' => e = .returned (.bool true) ∧ Below w.heap.size w w')  (h7 : l.lookup 7 = some (v))
    (hN : ∀ a' w', Sl 104 a' ((9, .bool true) :: l) → Below w.heap.size w w' → N a' w') : (r_vo 9).wp Tryd.prog (Exit.then N Q) a w := by
  have HN := Lib.hid hN
  have HL := Lib.hid hl
  have e7 := hs.look 7 h7
  obtain ⟨f, ea, hf⟩ : ∃ f : Nat → Value, a = ⟨(List.toArray (f 0 :: f 1 :: f 2 :: f 3 :: f 4 :: f 5 :: f 6 :: f 7 :: f 8 :: f 9 :: f 10 :: f 11 :: f 12 :: f 13 :: f 14 :: f 15 :: f 16 :: f 17 :: f 18 :: f 19 :: f 20 :: f 21 :: f 22 :: f 23 :: f 24 :: f 25 :: f 26 :: f 27 :: f 28 :: f 29 :: f 30 :: f 31 :: f 32 :: f 33 :: f 34 :: f 35 :: f 36 :: f 37 :: f 38 :: f 39 :: f 40 :: f 41 :: f 42 :: f 43 :: f 44 :: f 45 :: f 46 :: f 47 :: f 48 :: f 49 :: f 50 :: f 51 :: f 52 :: f 53 :: f 54 :: f 55 :: f 56 :: f 57 :: f 58 :: f 59 :: f 60 :: f 61 :: f 62 :: f 63 :: f 64 :: f 65 :: f 66 :: f 67 :: f 68 :: f 69 :: f 70 :: f 71 :: f 72 :: f 73 :: f 74 :: f 75 :: f 76 :: f 77 :: f 78 :: f 79 :: f 80 :: f 81 :: f 82 :: f 83 :: f 84 :: f 85 :: f 86 :: f 87 :: f 88 :: f 89 :: f 90 :: f 91 :: f 92 :: f 93 :: f 94 :: f 95 :: f 96 :: f 97 :: f 98 :: f 99 :: f 100 :: f 101 :: f 102 :: f 103 :: [])), []⟩ ∧ ∀ k, slot a k = f k := letters_vo a hs.size hs.defers
  rw [hf] at e7
  rw [ea, e7]
  have HS := Lib.hid hs
  have HF := Lib.hid hf
  have E7 := Lib.hid e7
  clear hs ea hf hN hl h7 e7
  have HC := Lib.hid HC
  conv => arg 2; whnf
  go_wp2_with fail
  refine HC.out.mono ?_
  rintro e w' ⟨rfl, hb⟩
  go_wp2_with fail
  refine HN.out _ _ ?_ hb
  exact Sl.add (Sl.stay [6, 7, 8] HS.out HF.out (by kernel_rfl) rfl ⟨by kernel_rfl, Eq.trans (by kernel_rfl) E7.out.symm, by kernel_rfl, trivial⟩ HL.out) (by kernel_rfl)
set_option maxHeartbeats 4000000 in
theorem vo_r10 (a : Act) (w : World) (N : Act → World → Prop) (Q : Exit → Act → World → Prop) (l : List (Nat × Value)) (hs : Sl 104 a l) (hl : (l.map Prod.fst).all (fun k => [].contains k) = true)
     (h8 : slot a 8 = .bool true) (h6 : slot a 6 = .nilIface) (h9 : slot a 9 = .bool true)
    (hN : ∀ a', Sl 104 a' ((2, .bool true) :: l) → N a' (w)) : (r_vo 10).wp Tryd.prog (Exit.then N Q) a w := by
  have HN := Lib.hid hN
  have HL := Lib.hid hl
  have e8 := h8
  have e6 := h6
  have e9 := h9
  obtain ⟨f, ea, hf⟩ : ∃ f : Nat → Value, a = ⟨(List.toArray (f 0 :: f 1 :: f 2 :: f 3 :: f 4 :: f 5 :: f 6 :: f 7 :: f 8 :: f 9 :: f 10 :: f 11 :: f 12 :: f 13 :: f 14 :: f 15 :: f 16 :: f 17 :: f 18 :: f 19 :: f 20 :: f 21 :: f 22 :: f 23 :: f 24 :: f 25 :: f 26 :: f 27 :: f 28 :: f 29 :: f 30 :: f 31 :: f 32 :: f 33 :: f 34 :: f 35 :: f 36 :: f 37 :: f 38 :: f 39 :: f 40 :: f 41 :: f 42 :: f 43 :: f 44 :: f 45 :: f 46 :: f 47 :: f 48 :: f 49 :: f 50 :: f 51 :: f 52 :: f 53 :: f 54 :: f 55 :: f 56 :: f 57 :: f 58 :: f 59 :: f 60 :: f 61 :: f 62 :: f 63 :: f 64 :: f 65 :: f 66 :: f 67 :: f 68 :: f 69 :: f 70 :: f 71 :: f 72 :: f 73 :: f 74 :: f 75 :: f 76 :: f 77 :: f 78 :: f 79 :: f 80 :: f 81 :: f 82 :: f 83 :: f 84 :: f 85 :: f 86 :: f 87 :: f 88 :: f 89 :: f 90 :: f 91 :: f 92 :: f 93 :: f 94 :: f 95 :: f 96 :: f 97 :: f 98 :: f 99 :: f 100 :: f 101 :: f 102 :: f 103 :: [])), []⟩ ∧ ∀ k, slot a k = f k := letters_vo a hs.size hs.defers
  rw [hf] at e8 e6 e9
  rw [ea, e8, e6, e9]
  have HS := Lib.hid hs
  have HF := Lib.hid hf
  have E8 := Lib.hid e8
  have E6 := Lib.hid e6
  have E9 := Lib.hid e9
  clear hs ea hf hN hl h8 e8 h6 e6 h9 e9
  conv => arg 2; whnf
  go_wp2_with fail
  refine HN.out _ ?_
  exact Sl.add (Sl.stay [] HS.out HF.out (by kernel_rfl) rfl trivial HL.out) (by kernel_rfl)
set_option maxHeartbeats 4000000 in
theorem vo_r11 (a : Act) (w : World) (N : Act → World → Prop) (Q : Exit → Act → World → Prop) (l : List (Nat × Value)) (hs : Sl 104 a l) (hl : (l.map Prod.fst).all (fun k => [1, 4, 5, 6, 7, 8].contains k) = true)
    (h : Hd) (pa : Option Addr) (pc : Nat) (ia : Option Addr) (n ic : Nat) (A : Nat) (hA : Blk w A 28 (h.cells pa pc ia n ic)) (b : Bool) (hk : (h.kind == 0) = b)  (h1 : l.lookup 1 = some (.pointer (some ⟨A, 0, none⟩)))
    (hN : ∀ a', Sl 104 a' ((51, .bool b) :: l) → N a' (w)) : (r_vo 11).wp Tryd.prog (Exit.then N Q) a w := by
  have HN := Lib.hid hN
  have HL := Lib.hid hl
  have e1 := hs.look 1 h1
  obtain ⟨f, ea, hf⟩ : ∃ f : Nat → Value, a = ⟨(List.toArray (f 0 :: f 1 :: f 2 :: f 3 :: f 4 :: f 5 :: f 6 :: f 7 :: f 8 :: f 9 :: f 10 :: f 11 :: f 12 :: f 13 :: f 14 :: f 15 :: f 16 :: f 17 :: f 18 :: f 19 :: f 20 :: f 21 :: f 22 :: f 23 :: f 24 :: f 25 :: f 26 :: f 27 :: f 28 :: f 29 :: f 30 :: f 31 :: f 32 :: f 33 :: f 34 :: f 35 :: f 36 :: f 37 :: f 38 :: f 39 :: f 40 :: f 41 :: f 42 :: f 43 :: f 44 :: f 45 :: f 46 :: f 47 :: f 48 :: f 49 :: f 50 :: f 51 :: f 52 :: f 53 :: f 54 :: f 55 :: f 56 :: f 57 :: f 58 :: f 59 :: f 60 :: f 61 :: f 62 :: f 63 :: f 64 :: f 65 :: f 66 :: f 67 :: f 68 :: f 69 :: f 70 :: f 71 :: f 72 :: f 73 :: f 74 :: f 75 :: f 76 :: f 77 :: f 78 :: f 79 :: f 80 :: f 81 :: f 82 :: f 83 :: f 84 :: f 85 :: f 86 :: f 87 :: f 88 :: f 89 :: f 90 :: f 91 :: f 92 :: f 93 :: f 94 :: f 95 :: f 96 :: f 97 :: f 98 :: f 99 :: f 100 :: f 101 :: f 102 :: f 103 :: [])), []⟩ ∧ ∀ k, slot a k = f k := letters_vo a hs.size hs.defers
  rw [hf] at e1
  rw [ea, e1]
  have HS := Lib.hid hs
  have HF := Lib.hid hf
  have E1 := Lib.hid e1
  clear hs ea hf hN hl h1 e1
  obtain ⟨c0, c1, c2, c3, c4, c5, c6, c7, c8, c9, c10⟩ := (CellsAt.of_blk hA).box
  clear hA
  conv => arg 2; whnf
  subst hk
  go_wp2_with fail
  refine HN.out _ ?_
  exact Sl.add (Sl.stay [1, 4, 5, 6, 7, 8] HS.out HF.out (by kernel_rfl) rfl ⟨Eq.trans (by kernel_rfl) E1.out.symm, by kernel_rfl, by kernel_rfl, by kernel_rfl, by kernel_rfl, by kernel_rfl, trivial⟩ HL.out) (by kernel_rfl)
set_option maxHeartbeats 4000000 in
theorem vo_r12 (a : Act) (w : World) (N : Act → World → Prop) (Q : Exit → Act → World → Prop) (l : List (Nat × Value)) (hs : Sl 104 a l) (hl : (l.map Prod.fst).all (fun k => [].contains k) = true)
     (h8 : slot a 8 = .bool true) (h6 : slot a 6 = .nilIface) (h7 : slot a 7 = .nilIface)
    (hN : ∀ a', Sl 104 a' ((2, .bool true) :: l) → N a' (w)) : (r_vo 12).wp Tryd.prog (Exit.then N Q) a w := by
  have HN := Lib.hid hN
  have HL := Lib.hid hl
  have e8 := h8
  have e6 := h6
  have e7 := h7
  obtain ⟨f, ea, hf⟩ : ∃ f : Nat → Value, a = ⟨(List.toArray (f 0 :: f 1 :: f 2 :: f 3 :: f 4 :: f 5 :: f 6 :: f 7 :: f 8 :: f 9 :: f 10 :: f 11 :: f 12 :: f 13 :: f 14 :: f 15 :: f 16 :: f 17 :: f 18 :: f 19 :: f 20 :: f 21 :: f 22 :: f 23 :: f 24 :: f 25 :: f 26 :: f 27 :: f 28 :: f 29 :: f 30 :: f 31 :: f 32 :: f 33 :: f 34 :: f 35 :: f 36 :: f 37 :: f 38 :: f 39 :: f 40 :: f 41 :: f 42 :: f 43 :: f 44 :: f 45 :: f 46 :: f 47 :: f 48 :: f 49 :: f 50 :: f 51 :: f 52 :: f 53 :: f 54 :: f 55 :: f 56 :: f 57 :: f 58 :: f 59 :: f 60 :: f 61 :: f 62 :: f 63 :: f 64 :: f 65 :: f 66 :: f 67 :: f 68 :: f 69 :: f 70 :: f 71 :: f 72 :: f 73 :: f 74 :: f 75 :: f 76 :: f 77 :: f 78 :: f 79 :: f 80 :: f 81 :: f 82 :: f 83 :: f 84 :: f 85 :: f 86 :: f 87 :: f 88 :: f 89 :: f 90 :: f 91 :: f 92 :: f 93 :: f 94 :: f 95 :: f 96 :: f 97 :: f 98 :: f 99 :: f 100 :: f 101 :: f 102 :: f 103 :: [])), []⟩ ∧ ∀ k, slot a k = f k := letters_vo a hs.size hs.defers
  rw [hf] at e8 e6 e7
  rw [ea, e8, e6, e7]
  have HS := Lib.hid hs
  have HF := Lib.hid hf
  have E8 := Lib.hid e8
  have E6 := Lib.hid e6
  have E7 := Lib.hid e7
  clear hs ea hf hN hl h8 e8 h6 e6 h7 e7
  conv => arg 2; whnf
  go_wp2_with fail
  refine HN.out _ ?_
  exact Sl.add (Sl.stay [] HS.out HF.out (by kernel_rfl) rfl trivial HL.out) (by kernel_rfl)
set_option maxHeartbeats 4000000 in
theorem vo_r13 (a : Act) (w : World) (N : Act → World → Prop) (Q : Exit → Act → World → Prop) (l : List (Nat × Value)) (hs : Sl 104 a l) (hl : (l.map Prod.fst).all (fun k => [1, 5, 6].contains k) = true)
    (t : TypeId) (v : Value)  (h6 : l.lookup 6 = some (.iface t v)) (h7 : slot a 7 = .nilIface) (h8 : slot a 8 = .bool true)
    (hN : ∀ a', Sl 104 a' ((70, .bool false) :: l) → N a' (w)) : (r_vo 13).wp Tryd.prog (Exit.then N Q) a w := by
  have HN := Lib.hid hN
  have HL := Lib.hid hl
  have e6 := hs.look 6 h6
  have e7 := h7
  have e8 := h8
  obtain ⟨f, ea, hf⟩ : ∃ f : Nat → Value, a = ⟨(List.toArray (f 0 :: f 1 :: f 2 :: f 3 :: f 4 :: f 5 :: f 6 :: f 7 :: f 8 :: f 9 :: f 10 :: f 11 :: f 12 :: f 13 :: f 14 :: f 15 :: f 16 :: f 17 :: f 18 :: f 19 :: f 20 :: f 21 :: f 22 :: f 23 :: f 24 :: f 25 :: f 26 :: f 27 :: f 28 :: f 29 :: f 30 :: f 31 :: f 32 :: f 33 :: f 34 :: f 35 :: f 36 :: f 37 :: f 38 :: f 39 :: f 40 :: f 41 :: f 42 :: f 43 :: f 44 :: f 45 :: f 46 :: f 47 :: f 48 :: f 49 :: f 50 :: f 51 :: f 52 :: f 53 :: f 54 :: f 55 :: f 56 :: f 57 :: f 58 :: f 59 :: f 60 :: f 61 :: f 62 :: f 63 :: f 64 :: f 65 :: f 66 :: f 67 :: f 68 :: f 69 :: f 70 :: f 71 :: f 72 :: f 73 :: f 74 :: f 75 :: f 76 :: f 77 :: f 78 :: f 79 :: f 80 :: f 81 :: f 82 :: f 83 :: f 84 :: f 85 :: f 86 :: f 87 :: f 88 :: f 89 :: f 90 :: f 91 :: f 92 :: f 93 :: f 94 :: f 95 :: f 96 :: f 97 :: f 98 :: f 99 :: f 100 :: f 101 :: f 102 :: f 103 :: [])), []⟩ ∧ ∀ k, slot a k = f k := letters_vo a hs.size hs.defers
  rw [hf] at e6 e7 e8
  rw [ea, e6, e7, e8]
  have HS := Lib.hid hs
  have HF := Lib.hid hf
  have E6 := Lib.hid e6
  have E7 := Lib.hid e7
  have E8 := Lib.hid e8
  clear hs ea hf hN hl h6 e6 h7 e7 h8 e8
  conv => arg 2; whnf
  go_wp2_with fail
  refine HN.out _ ?_
  exact Sl.add (Sl.stay [1, 5, 6] HS.out HF.out (by kernel_rfl) rfl ⟨by kernel_rfl, by kernel_rfl, Eq.trans (by kernel_rfl) E6.out.symm, trivial⟩ HL.out) (by kernel_rfl)
set_option maxHeartbeats 4000000 in
theorem vo_r15 (a : Act) (w : World) (N : Act → World → Prop) (Q : Exit → Act → World → Prop) (l : List (Nat × Value)) (hs : Sl 104 a l) (hl : (l.map Prod.fst).all (fun k => [1, 6].contains k) = true)
    (h : Hd) (pa : Option Addr) (pc : Nat) (ia : Option Addr) (n ic : Nat) (A : Nat) (hA : Blk w A 28 (h.cells pa pc ia n ic)) (PO : World → Prop) (HC : Calls Tryd.prog 39 #[.agg (h.cells pa pc ia n ic)] w fun e w' => e = .returned (.tuple #[]) ∧ PO w')  (h5 : slot a 5 = .pointer (some ⟨A, 0, none⟩))
    (hN : ∀ a' w', Sl 104 a' l → PO w' → N a' w') : (r_vo 15).wp Tryd.prog (Exit.then N Q) a w := by
  have HN := Lib.hid hN
  have HL := Lib.hid hl
  have e5 := h5
  obtain ⟨f, ea, hf⟩ : ∃ f : Nat → Value, a = ⟨(List.toArray (f 0 :: f 1 :: f 2 :: f 3 :: f 4 :: f 5 :: f 6 :: f 7 :: f 8 :: f 9 :: f 10 :: f 11 :: f 12 :: f 13 :: f 14 :: f 15 :: f 16 :: f 17 :: f 18 :: f 19 :: f 20 :: f 21 :: f 22 :: f 23 :: f 24 :: f 25 :: f 26 :: f 27 :: f 28 :: f 29 :: f 30 :: f 31 :: f 32 :: f 33 :: f 34 :: f 35 :: f 36 :: f 37 :: f 38 :: f 39 :: f 40 :: f 41 :: f 42 :: f 43 :: f 44 :: f 45 :: f 46 :: f 47 :: f 48 :: f 49 :: f 50 :: f 51 :: f 52 :: f 53 :: f 54 :: f 55 :: f 56 :: f 57 :: f 58 :: f 59 :: f 60 :: f 61 :: f 62 :: f 63 :: f 64 :: f 65 :: f 66 :: f 67 :: f 68 :: f 69 :: f 70 :: f 71 :: f 72 :: f 73 :: f 74 :: f 75 :: f 76 :: f 77 :: f 78 :: f 79 :: f 80 :: f 81 :: f 82 :: f 83 :: f 84 :: f 85 :: f 86 :: f 87 :: f 88 :: f 89 :: f 90 :: f 91 :: f 92 :: f 93 :: f 94 :: f 95 :: f 96 :: f 97 :: f 98 :: f 99 :: f 100 :: f 101 :: f 102 :: f 103 :: [])), []⟩ ∧ ∀ k, slot a k = f k := letters_vo a hs.size hs.defers
  rw [hf] at e5
  rw [ea, e5]
  have HS := Lib.hid hs
  have HF := Lib.hid hf
  have E5 := Lib.hid e5
  clear hs ea hf hN hl h5 e5
  obtain ⟨c0, c1, c2, c3, c4, c5, c6, c7, c8, c9, c10⟩ := (CellsAt.of_blk hA).box
  clear hA
  unfold Hd.cells at HC
  have HC := Lib.hid HC
  conv => arg 2; whnf
  go_wp2_with fail
  refine HC.out.mono ?_
  rintro e w' ⟨rfl, hb⟩
  go_wp2_with fail
  refine HN.out _ _ ?_ hb
  exact Sl.stay [1, 6] HS.out HF.out (by kernel_rfl) rfl ⟨by kernel_rfl, by kernel_rfl, trivial⟩ HL.out
set_option maxHeartbeats 4000000 in
theorem vo_r16 (a : Act) (w : World) (N : Act → World → Prop) (Q : Exit → Act → World → Prop) (l : List (Nat × Value)) (hs : Sl 104 a l) (hl : (l.map Prod.fst).all (fun k => [1, 6].contains k) = true)
     
    (hN : ∀ a', Sl 104 a' ((10, .int .i64 0) :: l) → N a' (w)) : (r_vo 16).wp Tryd.prog (Exit.then N Q) a w := by
  have HN := Lib.hid hN
  have HL := Lib.hid hl
  obtain ⟨f, ea, hf⟩ : ∃ f : Nat → Value, a = ⟨(List.toArray (f 0 :: f 1 :: f 2 :: f 3 :: f 4 :: f 5 :: f 6 :: f 7 :: f 8 :: f 9 :: f 10 :: f 11 :: f 12 :: f 13 :: f 14 :: f 15 :: f 16 :: f 17 :: f 18 :: f 19 :: f 20 :: f 21 :: f 22 :: f 23 :: f 24 :: f 25 :: f 26 :: f 27 :: f 28 :: f 29 :: f 30 :: f 31 :: f 32 :: f 33 :: f 34 :: f 35 :: f 36 :: f 37 :: f 38 :: f 39 :: f 40 :: f 41 :: f 42 :: f 43 :: f 44 :: f 45 :: f 46 :: f 47 :: f 48 :: f 49 :: f 50 :: f 51 :: f 52 :: f 53 :: f 54 :: f 55 :: f 56 :: f 57 :: f 58 :: f 59 :: f 60 :: f 61 :: f 62 :: f 63 :: f 64 :: f 65 :: f 66 :: f 67 :: f 68 :: f 69 :: f 70 :: f 71 :: f 72 :: f 73 :: f 74 :: f 75 :: f 76 :: f 77 :: f 78 :: f 79 :: f 80 :: f 81 :: f 82 :: f 83 :: f 84 :: f 85 :: f 86 :: f 87 :: f 88 :: f 89 :: f 90 :: f 91 :: f 92 :: f 93 :: f 94 :: f 95 :: f 96 :: f 97 :: f 98 :: f 99 :: f 100 :: f 101 :: f 102 :: f 103 :: [])), []⟩ ∧ ∀ k, slot a k = f k := letters_vo a hs.size hs.defers
  rw [ea]
  have HS := Lib.hid hs
  have HF := Lib.hid hf
  clear hs ea hf hN hl 
  conv => arg 2; whnf
  go_wp2_with fail
  refine HN.out _ ?_
  exact Sl.add (Sl.stay [1, 6] HS.out HF.out (by kernel_rfl) rfl ⟨by kernel_rfl, by kernel_rfl, trivial⟩ HL.out) (by kernel_rfl)
set_option maxHeartbeats 4000000 in
theorem vo_r17T (a : Act) (w : World) (N : Act → World → Prop) (Q : Exit → Act → World → Prop) (l : List (Nat × Value)) (hs : Sl 104 a l) (hl : (l.map Prod.fst).all (fun k => [1, 6, 10].contains k) = true)
    (j : Nat) (hj : j < 2)  (h10 : l.lookup 10 = some (.int .i64 (j : Nat)))
    (hN : ∀ a', Sl 104 a' ((74, .bool true) :: l) → N a' (w)) : (r_vo 17).wp Tryd.prog (Exit.then N Q) a w := by
  have HN := Lib.hid hN
  have HL := Lib.hid hl
  have e10 := hs.look 10 h10
  obtain ⟨f, ea, hf⟩ : ∃ f : Nat → Value, a = ⟨(List.toArray (f 0 :: f 1 :: f 2 :: f 3 :: f 4 :: f 5 :: f 6 :: f 7 :: f 8 :: f 9 :: f 10 :: f 11 :: f 12 :: f 13 :: f 14 :: f 15 :: f 16 :: f 17 :: f 18 :: f 19 :: f 20 :: f 21 :: f 22 :: f 23 :: f 24 :: f 25 :: f 26 :: f 27 :: f 28 :: f 29 :: f 30 :: f 31 :: f 32 :: f 33 :: f 34 :: f 35 :: f 36 :: f 37 :: f 38 :: f 39 :: f 40 :: f 41 :: f 42 :: f 43 :: f 44 :: f 45 :: f 46 :: f 47 :: f 48 :: f 49 :: f 50 :: f 51 :: f 52 :: f 53 :: f 54 :: f 55 :: f 56 :: f 57 :: f 58 :: f 59 :: f 60 :: f 61 :: f 62 :: f 63 :: f 64 :: f 65 :: f 66 :: f 67 :: f 68 :: f 69 :: f 70 :: f 71 :: f 72 :: f 73 :: f 74 :: f 75 :: f 76 :: f 77 :: f 78 :: f 79 :: f 80 :: f 81 :: f 82 :: f 83 :: f 84 :: f 85 :: f 86 :: f 87 :: f 88 :: f 89 :: f 90 :: f 91 :: f 92 :: f 93 :: f 94 :: f 95 :: f 96 :: f 97 :: f 98 :: f 99 :: f 100 :: f 101 :: f 102 :: f 103 :: [])), []⟩ ∧ ∀ k, slot a k = f k := letters_vo a hs.size hs.defers
  rw [hf] at e10
  rw [ea, e10]
  have HS := Lib.hid hs
  have HF := Lib.hid hf
  have E10 := Lib.hid e10
  clear hs ea hf hN hl h10 e10
  have hj1 : (j : Int) < 2 := by omega
  conv => arg 2; whnf
  go_wp2_with fail
  refine HN.out _ ?_
  exact Sl.add (Sl.stay [1, 6, 10] HS.out HF.out (by kernel_rfl) rfl ⟨by kernel_rfl, by kernel_rfl, Eq.trans (by kernel_rfl) E10.out.symm, trivial⟩ HL.out) (by kernel_rfl)
set_option maxHeartbeats 4000000 in
theorem vo_r17F (a : Act) (w : World) (N : Act → World → Prop) (Q : Exit → Act → World → Prop) (l : List (Nat × Value)) (hs : Sl 104 a l) (hl : (l.map Prod.fst).all (fun k => [1, 6, 10].contains k) = true)
    (j : Nat) (hj : j = 2)  (h10 : l.lookup 10 = some (.int .i64 (j : Nat)))
    (hN : ∀ a', Sl 104 a' ((74, .bool false) :: l) → N a' (w)) : (r_vo 17).wp Tryd.prog (Exit.then N Q) a w := by
  have HN := Lib.hid hN
  have HL := Lib.hid hl
  have e10 := hs.look 10 h10
  obtain ⟨f, ea, hf⟩ : ∃ f : Nat → Value, a = ⟨(List.toArray (f 0 :: f 1 :: f 2 :: f 3 :: f 4 :: f 5 :: f 6 :: f 7 :: f 8 :: f 9 :: f 10 :: f 11 :: f 12 :: f 13 :: f 14 :: f 15 :: f 16 :: f 17 :: f 18 :: f 19 :: f 20 :: f 21 :: f 22 :: f 23 :: f 24 :: f 25 :: f 26 :: f 27 :: f 28 :: f 29 :: f 30 :: f 31 :: f 32 :: f 33 :: f 34 :: f 35 :: f 36 :: f 37 :: f 38 :: f 39 :: f 40 :: f 41 :: f 42 :: f 43 :: f 44 :: f 45 :: f 46 :: f 47 :: f 48 :: f 49 :: f 50 :: f 51 :: f 52 :: f 53 :: f 54 :: f 55 :: f 56 :: f 57 :: f 58 :: f 59 :: f 60 :: f 61 :: f 62 :: f 63 :: f 64 :: f 65 :: f 66 :: f 67 :: f 68 :: f 69 :: f 70 :: f 71 :: f 72 :: f 73 :: f 74 :: f 75 :: f 76 :: f 77 :: f 78 :: f 79 :: f 80 :: f 81 :: f 82 :: f 83 :: f 84 :: f 85 :: f 86 :: f 87 :: f 88 :: f 89 :: f 90 :: f 91 :: f 92 :: f 93 :: f 94 :: f 95 :: f 96 :: f 97 :: f 98 :: f 99 :: f 100 :: f 101 :: f 102 :: f 103 :: [])), []⟩ ∧ ∀ k, slot a k = f k := letters_vo a hs.size hs.defers
  rw [hf] at e10
  rw [ea, e10]
  have HS := Lib.hid hs
  have HF := Lib.hid hf
  have E10 := Lib.hid e10
  clear hs ea hf hN hl h10 e10
  have hj1 : ¬ (j : Int) < 2 := by omega
  clear hj
  conv => arg 2; whnf
  go_wp2_with fail
  refine HN.out _ ?_
  exact Sl.add (Sl.stay [1, 6, 10] HS.out HF.out (by kernel_rfl) rfl ⟨by kernel_rfl, by kernel_rfl, Eq.trans (by kernel_rfl) E10.out.symm, trivial⟩ HL.out) (by kernel_rfl)
set_option maxHeartbeats 4000000 in
theorem vo_r19 (a : Act) (w : World) (N : Act → World → Prop) (Q : Exit → Act → World → Prop) (l : List (Nat × Value)) (hs : Sl 104 a l) (hl : (l.map Prod.fst).all (fun k => [1, 6, 10].contains k) = true)
    (h : Hd) (n : Nat) (t : TypeId) (qa : Option Addr) (qc : Nat) (ja : Option Addr) (jc : Nat) (ht : ValTy t) (PO : World → Option Addr → Nat → Option Addr → Nat → Prop) (HC : Calls Tryd.prog 143 #[.agg (h.cells qa qc ja n jc)] w (LentR PO h n w))  (h6 : l.lookup 6 = some (.iface t (.agg (h.cells qa qc ja n jc))))
    (hN : ∀ a' w' qa' qc' ja' jc', Sl 104 a' ((11, .pointer (some ⟨w'.heap.size, 0, none⟩)) :: l) → PO w' qa' qc' ja' jc' → Below w.heap.size w w' → N a' (w'.alloc (.cells (h.cells qa' qc' ja' n jc') 28))) : (r_vo 19).wp Tryd.prog (Exit.then N Q) a w := by
  have HN := Lib.hid hN
  have HL := Lib.hid hl
  have e6 := hs.look 6 h6
  obtain ⟨f, ea, hf⟩ : ∃ f : Nat → Value, a = ⟨(List.toArray (f 0 :: f 1 :: f 2 :: f 3 :: f 4 :: f 5 :: f 6 :: f 7 :: f 8 :: f 9 :: f 10 :: f 11 :: f 12 :: f 13 :: f 14 :: f 15 :: f 16 :: f 17 :: f 18 :: f 19 :: f 20 :: f 21 :: f 22 :: f 23 :: f 24 :: f 25 :: f 26 :: f 27 :: f 28 :: f 29 :: f 30 :: f 31 :: f 32 :: f 33 :: f 34 :: f 35 :: f 36 :: f 37 :: f 38 :: f 39 :: f 40 :: f 41 :: f 42 :: f 43 :: f 44 :: f 45 :: f 46 :: f 47 :: f 48 :: f 49 :: f 50 :: f 51 :: f 52 :: f 53 :: f 54 :: f 55 :: f 56 :: f 57 :: f 58 :: f 59 :: f 60 :: f 61 :: f 62 :: f 63 :: f 64 :: f 65 :: f 66 :: f 67 :: f 68 :: f 69 :: f 70 :: f 71 :: f 72 :: f 73 :: f 74 :: f 75 :: f 76 :: f 77 :: f 78 :: f 79 :: f 80 :: f 81 :: f 82 :: f 83 :: f 84 :: f 85 :: f 86 :: f 87 :: f 88 :: f 89 :: f 90 :: f 91 :: f 92 :: f 93 :: f 94 :: f 95 :: f 96 :: f 97 :: f 98 :: f 99 :: f 100 :: f 101 :: f 102 :: f 103 :: [])), []⟩ ∧ ∀ k, slot a k = f k := letters_vo a hs.size hs.defers
  rw [hf] at e6
  rw [ea, e6]
  have HS := Lib.hid hs
  have HF := Lib.hid hf
  have E6 := Lib.hid e6
  clear hs ea hf hN hl h6 e6
  have hm := meth_datum ht
  have hn := nil_datum ht
  unfold Hd.cells at HC ⊢
  have HC := Lib.hid HC
  conv => arg 2; whnf
  go_wp2_with fail
  refine HC.out.mono ?_
  rintro e w6 ⟨qa', qc', ja', jc', rfl, hpo, hb6⟩
  unfold Hd.cells
  go_wp2_with fail
  refine HN.out _ _ _ _ _ _ ?_ hpo hb6
  exact Sl.add (Sl.stay [1, 6, 10] HS.out HF.out (by kernel_rfl) rfl ⟨by kernel_rfl, Eq.trans (by kernel_rfl) E6.out.symm, by kernel_rfl, trivial⟩ HL.out) (by kernel_rfl)
set_option maxHeartbeats 4000000 in
theorem vo_r20 (a : Act) (w : World) (N : Act → World → Prop) (Q : Exit → Act → World → Prop) (l : List (Nat × Value)) (hs : Sl 104 a l) (hl : (l.map Prod.fst).all (fun k => [1, 6, 10, 11].contains k) = true)
    (h : Hd) (n : Nat) (t : TypeId) (qa : Option Addr) (qc : Nat) (ja : Option Addr) (jc : Nat) (ht : ValTy t) (PO : World → Option Addr → Nat → Option Addr → Nat → Prop) (HC : Calls Tryd.prog 143 #[.agg (h.cells qa qc ja n jc)] w (LentR PO h n w))  (h6 : l.lookup 6 = some (.iface t (.agg (h.cells qa qc ja n jc))))
    (hN : ∀ a' w' qa' qc' ja' jc', Sl 104 a' ((12, .pointer (some ⟨w'.heap.size, 0, none⟩)) :: l) → PO w' qa' qc' ja' jc' → Below w.heap.size w w' → N a' (w'.alloc (.cells (h.cells qa' qc' ja' n jc') 28))) : (r_vo 20).wp Tryd.prog (Exit.then N Q) a w := by
  have HN := Lib.hid hN
  have HL := Lib.hid hl
  have e6 := hs.look 6 h6
  obtain ⟨f, ea, hf⟩ : ∃ f : Nat → Value, a = ⟨(List.toArray (f 0 :: f 1 :: f 2 :: f 3 :: f 4 :: f 5 :: f 6 :: f 7 :: f 8 :: f 9 :: f 10 :: f 11 :: f 12 :: f 13 :: f 14 :: f 15 :: f 16 :: f 17 :: f 18 :: f 19 :: f 20 :: f 21 :: f 22 :: f 23 :: f 24 :: f 25 :: f 26 :: f 27 :: f 28 :: f 29 :: f 30 :: f 31 :: f 32 :: f 33 :: f 34 :: f 35 :: f 36 :: f 37 :: f 38 :: f 39 :: f 40 :: f 41 :: f 42 :: f 43 :: f 44 :: f 45 :: f 46 :: f 47 :: f 48 :: f 49 :: f 50 :: f 51 :: f 52 :: f 53 :: f 54 :: f 55 :: f 56 :: f 57 :: f 58 :: f 59 :: f 60 :: f 61 :: f 62 :: f 63 :: f 64 :: f 65 :: f 66 :: f 67 :: f 68 :: f 69 :: f 70 :: f 71 :: f 72 :: f 73 :: f 74 :: f 75 :: f 76 :: f 77 :: f 78 :: f 79 :: f 80 :: f 81 :: f 82 :: f 83 :: f 84 :: f 85 :: f 86 :: f 87 :: f 88 :: f 89 :: f 90 :: f 91 :: f 92 :: f 93 :: f 94 :: f 95 :: f 96 :: f 97 :: f 98 :: f 99 :: f 100 :: f 101 :: f 102 :: f 103 :: [])), []⟩ ∧ ∀ k, slot a k = f k := letters_vo a hs.size hs.defers
  rw [hf] at e6
  rw [ea, e6]
  have HS := Lib.hid hs
  have HF := Lib.hid hf
  have E6 := Lib.hid e6
  clear hs ea hf hN hl h6 e6
  have hm := meth_datum ht
  have hn := nil_datum ht
  unfold Hd.cells at HC ⊢
  have HC := Lib.hid HC
  conv => arg 2; whnf
  go_wp2_with fail
  refine HC.out.mono ?_
  rintro e w6 ⟨qa', qc', ja', jc', rfl, hpo, hb6⟩
  unfold Hd.cells
  go_wp2_with fail
  refine HN.out _ _ _ _ _ _ ?_ hpo hb6
  exact Sl.add (Sl.stay [1, 6, 10, 11] HS.out HF.out (by kernel_rfl) rfl ⟨by kernel_rfl, Eq.trans (by kernel_rfl) E6.out.symm, by kernel_rfl, by kernel_rfl, trivial⟩ HL.out) (by kernel_rfl)
set_option maxHeartbeats 4000000 in
theorem vo_r21 (a : Act) (w : World) (N : Act → World → Prop) (Q : Exit → Act → World → Prop) (l : List (Nat × Value)) (hs : Sl 104 a l) (hl : (l.map Prod.fst).all (fun k => [1, 6, 10, 11, 12].contains k) = true)
    (h : Hd) (pa : Option Addr) (pc : Nat) (ia : Option Addr) (n ic : Nat) (A : Nat) (hA : Blk w A 28 (h.cells pa pc ia n ic)) (pa' : Option Addr) (pc' : Nat) (ia' : Option Addr) (ic' : Nat) (B : Nat) (hB : Blk w B 28 (h.cells pa' pc' ia' n ic')) (HC : Calls Tryd.prog 31 #[.agg (h.cells pa pc ia n ic), .agg (h.cells pa' pc' ia' n ic')] w fun e w' => e = .returned (.bool true) ∧ Below w.heap.size w w')  (h11 : l.lookup 11 = some (.pointer (some ⟨A, 0, none⟩))) (h1 : l.lookup 1 = some (.pointer (some ⟨B, 0, none⟩)))
    (hN : ∀ a' w', Sl 104 a' ((13, .bool true) :: l) → Below w.heap.size w w' → N a' w') : (r_vo 21).wp Tryd.prog (Exit.then N Q) a w := by
  have HN := Lib.hid hN
  have HL := Lib.hid hl
  have e11 := hs.look 11 h11
  have e1 := hs.look 1 h1
  obtain ⟨f, ea, hf⟩ : ∃ f : Nat → Value, a = ⟨(List.toArray (f 0 :: f 1 :: f 2 :: f 3 :: f 4 :: f 5 :: f 6 :: f 7 :: f 8 :: f 9 :: f 10 :: f 11 :: f 12 :: f 13 :: f 14 :: f 15 :: f 16 :: f 17 :: f 18 :: f 19 :: f 20 :: f 21 :: f 22 :: f 23 :: f 24 :: f 25 :: f 26 :: f 27 :: f 28 :: f 29 :: f 30 :: f 31 :: f 32 :: f 33 :: f 34 :: f 35 :: f 36 :: f 37 :: f 38 :: f 39 :: f 40 :: f 41 :: f 42 :: f 43 :: f 44 :: f 45 :: f 46 :: f 47 :: f 48 :: f 49 :: f 50 :: f 51 :: f 52 :: f 53 :: f 54 :: f 55 :: f 56 :: f 57 :: f 58 :: f 59 :: f 60 :: f 61 :: f 62 :: f 63 :: f 64 :: f 65 :: f 66 :: f 67 :: f 68 :: f 69 :: f 70 :: f 71 :: f 72 :: f 73 :: f 74 :: f 75 :: f 76 :: f 77 :: f 78 :: f 79 :: f 80 :: f 81 :: f 82 :: f 83 :: f 84 :: f 85 :: f 86 :: f 87 :: f 88 :: f 89 :: f 90 :: f 91 :: f 92 :: f 93 :: f 94 :: f 95 :: f 96 :: f 97 :: f 98 :: f 99 :: f 100 :: f 101 :: f 102 :: f 103 :: [])), []⟩ ∧ ∀ k, slot a k = f k := letters_vo a hs.size hs.defers
  rw [hf] at e11 e1
  rw [ea, e11, e1]
  have HS := Lib.hid hs
  have HF := Lib.hid hf
  have E11 := Lib.hid e11
  have E1 := Lib.hid e1
  clear hs ea hf hN hl h11 e11 h1 e1
  obtain ⟨c0, c1, c2, c3, c4, c5, c6, c7, c8, c9, c10⟩ := (CellsAt.of_blk hA).box
  clear hA
  obtain ⟨d0, d1, d2, d3, d4, d5, d6, d7, d8, d9, d10⟩ := (CellsAt.of_blk hB).box
  clear hB
  unfold Hd.cells at HC
  have HC := Lib.hid HC
  conv => arg 2; whnf
  go_wp2_with fail
  refine HC.out.mono ?_
  rintro e w' ⟨rfl, hb⟩
  go_wp2_with fail
  refine HN.out _ _ ?_ hb
  exact Sl.add (Sl.stay [1, 6, 10, 11, 12] HS.out HF.out (by kernel_rfl) rfl ⟨Eq.trans (by kernel_rfl) E1.out.symm, by kernel_rfl, by kernel_rfl, Eq.trans (by kernel_rfl) E11.out.symm, by kernel_rfl, trivial⟩ HL.out) (by kernel_rfl)
set_option maxHeartbeats 4000000 in
theorem vo_r23 (a : Act) (w : World) (N : Act → World → Prop) (Q : Exit → Act → World → Prop) (l : List (Nat × Value)) (hs : Sl 104 a l) (hl : (l.map Prod.fst).all (fun k => [1, 6, 10, 11, 12, 13].contains k) = true)
    (h : Hd) (pa : Option Addr) (pc : Nat) (ia : Option Addr) (n ic : Nat) (A : Nat) (hA : Blk w A 28 (h.cells pa pc ia n ic)) (pa' : Option Addr) (pc' : Nat) (ia' : Option Addr) (ic' : Nat) (B : Nat) (hB : Blk w B 28 (h.cells pa' pc' ia' n ic')) (HC : Calls Tryd.prog 31 #[.agg (h.cells pa pc ia n ic), .agg (h.cells pa' pc' ia' n ic')] w fun e w' => e = .returned (.bool true) ∧ Below w.heap.size w w')  (h12 : l.lookup 12 = some (.pointer (some ⟨A, 0, none⟩))) (h1 : l.lookup 1 = some (.pointer (some ⟨B, 0, none⟩)))
    (hN : ∀ a' w', Sl 104 a' ((14, .bool true) :: l) → Below w.heap.size w w' → N a' w') : (r_vo 23).wp Tryd.prog (Exit.then N Q) a w := by
  have HN := Lib.hid hN
  have HL := Lib.hid hl
  have e12 := hs.look 12 h12
  have e1 := hs.look 1 h1
  obtain ⟨f, ea, hf⟩ : ∃ f : Nat → Value, a = ⟨(List.toArray (f 0 :: f 1 :: f 2 :: f 3 :: f 4 :: f 5 :: f 6 :: f 7 :: f 8 :: f 9 :: f 10 :: f 11 :: f 12 :: f 13 :: f 14 :: f 15 :: f 16 :: f 17 :: f 18 :: f 19 :: f 20 :: f 21 :: f 22 :: f 23 :: f 24 :: f 25 :: f 26 :: f 27 :: f 28 :: f 29 :: f 30 :: f 31 :: f 32 :: f 33 :: f 34 :: f 35 :: f 36 :: f 37 :: f 38 :: f 39 :: f 40 :: f 41 :: f 42 :: f 43 :: f 44 :: f 45 :: f 46 :: f 47 :: f 48 :: f 49 :: f 50 :: f 51 :: f 52 :: f 53 :: f 54 :: f 55 :: f 56 :: f 57 :: f 58 :: f 59 :: f 60 :: f 61 :: f 62 :: f 63 :: f 64 :: f 65 :: f 66 :: f 67 :: f 68 :: f 69 :: f 70 :: f 71 :: f 72 :: f 73 :: f 74 :: f 75 :: f 76 :: f 77 :: f 78 :: f 79 :: f 80 :: f 81 :: f 82 :: f 83 :: f 84 :: f 85 :: f 86 :: f 87 :: f 88 :: f 89 :: f 90 :: f 91 :: f 92 :: f 93 :: f 94 :: f 95 :: f 96 :: f 97 :: f 98 :: f 99 :: f 100 :: f 101 :: f 102 :: f 103 :: [])), []⟩ ∧ ∀ k, slot a k = f k := letters_vo a hs.size hs.defers
  rw [hf] at e12 e1
  rw [ea, e12, e1]
  have HS := Lib.hid hs
  have HF := Lib.hid hf
  have E12 := Lib.hid e12
  have E1 := Lib.hid e1
  clear hs ea hf hN hl h12 e12 h1 e1
  obtain ⟨c0, c1, c2, c3, c4, c5, c6, c7, c8, c9, c10⟩ := (CellsAt.of_blk hA).box
  clear hA
  obtain ⟨d0, d1, d2, d3, d4, d5, d6, d7, d8, d9, d10⟩ := (CellsAt.of_blk hB).box
  clear hB
  unfold Hd.cells at HC
  have HC := Lib.hid HC
  conv => arg 2; whnf
  go_wp2_with fail
  refine HC.out.mono ?_
  rintro e w' ⟨rfl, hb⟩
  go_wp2_with fail
  refine HN.out _ _ ?_ hb
  exact Sl.add (Sl.stay [1, 6, 10, 11, 12, 13] HS.out HF.out (by kernel_rfl) rfl ⟨Eq.trans (by kernel_rfl) E1.out.symm, by kernel_rfl, by kernel_rfl, by kernel_rfl, Eq.trans (by kernel_rfl) E12.out.symm, by kernel_rfl, trivial⟩ HL.out) (by kernel_rfl)
set_option maxHeartbeats 4000000 in
theorem vo_r22 (a : Act) (w : World) (N : Act → World → Prop) (Q : Exit → Act → World → Prop) (l : List (Nat × Value)) (hs : Sl 104 a l) (hl : (l.map Prod.fst).all (fun k => [1, 6, 10, 12, 13].contains k) = true)
    (h : Hd) (pa : Option Addr) (pc : Nat) (ia : Option Addr) (n ic : Nat) (A : Nat) (hA : Blk w A 28 (h.cells pa pc ia n ic)) (PO : World → Prop) (HC : Calls Tryd.prog 39 #[.agg (h.cells pa pc ia n ic)] w fun e w' => e = .returned (.tuple #[]) ∧ PO w')  (h11 : slot a 11 = .pointer (some ⟨A, 0, none⟩))
    (hN : ∀ a' w', Sl 104 a' l → PO w' → N a' w') : (r_vo 22).wp Tryd.prog (Exit.then N Q) a w := by
  have HN := Lib.hid hN
  have HL := Lib.hid hl
  have e11 := h11
  obtain ⟨f, ea, hf⟩ : ∃ f : Nat → Value, a = ⟨(List.toArray (f 0 :: f 1 :: f 2 :: f 3 :: f 4 :: f 5 :: f 6 :: f 7 :: f 8 :: f 9 :: f 10 :: f 11 :: f 12 :: f 13 :: f 14 :: f 15 :: f 16 :: f 17 :: f 18 :: f 19 :: f 20 :: f 21 :: f 22 :: f 23 :: f 24 :: f 25 :: f 26 :: f 27 :: f 28 :: f 29 :: f 30 :: f 31 :: f 32 :: f 33 :: f 34 :: f 35 :: f 36 :: f 37 :: f 38 :: f 39 :: f 40 :: f 41 :: f 42 :: f 43 :: f 44 :: f 45 :: f 46 :: f 47 :: f 48 :: f 49 :: f 50 :: f 51 :: f 52 :: f 53 :: f 54 :: f 55 :: f 56 :: f 57 :: f 58 :: f 59 :: f 60 :: f 61 :: f 62 :: f 63 :: f 64 :: f 65 :: f 66 :: f 67 :: f 68 :: f 69 :: f 70 :: f 71 :: f 72 :: f 73 :: f 74 :: f 75 :: f 76 :: f 77 :: f 78 :: f 79 :: f 80 :: f 81 :: f 82 :: f 83 :: f 84 :: f 85 :: f 86 :: f 87 :: f 88 :: f 89 :: f 90 :: f 91 :: f 92 :: f 93 :: f 94 :: f 95 :: f 96 :: f 97 :: f 98 :: f 99 :: f 100 :: f 101 :: f 102 :: f 103 :: [])), []⟩ ∧ ∀ k, slot a k = f k := letters_vo a hs.size hs.defers
  rw [hf] at e11
  rw [ea, e11]
  have HS := Lib.hid hs
  have HF := Lib.hid hf
  have E11 := Lib.hid e11
  clear hs ea hf hN hl h11 e11
  obtain ⟨c0, c1, c2, c3, c4, c5, c6, c7, c8, c9, c10⟩ := (CellsAt.of_blk hA).box
  clear hA
  unfold Hd.cells at HC
  have HC := Lib.hid HC
  conv => arg 2; whnf
  go_wp2_with fail
  refine HC.out.mono ?_
  rintro e w' ⟨rfl, hb⟩
  go_wp2_with fail
  refine HN.out _ _ ?_ hb
  exact Sl.stay [1, 6, 10, 12, 13] HS.out HF.out (by kernel_rfl) rfl ⟨by kernel_rfl, by kernel_rfl, by kernel_rfl, by kernel_rfl, by kernel_rfl, trivial⟩ HL.out
set_option maxHeartbeats 4000000 in
theorem vo_r24 (a : Act) (w : World) (N : Act → World → Prop) (Q : Exit → Act → World → Prop) (l : List (Nat × Value)) (hs : Sl 104 a l) (hl : (l.map Prod.fst).all (fun k => [1, 6, 10, 12, 13, 14].contains k) = true)
    (h : Hd) (pa : Option Addr) (pc : Nat) (ia : Option Addr) (n ic : Nat) (A : Nat) (hA : Blk w A 28 (h.cells pa pc ia n ic)) (v : Value) (HC : Calls Tryd.prog 40 #[v, .agg (h.cells pa pc ia n ic)] w fun e w' => e = .returned (.bool true) ∧ Below w.heap.size w w')  (h6 : l.lookup 6 = some (v)) (h1 : l.lookup 1 = some (.pointer (some ⟨A, 0, none⟩)))
    (hN : ∀ a' w', Sl 104 a' ((15, .bool true) :: l) → Below w.heap.size w w' → N a' w') : (r_vo 24).wp Tryd.prog (Exit.then N Q) a w := by
  have HN := Lib.hid hN
  have HL := Lib.hid hl
  have e6 := hs.look 6 h6
  have e1 := hs.look 1 h1
  obtain ⟨f, ea, hf⟩ : ∃ f : Nat → Value, a = ⟨(List.toArray (f 0 :: f 1 :: f 2 :: f 3 :: f 4 :: f 5 :: f 6 :: f 7 :: f 8 :: f 9 :: f 10 :: f 11 :: f 12 :: f 13 :: f 14 :: f 15 :: f 16 :: f 17 :: f 18 :: f 19 :: f 20 :: f 21 :: f 22 :: f 23 :: f 24 :: f 25 :: f 26 :: f 27 :: f 28 :: f 29 :: f 30 :: f 31 :: f 32 :: f 33 :: f 34 :: f 35 :: f 36 :: f 37 :: f 38 :: f 39 :: f 40 :: f 41 :: f 42 :: f 43 :: f 44 :: f 45 :: f 46 :: f 47 :: f 48 :: f 49 :: f 50 :: f 51 :: f 52 :: f 53 :: f 54 :: f 55 :: f 56 :: f 57 :: f 58 :: f 59 :: f 60 :: f 61 :: f 62 :: f 63 :: f 64 :: f 65 :: f 66 :: f 67 :: f 68 :: f 69 :: f 70 :: f 71 :: f 72 :: f 73 :: f 74 :: f 75 :: f 76 :: f 77 :: f 78 :: f 79 :: f 80 :: f 81 :: f 82 :: f 83 :: f 84 :: f 85 :: f 86 :: f 87 :: f 88 :: f 89 :: f 90 :: f 91 :: f 92 :: f 93 :: f 94 :: f 95 :: f 96 :: f 97 :: f 98 :: f 99 :: f 100 :: f 101 :: f 102 :: f 103 :: [])), []⟩ ∧ ∀ k, slot a k = f k := letters_vo a hs.size hs.defers
  rw [hf] at e6 e1
  rw [ea, e6, e1]
  have HS := Lib.hid hs
  have HF := Lib.hid hf
  have E6 := Lib.hid e6
  have E1 := Lib.hid e1
  clear hs ea hf hN hl h6 e6 h1 e1
  obtain ⟨c0, c1, c2, c3, c4, c5, c6, c7, c8, c9, c10⟩ := (CellsAt.of_blk hA).box
  clear hA
  unfold Hd.cells at HC
  have HC := Lib.hid HC
  conv => arg 2; whnf
  go_wp2_with fail
  refine HC.out.mono ?_
  rintro e w' ⟨rfl, hb⟩
  go_wp2_with fail
  refine HN.out _ _ ?_ hb
  exact Sl.add (Sl.stay [1, 6, 10, 12, 13, 14] HS.out HF.out (by kernel_rfl) rfl ⟨Eq.trans (by kernel_rfl) E1.out.symm, Eq.trans (by kernel_rfl) E6.out.symm, by kernel_rfl, by kernel_rfl, by kernel_rfl, by kernel_rfl, trivial⟩ HL.out) (by kernel_rfl)
set_option maxHeartbeats 4000000 in
theorem vo_r25 (a : Act) (w : World) (N : Act → World → Prop) (Q : Exit → Act → World → Prop) (l : List (Nat × Value)) (hs : Sl 104 a l) (hl : (l.map Prod.fst).all (fun k => [1, 6, 10, 12].contains k) = true)
     (h13 : slot a 13 = .bool true) (h14 : slot a 14 = .bool true) (h15 : slot a 15 = .bool true)
    (hN : ∀ a', Sl 104 a' ((101, .bool false) :: l) → N a' (w)) : (r_vo 25).wp Tryd.prog (Exit.then N Q) a w := by
  have HN := Lib.hid hN
  have HL := Lib.hid hl
  have e13 := h13
  have e14 := h14
  have e15 := h15
  obtain ⟨f, ea, hf⟩ : ∃ f : Nat → Value, a = ⟨(List.toArray (f 0 :: f 1 :: f 2 :: f 3 :: f 4 :: f 5 :: f 6 :: f 7 :: f 8 :: f 9 :: f 10 :: f 11 :: f 12 :: f 13 :: f 14 :: f 15 :: f 16 :: f 17 :: f 18 :: f 19 :: f 20 :: f 21 :: f 22 :: f 23 :: f 24 :: f 25 :: f 26 :: f 27 :: f 28 :: f 29 :: f 30 :: f 31 :: f 32 :: f 33 :: f 34 :: f 35 :: f 36 :: f 37 :: f 38 :: f 39 :: f 40 :: f 41 :: f 42 :: f 43 :: f 44 :: f 45 :: f 46 :: f 47 :: f 48 :: f 49 :: f 50 :: f 51 :: f 52 :: f 53 :: f 54 :: f 55 :: f 56 :: f 57 :: f 58 :: f 59 :: f 60 :: f 61 :: f 62 :: f 63 :: f 64 :: f 65 :: f 66 :: f 67 :: f 68 :: f 69 :: f 70 :: f 71 :: f 72 :: f 73 :: f 74 :: f 75 :: f 76 :: f 77 :: f 78 :: f 79 :: f 80 :: f 81 :: f 82 :: f 83 :: f 84 :: f 85 :: f 86 :: f 87 :: f 88 :: f 89 :: f 90 :: f 91 :: f 92 :: f 93 :: f 94 :: f 95 :: f 96 :: f 97 :: f 98 :: f 99 :: f 100 :: f 101 :: f 102 :: f 103 :: [])), []⟩ ∧ ∀ k, slot a k = f k := letters_vo a hs.size hs.defers
  rw [hf] at e13 e14 e15
  rw [ea, e13, e14, e15]
  have HS := Lib.hid hs
  have HF := Lib.hid hf
  have E13 := Lib.hid e13
  have E14 := Lib.hid e14
  have E15 := Lib.hid e15
  clear hs ea hf hN hl h13 e13 h14 e14 h15 e15
  conv => arg 2; whnf
  go_wp2_with fail
  refine HN.out _ ?_
  exact Sl.add (Sl.stay [1, 6, 10, 12] HS.out HF.out (by kernel_rfl) rfl ⟨by kernel_rfl, by kernel_rfl, by kernel_rfl, by kernel_rfl, trivial⟩ HL.out) (by kernel_rfl)
set_option maxHeartbeats 4000000 in
theorem vo_r27 (a : Act) (w : World) (N : Act → World → Prop) (Q : Exit → Act → World → Prop) (l : List (Nat × Value)) (hs : Sl 104 a l) (hl : (l.map Prod.fst).all (fun k => [1, 6, 10].contains k) = true)
    (h : Hd) (pa : Option Addr) (pc : Nat) (ia : Option Addr) (n ic : Nat) (A : Nat) (hA : Blk w A 28 (h.cells pa pc ia n ic)) (PO : World → Prop) (HC : Calls Tryd.prog 39 #[.agg (h.cells pa pc ia n ic)] w fun e w' => e = .returned (.tuple #[]) ∧ PO w')  (h12 : slot a 12 = .pointer (some ⟨A, 0, none⟩))
    (hN : ∀ a' w', Sl 104 a' l → PO w' → N a' w') : (r_vo 27).wp Tryd.prog (Exit.then N Q) a w := by
  have HN := Lib.hid hN
  have HL := Lib.hid hl
  have e12 := h12
  obtain ⟨f, ea, hf⟩ : ∃ f : Nat → Value, a = ⟨(List.toArray (f 0 :: f 1 :: f 2 :: f 3 :: f 4 :: f 5 :: f 6 :: f 7 :: f 8 :: f 9 :: f 10 :: f 11 :: f 12 :: f 13 :: f 14 :: f 15 :: f 16 :: f 17 :: f 18 :: f 19 :: f 20 :: f 21 :: f 22 :: f 23 :: f 24 :: f 25 :: f 26 :: f 27 :: f 28 :: f 29 :: f 30 :: f 31 :: f 32 :: f 33 :: f 34 :: f 35 :: f 36 :: f 37 :: f 38 :: f 39 :: f 40 :: f 41 :: f 42 :: f 43 :: f 44 :: f 45 :: f 46 :: f 47 :: f 48 :: f 49 :: f 50 :: f 51 :: f 52 :: f 53 :: f 54 :: f 55 :: f 56 :: f 57 :: f 58 :: f 59 :: f 60 :: f 61 :: f 62 :: f 63 :: f 64 :: f 65 :: f 66 :: f 67 :: f 68 :: f 69 :: f 70 :: f 71 :: f 72 :: f 73 :: f 74 :: f 75 :: f 76 :: f 77 :: f 78 :: f 79 :: f 80 :: f 81 :: f 82 :: f 83 :: f 84 :: f 85 :: f 86 :: f 87 :: f 88 :: f 89 :: f 90 :: f 91 :: f 92 :: f 93 :: f 94 :: f 95 :: f 96 :: f 97 :: f 98 :: f 99 :: f 100 :: f 101 :: f 102 :: f 103 :: [])), []⟩ ∧ ∀ k, slot a k = f k := letters_vo a hs.size hs.defers
  rw [hf] at e12
  rw [ea, e12]
  have HS := Lib.hid hs
  have HF := Lib.hid hf
  have E12 := Lib.hid e12
  clear hs ea hf hN hl h12 e12
  obtain ⟨c0, c1, c2, c3, c4, c5, c6, c7, c8, c9, c10⟩ := (CellsAt.of_blk hA).box
  clear hA
  unfold Hd.cells at HC
  have HC := Lib.hid HC
  conv => arg 2; whnf
  go_wp2_with fail
  refine HC.out.mono ?_
  rintro e w' ⟨rfl, hb⟩
  go_wp2_with fail
  refine HN.out _ _ ?_ hb
  exact Sl.stay [1, 6, 10] HS.out HF.out (by kernel_rfl) rfl ⟨by kernel_rfl, by kernel_rfl, by kernel_rfl, trivial⟩ HL.out
set_option maxHeartbeats 4000000 in
theorem vo_r18 (a : Act) (w : World) (N : Act → World → Prop) (Q : Exit → Act → World → Prop) (l : List (Nat × Value)) (hs : Sl 104 a l) (hl : (l.map Prod.fst).all (fun k => [1, 6].contains k) = true)
    (j : Nat) (hj : j < 2)  (h10 : slot a 10 = .int .i64 (j : Nat))
    (hN : ∀ a', Sl 104 a' ((10, .int .i64 (j + 1 : Nat)) :: l) → N a' (w)) : (r_vo 18).wp Tryd.prog (Exit.then N Q) a w := by
  have HN := Lib.hid hN
  have HL := Lib.hid hl
  have e10 := h10
  obtain ⟨f, ea, hf⟩ : ∃ f : Nat → Value, a = ⟨(List.toArray (f 0 :: f 1 :: f 2 :: f 3 :: f 4 :: f 5 :: f 6 :: f 7 :: f 8 :: f 9 :: f 10 :: f 11 :: f 12 :: f 13 :: f 14 :: f 15 :: f 16 :: f 17 :: f 18 :: f 19 :: f 20 :: f 21 :: f 22 :: f 23 :: f 24 :: f 25 :: f 26 :: f 27 :: f 28 :: f 29 :: f 30 :: f 31 :: f 32 :: f 33 :: f 34 :: f 35 :: f 36 :: f 37 :: f 38 :: f 39 :: f 40 :: f 41 :: f 42 :: f 43 :: f 44 :: f 45 :: f 46 :: f 47 :: f 48 :: f 49 :: f 50 :: f 51 :: f 52 :: f 53 :: f 54 :: f 55 :: f 56 :: f 57 :: f 58 :: f 59 :: f 60 :: f 61 :: f 62 :: f 63 :: f 64 :: f 65 :: f 66 :: f 67 :: f 68 :: f 69 :: f 70 :: f 71 :: f 72 :: f 73 :: f 74 :: f 75 :: f 76 :: f 77 :: f 78 :: f 79 :: f 80 :: f 81 :: f 82 :: f 83 :: f 84 :: f 85 :: f 86 :: f 87 :: f 88 :: f 89 :: f 90 :: f 91 :: f 92 :: f 93 :: f 94 :: f 95 :: f 96 :: f 97 :: f 98 :: f 99 :: f 100 :: f 101 :: f 102 :: f 103 :: [])), []⟩ ∧ ∀ k, slot a k = f k := letters_vo a hs.size hs.defers
  rw [hf] at e10
  rw [ea, e10]
  have HS := Lib.hid hs
  have HF := Lib.hid hf
  have E10 := Lib.hid e10
  clear hs ea hf hN hl h10 e10
  conv => arg 2; whnf
  go_wp2_with fail
  refine HN.out _ ?_
  exact Sl.add (Sl.stay [1, 6] HS.out HF.out (by kernel_rfl) rfl ⟨by kernel_rfl, by kernel_rfl, trivial⟩ HL.out) (Eq.trans (b := .int .i64 ((j : Int) + 1)) (by kernel_rfl) (by go_num))
set_option maxHeartbeats 4000000 in
theorem vo_r28 (a : Act) (w : World) (N : Act → World → Prop) (Q : Exit → Act → World → Prop) (l : List (Nat × Value)) (hs : Sl 104 a l) (hl : (l.map Prod.fst).all (fun k => [].contains k) = true)
     
    (hN : ∀ a', Sl 104 a' ((2, .bool true) :: l) → N a' (w)) : (r_vo 28).wp Tryd.prog (Exit.then N Q) a w := by
  have HN := Lib.hid hN
  have HL := Lib.hid hl
  obtain ⟨f, ea, hf⟩ : ∃ f : Nat → Value, a = ⟨(List.toArray (f 0 :: f 1 :: f 2 :: f 3 :: f 4 :: f 5 :: f 6 :: f 7 :: f 8 :: f 9 :: f 10 :: f 11 :: f 12 :: f 13 :: f 14 :: f 15 :: f 16 :: f 17 :: f 18 :: f 19 :: f 20 :: f 21 :: f 22 :: f 23 :: f 24 :: f 25 :: f 26 :: f 27 :: f 28 :: f 29 :: f 30 :: f 31 :: f 32 :: f 33 :: f 34 :: f 35 :: f 36 :: f 37 :: f 38 :: f 39 :: f 40 :: f 41 :: f 42 :: f 43 :: f 44 :: f 45 :: f 46 :: f 47 :: f 48 :: f 49 :: f 50 :: f 51 :: f 52 :: f 53 :: f 54 :: f 55 :: f 56 :: f 57 :: f 58 :: f 59 :: f 60 :: f 61 :: f 62 :: f 63 :: f 64 :: f 65 :: f 66 :: f 67 :: f 68 :: f 69 :: f 70 :: f 71 :: f 72 :: f 73 :: f 74 :: f 75 :: f 76 :: f 77 :: f 78 :: f 79 :: f 80 :: f 81 :: f 82 :: f 83 :: f 84 :: f 85 :: f 86 :: f 87 :: f 88 :: f 89 :: f 90 :: f 91 :: f 92 :: f 93 :: f 94 :: f 95 :: f 96 :: f 97 :: f 98 :: f 99 :: f 100 :: f 101 :: f 102 :: f 103 :: [])), []⟩ ∧ ∀ k, slot a k = f k := letters_vo a hs.size hs.defers
  rw [ea]
  have HS := Lib.hid hs
  have HF := Lib.hid hf
  clear hs ea hf hN hl 
  conv => arg 2; whnf
  go_wp2_with fail
  refine HN.out _ ?_
  exact Sl.add (Sl.stay [] HS.out HF.out (by kernel_rfl) rfl trivial HL.out) (by kernel_rfl)
end Go.Proofs.YthdmmhiifkebeaaDoor

namespace Go.Proofs.YthdmmhiifkebeaaDoor
open Go.RowKit Go.Sort
set_option maxRecDepth 100000

noncomputable def voTurn : Code := .seq (r_vo 19) (.seq (r_vo 20) (.seq (r_vo 21) (.seq (r_vo 22) (.seq (r_vo 23) (.seq (r_vo 24) (.seq (.seq (r_vo 25) (.cond (.tmp 101) (.seq (r_vo 26) .ret) .skip)) (r_vo 27)))))))
noncomputable def voLoop : Code := .seq (.seq (r_vo 17) (.cond (.tmp 74) .skip (.exit 0))) (.seq (.block 1 voTurn) (r_vo 18))
noncomputable def voEnd : Code := .seq (r_vo 15) (.seq (.seq (r_vo 16) (.block 0 (.loop voLoop))) (.seq (r_vo 28) .ret))
noncomputable def voMid : Code := .seq (.seq (r_vo 8) (.cond (.tmp 38) (.seq (r_vo 9) (.seq (r_vo 10) .ret)) .skip)) (.seq (.seq (r_vo 11) (.cond (.tmp 51) (.seq (r_vo 12) .ret) .skip)) (.seq (.seq (r_vo 13) (.cond (.tmp 70) (.seq (r_vo 14) .ret) .skip)) voEnd))
noncomputable def voBody : Code := .seq (r_vo 0) (.seq (r_vo 1) (.seq (.seq (r_vo 2) (.cond (.tmp 23) (.seq (r_vo 3) .ret) .skip)) (.seq (r_vo 4) (.seq (r_vo 5) (.seq (r_vo 6) (.seq (r_vo 7) voMid))))))
theorem vo_body : Tryd.f11.body = some voBody := by kernel_rfl

/-- What the law stands on from the value on: its argument's box, old memory, the value's own memory in blocks lo to hi. -/
structure VoSt (w wr : World) (h : Hd) (k : Fo) (pa : Option Addr) (pc : Nat) (ia : Option Addr) (ic : Nat) (qa : Option Addr) (qc : Nat) (ja : Option Addr) (jc : Nat) (lo hi : Nat) : Prop where
  hA : Blk wr w.heap.size 28 (h.cells pa pc ia k.len ic)
  hb : Below w.heap.size w wr
  hv : DatAt wr (fun b => lo ≤ b ∧ b < hi) h k qa qc ja jc
  hlo : w.heap.size < lo
  hhi : hi ≤ wr.heap.size
section
variable {w wr w2 : World} {h : Hd} {k : Fo} {pa : Option Addr} {pc : Nat} {ia : Option Addr} {ic : Nat} {qa : Option Addr} {qc : Nat} {ja : Option Addr} {jc lo hi : Nat}
theorem VoSt.below (s : VoSt w wr h k pa pc ia ic qa qc ja jc lo hi) (hb : Below wr.heap.size wr w2) : VoSt w w2 h k pa pc ia ic qa qc ja jc lo hi :=
  ⟨s.hA.below hb s.hA.lt, bl_trans s.hb hb, s.hv.below hb (fun _ _ h => h), s.hlo, Nat.le_trans s.hhi hb.size⟩
theorem below_spo {a b : Nat} (h1 : Below w.heap.size w wr) (hs : Spo a b wr w2) (ha : w.heap.size ≤ a) : Below w.heap.size w w2 :=
  ⟨hs.os.trans h1.os, hs.tape.trans h1.tape, hs.output.trans h1.output, Nat.le_trans h1.size hs.size, fun x hx => (hs.block x (Nat.lt_of_lt_of_le hx h1.size) (.inl (by omega))).trans (h1.block x hx)⟩
theorem VoSt.spo (s : VoSt w wr h k pa pc ia ic qa qc ja jc lo hi) {a b : Nat} (hs : Spo a b wr w2) (ha : w.heap.size < a) (hd : b ≤ lo ∨ hi ≤ a) : VoSt w w2 h k pa pc ia ic qa qc ja jc lo hi :=
  ⟨hs.blk s.hA (.inl ha), below_spo s.hb hs (by omega), s.hv.keep (fun x hx hl => hs.block x hl (by omega)) (fun _ h _ => h), s.hlo, Nat.le_trans s.hhi hs.size⟩
end

theorem of_kind {h : Hd} {k : Fo} (hr : rightB h k = true) (h0 : h.kind ≠ 0) : ∃ t, tyO h k = some t := by
  have hh := (right_ok hr).1
  by_cases hno : h.kind < 0 ∨ 9 < h.kind
  · rw [head_no hno] at hh; cases hh
  · exact tyO_some h0 (by omega) (by omega)

theorem datum_lent (h : Hd) (k : Fo) (ho : h.ok) (hk : k.ok) (hl : k.len ≤ 1034834473170) (w : World) (S : Nat → Prop) (pa : Option Addr) (pc : Nat) (ia : Option Addr) (ic : Nat) (hd : DatAt w S h k pa pc ia ic) :
    Calls Tryd.prog 143 #[.agg (h.cells pa pc ia k.len ic)] w (LentR (fun w' qa qc ja jc => DatAt w' (fun x => w.heap.size ≤ x ∧ x < w'.heap.size) h k qa qc ja jc ∧ SepD w' w.heap.size w'.heap.size h k qa ja) h k.len w) := by
  refine (datumS_any h k ho hk hl w S pa pc ia ic hd).mono ?_
  rintro e w' ⟨qa, qc, ja, jc, he, h1, h2, h3⟩
  exact ⟨qa, qc, ja, jc, he, ⟨h1.keep (fun _ _ _ => rfl) (fun b h hl => ⟨h, hl⟩), h2⟩, h3⟩

theorem ans_any (h : Hd) (k : Fo) (ho : h.ok) (hk : k.ok) (hl : k.len ≤ 1034834473170) (hr : rightB h k = true) (t : TypeId) (et : tyO h k = some t) (w : World) (S T : Nat → Prop) (pa : Option Addr) (pc : Nat) (ia : Option Addr) (ic : Nat) (qa : Option Addr) (qc : Nat) (ja : Option Addr) (jc : Nat)
    (hd : DatAt w S h k pa pc ia ic) (hv : DatAt w T h k qa qc ja jc) (hown : OwnAt w) :
    Calls Tryd.prog 40 #[.iface t (.agg (h.cells qa qc ja k.len jc)), .agg (h.cells pa pc ia k.len ic)] w fun e w' => e = .returned (.bool true) ∧ Below w.heap.size w w' := by
  have e0 := et
  unfold tyO at et
  by_cases h1 : h.kind = 1
  · rw [if_pos h1] at et; obtain rfl := Option.some.inj et
    exact ans_truth h k ho hk hl hr e0 h1 w S T pa pc ia ic qa qc ja jc hd hv hown
  rw [if_neg h1] at et
  by_cases h2 : h.kind = 2 ∨ h.kind = 3
  · rw [if_pos h2] at et; obtain rfl := Option.some.inj et
    exact ans_figure h k ho hk hl hr e0 h2 w S T pa pc ia ic qa qc ja jc hd hv hown
  rw [if_neg h2] at et
  by_cases h4 : h.kind = 4
  · rw [if_pos h4] at et; obtain rfl := Option.some.inj et
    exact ans_letter h k ho hk hl hr e0 h4 w S T pa pc ia ic qa qc ja jc hd hv hown
  rw [if_neg h4] at et
  by_cases h5 : h.kind = 5
  · rw [if_pos h5] at et; obtain rfl := Option.some.inj et
    exact ans_row h k ho hk hl hr e0 h5 w S T pa pc ia ic qa qc ja jc hd hv hown
  rw [if_neg h5] at et
  by_cases h6 : h.kind = 6 ∨ h.kind = 7
  · rw [if_pos h6] at et; obtain rfl := Option.some.inj et
    exact ans_lead h k ho hk hl hr e0 h6 w S T pa pc ia ic qa qc ja jc hd hv hown
  rw [if_neg h6] at et
  by_cases h9 : h.kind = 9
  · rw [if_pos h9] at et; obtain rfl := Option.some.inj et
    exact ans_arrow h k ho hk hl hr e0 h9 w S T pa pc ia ic qa qc ja jc hd hv hown
  rw [if_neg h9] at et
  by_cases h8 : h.kind = 8
  · rw [if_pos h8] at et
    by_cases he : heldS h k = emp
    · rw [if_pos he] at et; obtain rfl := Option.some.inj et
      exact ans_filed h k ho hk hl hr e0 h8 w S T pa pc ia ic qa qc ja jc hd hv hown
    · rw [if_neg he] at et; obtain rfl := Option.some.inj et
      exact ans_record h k ho hk hl hr e0 h8 w S T pa pc ia ic qa qc ja jc hd hv hown
  · rw [if_neg h8] at et; cases et

theorem vo_done {w w3 : World} {a4 : Act} (hd : a4.defers = []) (h : slot a4 2 = .bool true) (hb : Below w.heap.size w w3) : bodyPost Tryd.prog Tryd.f11 (fun e w' => e = .returned (.bool true) ∧ Below w.heap.size w w') .ret a4 w3 :=
  bodyPost_ret (results_tmp rfl _ _ _) hd ⟨congrArg Ending.returned h, hb⟩

theorem vo_turn (h : Hd) (k : Fo) (ho : h.ok) (hk : k.ok) (hl : k.len ≤ 1034834473170) (hr : rightB h k = true) (t : TypeId) (et : tyO h k = some t) (w w1 : World) (pa : Option Addr) (pc : Nat) (ia : Option Addr) (ic : Nat) (qa : Option Addr) (qc : Nat) (ja : Option Addr) (jc lo hi j : Nat)
    (hd : DatAt w (fun b => b < w.heap.size) h k pa pc ia ic) (hown : OwnAt w) (s : VoSt w w1 h k pa pc ia ic qa qc ja jc lo hi) (a : Act) (Q : Exit → Act → World → Prop)
    (hs : Sl 104 a [(10, .int .i64 (j : Nat)), (6, .iface t (.agg (h.cells qa qc ja k.len jc))), (1, .pointer (some ⟨w.heap.size, 0, none⟩))])
    (hN : ∀ a' w', Sl 104 a' [(10, .int .i64 (j : Nat)), (6, .iface t (.agg (h.cells qa qc ja k.len jc))), (1, .pointer (some ⟨w.heap.size, 0, none⟩))] → VoSt w w' h k pa pc ia ic qa qc ja jc lo hi → Q .normal a' w') : voTurn.wp Tryd.prog Q a w1 := by
  have ht := tyO_val et
  unfold voTurn
  refine wp_seq (vo_r19 a w1 _ _ _ hs rfl h k.len t qa qc ja jc ht _ (datum_lent h k ho hk hl w1 _ qa qc ja jc s.hv) rfl fun a2 w2 ra rc ya yc h2 ⟨da, sa⟩ hb2 => ?_)
  have sw2 := s.below hb2
  have hz2 := sw2.hb.size
  have hA2 : Blk (w2.alloc (.cells (h.cells ra rc ya k.len yc) 28)) w2.heap.size 28 (h.cells ra rc ya k.len yc) := Blk.new _ _ _
  have hb2' : Below w2.heap.size w2 (w2.alloc (.cells (h.cells ra rc ya k.len yc) 28)) := (Below.refl _ _).alloc (Nat.le_refl _) _
  have hz3 : (w2.alloc (.cells (h.cells ra rc ya k.len yc) 28)).heap.size = w2.heap.size + 1 := by simp
  generalize w2.alloc (.cells (h.cells ra rc ya k.len yc) 28) = w3 at hA2 hb2' hz3 ⊢
  have s3 := sw2.below hb2'
  have da3 := da.below hb2' (fun b h _ => h.2)
  have sa3 : SepD w3 w1.heap.size w2.heap.size h k ra ya := sa.keep fun x _ h2 _ => hb2'.block x h2
  clear da sa sw2
  refine wp_seq (vo_r20 a2 w3 _ _ _ h2 rfl h k.len t qa qc ja jc ht _ (datum_lent h k ho hk hl w3 _ qa qc ja jc s3.hv) rfl fun a4 w4 rb rd yb yd h4 ⟨db, sb⟩ hb4 => ?_)
  have sw4 := s3.below hb4
  have hA4 := hA2.below hb4 hA2.lt
  have da4 := da3.below hb4 (fun b h _ => by have := h.2; omega)
  have sa4 : SepD w4 w1.heap.size w2.heap.size h k ra ya := sa3.keep fun x _ h2 _ => hb4.block x (by omega)
  have hz4 := hb4.size
  have hB4 : Blk (w4.alloc (.cells (h.cells rb rd yb k.len yd) 28)) w4.heap.size 28 (h.cells rb rd yb k.len yd) := Blk.new _ _ _
  have hb4' : Below w4.heap.size w4 (w4.alloc (.cells (h.cells rb rd yb k.len yd) 28)) := (Below.refl _ _).alloc (Nat.le_refl _) _
  have hz5 : (w4.alloc (.cells (h.cells rb rd yb k.len yd) 28)).heap.size = w4.heap.size + 1 := by simp
  generalize w4.alloc (.cells (h.cells rb rd yb k.len yd) 28) = w5 at hB4 hb4' hz5 ⊢
  have s5 := sw4.below hb4'
  have hA5 := hA4.below hb4' hA4.lt
  have da5 := da4.below hb4' (fun b h _ => by have := h.2; omega)
  have sa5 : SepD w5 w1.heap.size w2.heap.size h k ra ya := sa4.keep fun x _ h2 _ => hb4'.block x (by omega)
  have db5 := db.below hb4' (fun b h _ => h.2)
  have sb5 : SepD w5 w3.heap.size w4.heap.size h k rb yb := sb.keep fun x _ h2 _ => hb4'.block x h2
  clear da3 sa3 da4 sa4 db sb sw4 s3 hA2 hA4
  have hd5 := hd.below s5.hb (fun _ h _ => h)
  have hsame : ∀ (W : World) (S T : Nat → Prop) (xa : Option Addr) (xc : Nat) (za : Option Addr) (zc : Nat), DatAt W S h k xa xc za zc → DatAt W T h k pa pc ia ic →
      Calls Tryd.prog 31 #[.agg (h.cells xa xc za k.len zc), .agg (h.cells pa pc ia k.len ic)] W fun e w' => e = .returned (.bool true) ∧ Below W.heap.size W w' := fun W S T xa xc za zc h1 h2 => by
    have := rsame_any h k h k ho hk hl ho hk W S T xa xc za zc pa pc ia ic h1 h2
    rwa [sameD_refl] at this
  refine wp_seq (vo_r21 a4 w5 _ _ _ h4 rfl h ra rc ya k.len yc w2.heap.size hA5 pa pc ia ic w.heap.size s5.hA (hsame w5 _ _ ra rc ya yc da5 hd5) rfl rfl fun a6 w6 h6 hb6 => ?_)
  have s6 := s5.below hb6
  have hA6 := hA5.below hb6 hA5.lt
  have hB6 := hB4.below hb6 hB4.lt
  have hz6 := hb6.size
  have sa6 : SepD w6 w1.heap.size w2.heap.size h k ra ya := sa5.keep fun x _ h2 _ => hb6.block x (by omega)
  have db6 := db5.below hb6 (fun b h _ => by have := h.2; omega)
  have sb6 : SepD w6 w3.heap.size w4.heap.size h k rb yb := sb5.keep fun x _ h2 _ => hb6.block x (by omega)
  clear da5 sa5 db5 sb5 hA5 hB4
  refine wp_seq (vo_r22 a6 w6 _ _ _ (h6.none.add (h6.look 1 rfl) |>.add (h6.look 6 rfl) |>.add (h6.look 10 rfl) |>.add (h6.look 12 rfl) |>.add (h6.look 13 rfl)) rfl h ra rc ya k.len yc w2.heap.size hA6 _ (spoil_any h k ho hk hl w6 w1.heap.size w2.heap.size ra rc ya yc (by omega) sa6) (h6.look 11 rfl) fun a7 w7 h7 hs7 => ?_)
  have hlo := s.hlo
  have hhi := s.hhi
  have hltA := s.hA.lt
  have hz12 := hb2.size
  have s7 := s6.spo hs7 (by omega) (.inr hhi)
  have hB7 := hs7.blk hB6 (.inr (by omega))
  have hz7 := hs7.size
  have db7 : DatAt w7 _ h k rb rd yb yd := db6.keep (fun x hx hl => hs7.block x hl (by have := hx.1; omega)) (fun _ h _ => h)
  have sb7 : SepD w7 w3.heap.size w4.heap.size h k rb yb := sb6.keep fun x h1 _ hl => hs7.block x hl (by omega)
  clear db6 sb6 hB6 sa6 hA6
  have hd7 := hd.below s7.hb (fun _ h _ => h)
  refine wp_seq (vo_r23 a7 w7 _ _ _ h7 rfl h rb rd yb k.len yd w4.heap.size hB7 pa pc ia ic w.heap.size s7.hA (hsame w7 _ _ rb rd yb yd db7 hd7) rfl rfl fun a8 w8 h8 hb8 => ?_)
  have s8 := s7.below hb8
  have hB8 := hB7.below hb8 hB7.lt
  have hz8 := hb8.size
  have sb8 : SepD w8 w3.heap.size w4.heap.size h k rb yb := sb7.keep fun x _ h2 _ => hb8.block x (by omega)
  clear db7 sb7 hB7
  have hd8 := hd.below s8.hb (fun _ h _ => h)
  refine wp_seq (vo_r24 a8 w8 _ _ _ h8 rfl h pa pc ia k.len ic w.heap.size s8.hA _ (ans_any h k ho hk hl hr t et w8 _ _ pa pc ia ic qa qc ja jc hd8 s8.hv (hown.below s8.hb (Nat.le_refl _))) rfl rfl fun a9 w9 h9 hb9 => ?_)
  have s9 := s8.below hb9
  have hB9 := hB8.below hb9 hB8.lt
  have hz9 := hb9.size
  have sb9 : SepD w9 w3.heap.size w4.heap.size h k rb yb := sb8.keep fun x _ h2 _ => hb9.block x (by omega)
  clear sb8 hB8
  refine wp_seq (wp_seq (vo_r25 a9 w9 _ _ _ (h9.none.add (h9.look 1 rfl) |>.add (h9.look 6 rfl) |>.add (h9.look 10 rfl) |>.add (h9.look 12 rfl)) rfl (h9.look 13 rfl) (h9.look 14 rfl) (h9.look 15 rfl) fun a10 h10 => ?_))
  refine wpc_off (h10.look 101 rfl) ?_
  refine wp_then ?_
  refine vo_r27 a10 w9 _ _ _ (h10.none.add (h10.look 1 rfl) |>.add (h10.look 6 rfl) |>.add (h10.look 10 rfl)) rfl h rb rd yb k.len yd w4.heap.size hB9 _ (spoil_any h k ho hk hl w9 w3.heap.size w4.heap.size rb rd yb yd (by omega) sb9) (h10.look 12 rfl) fun a11 w11 h11 hs11 => ?_
  exact hN a11 w11 h11 (s9.spo hs11 (by omega) (.inr (by omega)))

theorem vo_end (h : Hd) (k : Fo) (ho : h.ok) (hk : k.ok) (hl : k.len ≤ 1034834473170) (hr : rightB h k = true) (t : TypeId) (et : tyO h k = some t) (w w1 : World) (pa : Option Addr) (pc : Nat) (ia : Option Addr) (ic : Nat) (qa : Option Addr) (qc : Nat) (ja : Option Addr) (jc lo hi : Nat)
    (ra : Option Addr) (rc : Nat) (ya : Option Addr) (yc X a0 b0 : Nat) (hd : DatAt w (fun b => b < w.heap.size) h k pa pc ia ic) (hown : OwnAt w) (s : VoSt w w1 h k pa pc ia ic qa qc ja jc lo hi) (a : Act)
    (hX : Blk w1 X 28 (h.cells ra rc ya k.len yc)) (hsep : SepD w1 a0 b0 h k ra ya) (ha0 : w.heap.size < a0) (hb0 : b0 ≤ lo) (hb1 : b0 ≤ w1.heap.size)
    (hs : Sl 104 a [(6, .iface t (.agg (h.cells qa qc ja k.len jc))), (1, .pointer (some ⟨w.heap.size, 0, none⟩))]) (hs5 : slot a 5 = .pointer (some ⟨X, 0, none⟩)) :
    voEnd.wp Tryd.prog (bodyPost Tryd.prog Tryd.f11 (fun e w' => e = .returned (.bool true) ∧ Below w.heap.size w w')) a w1 := by
  unfold voEnd
  refine wp_seq (vo_r15 a w1 _ _ _ hs rfl h ra rc ya k.len yc X hX _ (spoil_any h k ho hk hl w1 a0 b0 ra rc ya yc hb1 hsep) hs5 fun a2 w2 h2 hs2 => ?_)
  have s2 := s.spo hs2 ha0 (.inl hb0)
  refine wp_seq (wp_seq (vo_r16 a2 w2 _ _ _ h2 rfl fun a3 h3 => ?_))
  refine wp_block ?_
  refine wp_loop (fun a' wr => ∃ j : Nat, j ≤ 2 ∧ Sl 104 a' [(10, .int .i64 (j : Nat)), (6, .iface t (.agg (h.cells qa qc ja k.len jc))), (1, .pointer (some ⟨w.heap.size, 0, none⟩))] ∧ VoSt w wr h k pa pc ia ic qa qc ja jc lo hi)
    (fun a' _ => muTo 2 (slot a' 10)) ⟨0, by omega, h3, s2⟩ ?_
  rintro a4 wr ⟨j, hj, h4, s4⟩
  rw [h4.look 10 rfl, muTo_int]
  unfold voLoop
  refine wp_seq (wp_seq ?_)
  by_cases hlt : j < 2
  · refine vo_r17T a4 wr _ _ _ h4 rfl j hlt rfl fun a5 h5 => ?_
    refine wpc_on (h5.look 74 rfl) ?_
    refine wp_seq (wp_block ?_)
    refine vo_turn h k ho hk hl hr t et w wr pa pc ia ic qa qc ja jc lo hi j hd hown s4 a5 _ h5.tl fun a6 w6 h6 s6 => ?_
    show Code.wp _ (r_vo 18) _ a6 w6
    refine vo_r18 a6 w6 _ _ _ h6.tl rfl j hlt (h6.look 10 rfl) fun a7 h7 => ⟨⟨j + 1, by omega, h7, s6⟩, ?_⟩
    rw [h7.look 10 rfl, muTo_int]
    omega
  · refine vo_r17F a4 wr _ _ _ h4 rfl j (by omega) rfl fun a5 h5 => ?_
    refine wpc_exit (h5.look 74 rfl) ?_
    refine then_exit (then_exit (in_block' ?_))
    show Code.wp _ (Code.seq (r_vo 28) .ret) _ a5 wr
    refine wp_seq (vo_r28 a5 wr _ _ _ h5.none rfl fun a6 h6 => wp_ret ?_)
    exact vo_done h6.defers (h6.look 2 rfl) (s4.hb)

set_option maxHeartbeats 1000000 in
theorem valueOf_any (h : Hd) (k : Fo) (ho : h.ok) (hk : k.ok) (hl : k.len ≤ 1034834473170) (w : World) (S : Nat → Prop) (pa : Option Addr) (pc : Nat) (ia : Option Addr) (ic : Nat) (hd : DatAt w S h k pa pc ia ic) (hown : OwnAt w) :
    Calls Tryd.prog 11 #[.agg (h.cells pa pc ia k.len ic)] w fun e w' => e = .returned (.bool true) ∧ Below w.heap.size w w' := by
  replace hd : DatAt w (fun b => b < w.heap.size) h k pa pc ia ic := hd.keep (fun _ _ _ => rfl) (fun b _ h => h)
  refine calls_of_wp Tryd.func11 vo_body ?_
  have h0 : Sl 104 { tmps := #[Value.agg (h.cells pa pc ia k.len ic)] ++ Array.replicate (Tryd.f11.ntmps - #[Value.agg (h.cells pa pc ia k.len ic)].size) undef, defers := [] } [(0, .agg (h.cells pa pc ia k.len ic))] :=
    ⟨by simp [Tryd.ntmps11], rfl, fun p hp => by
      simp only [List.mem_cons, List.not_mem_nil, or_false] at hp
      subst hp
      simp [slot]⟩
  generalize { tmps := #[Value.agg (h.cells pa pc ia k.len ic)] ++ Array.replicate (Tryd.f11.ntmps - #[Value.agg (h.cells pa pc ia k.len ic)].size) undef, defers := [] : Act } = a0 at h0 ⊢
  unfold voBody
  refine wp_seq (vo_r0 a0 w _ _ _ h0.none rfl h pa pc ia k.len ic (h0.look 0 rfl) fun a1 h1 => ?_)
  have hA1 : Blk (w.alloc (.cells (h.cells pa pc ia k.len ic) 28)) w.heap.size 28 (h.cells pa pc ia k.len ic) := Blk.new _ _ _
  have hb1 : Below w.heap.size w (w.alloc (.cells (h.cells pa pc ia k.len ic) 28)) := (Below.refl _ _).alloc (Nat.le_refl _) _
  have hz1 : (w.alloc (.cells (h.cells pa pc ia k.len ic) 28)).heap.size = w.heap.size + 1 := by simp
  generalize w.alloc (.cells (h.cells pa pc ia k.len ic) 28) = w1 at hA1 hb1 hz1 ⊢
  refine wp_seq (vo_r1 a1 w1 _ _ _ h1 rfl (known_any w1 (hown.below hb1 (Nat.le_refl _))) fun a2 w2 h2 hb2 => ?_)
  have hA2 := hA1.below hb2 hA1.lt
  have hbw2 := bl_trans hb1 hb2
  have hz2 := hb2.size
  refine wp_seq (wp_seq (vo_r2 a2 w2 _ _ _ h2 rfl h pa pc ia k.len ic w.heap.size hA2 (wide_any h k ho hk hl 5000 w2 _ pa pc ia ic (by decide) (by decide) (hd.below hbw2 (fun _ h _ => h))) rfl rfl fun a3 w3 b h3 _ hb3 => ?_))
  have hA3 := hA2.below hb3 hA2.lt
  have hbw3 := bl_trans hbw2 hb3
  have hz3 := hb3.size
  clear hA1 hA2 hb1 hb2 hbw2 hb3
  cases b with
  | true =>
    refine wp_cond_true (h3.look 23 rfl) ?_
    refine wp_seq (vo_r3 a3 w3 _ _ _ h3.none rfl (h3.look 3 rfl) fun a4 h4 => wp_ret ?_)
    exact vo_done h4.defers (h4.look 2 rfl) (hbw3)
  | false =>
    refine wpc_off (h3.look 23 rfl) ?_
    refine wp_seq (vo_r4 a3 w3 _ _ _ (h3.none.add (h3.look 1 rfl)) rfl h pa pc ia k.len ic w.heap.size hA3 (rightB h k) (refRight_any h k ho hk hl w3 _ pa pc ia ic (hd.below hbw3 (fun _ h _ => h))) rfl fun a4 w4 h4 hb4 => ?_)
    have hA4 := hA3.below hb4 hA3.lt
    have hbw4 := bl_trans hbw3 hb4
    have hz4 := hb4.size
    clear hA3 hbw3 hb4
    refine wp_seq (vo_r5 a4 w4 _ _ _ h4 rfl h pa pc ia k.len ic w.heap.size hA4 (fun w' qa qc ja jc => LD w' w4.heap.size w'.heap.size h k qa qc ja jc) (lent_any h k ho hk hl w4 _ pa pc ia ic (hd.below hbw4 (fun _ h _ => h))) rfl fun a5 w5 ra rc ya yc h5 hL5 hb5 => ?_)
    have hA5 := hA4.below hb5 hA4.lt
    have hbw5 := bl_trans hbw4 hb5
    have hz5 := hb5.size
    clear hA4 hbw4 hb5
    have hX5 : Blk (w5.alloc (.cells (h.cells ra rc ya k.len yc) 28)) w5.heap.size 28 (h.cells ra rc ya k.len yc) := Blk.new _ _ _
    have hb6 : Below w5.heap.size w5 (w5.alloc (.cells (h.cells ra rc ya k.len yc) 28)) := (Below.refl _ _).alloc (Nat.le_refl _) _
    have hz6 : (w5.alloc (.cells (h.cells ra rc ya k.len yc) 28)).heap.size = w5.heap.size + 1 := by simp
    generalize w5.alloc (.cells (h.cells ra rc ya k.len yc) 28) = w6 at hX5 hb6 hz6 ⊢
    have hA6 := hA5.below hb6 hA5.lt
    have hbw6 := bl_trans hbw5 hb6
    have hL6 : LD w6 w4.heap.size w5.heap.size h k ra rc ya yc := hL5.keep fun x _ h2 _ => hb6.block x h2
    clear hA5 hbw5 hb6 hL5
    refine wp_seq (vo_r6 a5 w6 _ _ _ h5 rfl h ra rc ya k.len yc w5.heap.size hX5 (fun w' v ev => OfPost h k w6 (.returned (.tuple #[v, ev])) w') ?_ rfl fun a6 w7 v ev h6 hO hb7 => ?_)
    · refine (of_any h k ho hk hl w6 _ ra rc ya yc hL6.dat (hown.below hbw6 (Nat.le_refl _))).mono fun e w' hp => ?_
      obtain ⟨hb, hp'⟩ := id hp
      by_cases hr : rightB h k = true
      · rw [if_pos hr] at hp'
        obtain ⟨v, rfl, _⟩ := hp'
        exact ⟨v, _, rfl, hp, hb⟩
      · rw [if_neg hr] at hp'
        obtain ⟨v, rfl, _⟩ := hp'
        exact ⟨_, v, rfl, hp, hb⟩
    have hA7 := hA6.below hb7 hA6.lt
    have hX7 := hX5.below hb7 hX5.lt
    have hbw7 := bl_trans hbw6 hb7
    have hz7 := hb7.size
    have hL7 : LD w7 w4.heap.size w5.heap.size h k ra rc ya yc := hL6.keep fun x _ h2 _ => hb7.block x (by omega)
    clear hA6 hX5 hbw6 hb7 hL6
    refine wp_seq (vo_r7 a6 w7 _ _ _ h6 rfl h ra rc ya k.len yc w5.heap.size hX7 pa pc ia ic w.heap.size hA7 (kept_any h k ho hk hl w7 _ _ _ ra rc ya yc pa pc ia ic hL7 (hd.below hbw7 (fun _ h _ => h))) rfl rfl fun a7 w8 h7 hb8 => ?_)
    have hA8 := hA7.below hb8 hA7.lt
    have hX8 := hX7.below hb8 hX7.lt
    have hbw8 := bl_trans hbw7 hb8
    have hz8 := hb8.size
    have hL8 : LD w8 w4.heap.size w5.heap.size h k ra rc ya yc := hL7.keep fun x _ h2 _ => hb8.block x (by omega)
    clear hA7 hX7 hbw7 hL7
    unfold voMid
    obtain ⟨_, hO⟩ := hO
    cases hr : rightB h k with
    | false =>
      rw [hr] at hO h7
      rw [if_neg (by decide)] at hO
      obtain ⟨v', he, hW⟩ := hO
      injection he with he
      injection he with he
      injection he with he
      injection he with he1 he
      injection he with he2 _
      subst he1 he2
      refine wp_seq (wp_seq (vo_r8 a7 w8 _ _ _ h7 rfl false rfl fun a8 h8 => ?_))
      refine wp_cond_true (h8.look 38 rfl) ?_
      refine wp_seq (vo_r9 a8 w8 _ _ _ (h8.none.add (h8.look 6 rfl) |>.add (h8.look 7 rfl) |>.add (h8.look 8 rfl)) rfl ev (lawWrong_any w6 w8 ev .wrong (WrongAt.keep hW hb8)) rfl fun a9 w9 h9 hb9 => ?_)
      refine wp_seq (vo_r10 a9 w9 _ _ _ h9.none rfl (h9.look 8 rfl) (h9.look 6 rfl) (h9.look 9 rfl) fun a10 h10 => wp_ret ?_)
      exact vo_done h10.defers (h10.look 2 rfl) (bl_trans hbw8 hb9)
    | true =>
      rw [hr] at hO h7
      rw [if_pos rfl] at hO
      obtain ⟨v', he, hV⟩ := hO
      injection he with he
      injection he with he
      injection he with he
      injection he with he1 he
      injection he with he2 _
      subst he1 he2
      refine wp_seq (wp_seq (vo_r8 a7 w8 _ _ _ h7 rfl true rfl fun a8 h8 => ?_))
      refine wpc_off (h8.look 38 rfl) ?_
      by_cases hk0 : h.kind = 0
      · have hn : v = .nilIface := by unfold ValAt at hV; rw [tyO_none hk0] at hV; exact hV
        subst hn
        refine wp_seq (wp_seq (vo_r11 a8 w8 _ _ _ h8.tl rfl h pa pc ia k.len ic w.heap.size hA8 true (by simpa using hk0) rfl fun a9 h9 => ?_))
        refine wp_cond_true (h9.look 51 rfl) ?_
        refine wp_seq (vo_r12 a9 w8 _ _ _ h9.none rfl (h9.look 8 rfl) (h9.look 6 rfl) (h9.look 7 rfl) fun a10 h10 => wp_ret ?_)
        exact vo_done h10.defers (h10.look 2 rfl) (hbw8)
      · obtain ⟨t, et⟩ := of_kind hr hk0
        unfold ValAt at hV
        rw [et] at hV
        obtain ⟨qa, qc, ja, jc, rfl, hv⟩ := hV
        refine wp_seq (wp_seq (vo_r11 a8 w8 _ _ _ h8.tl rfl h pa pc ia k.len ic w.heap.size hA8 false (by simpa using hk0) rfl fun a9 h9 => ?_))
        refine wpc_off (h9.look 51 rfl) ?_
        refine wp_seq (wp_seq (vo_r13 a9 w8 _ _ _ (h9.none.add (h9.look 1 rfl) |>.add (h9.look 5 rfl) |>.add (h9.look 6 rfl)) rfl t _ rfl (h9.look 7 rfl) (h9.look 8 rfl) fun a10 h10 => ?_))
        refine wpc_off (h10.look 70 rfl) ?_
        show Code.wp _ voEnd _ a10 w8
        refine vo_end h k ho hk hl hr t et w w8 pa pc ia ic qa qc ja jc w6.heap.size w7.heap.size ra rc ya yc w5.heap.size w4.heap.size w5.heap.size hd hown ⟨hA8, hbw8, ?_, by omega, hz8⟩ a10 hX8 hL8.sep (by omega) (by omega) (by omega) (h10.none.add (h10.look 1 rfl) |>.add (h10.look 6 rfl)) (h10.look 5 rfl)
        exact (hv.keep (S' := fun b => w6.heap.size ≤ b ∧ b < w7.heap.size) (fun _ _ _ => rfl) (fun b h hl => ⟨h, hl⟩)).below hb8 (fun _ h _ => h.2)
end Go.Proofs.YthdmmhiifkebeaaDoor
