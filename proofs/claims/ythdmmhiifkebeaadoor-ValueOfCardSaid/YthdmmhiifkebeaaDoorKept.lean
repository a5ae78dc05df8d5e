/-
  The regions of the law's kept, one by one. Contract of the law's kept: it finds a lent datum as it was. Written by an AI agent.
-/
import Derived.Test.YthdmmhiifkebeaaDoorLent
import Derived.Test.YthdmmhiifkebeaaDoorQ
import Derived.Test.YthdmmhiifkebeaaDoorLent
import Derived.Test.YthdmmhiifkebeaaDoorSm
import Derived.Test.YthdmmhiifkebeaaDoorSmLaw
namespace Go.Proofs.YthdmmhiifkebeaaDoor
open Go.RowKit Go.Sort
set_option maxRecDepth 100000
theorem letters_kp (a : Act) (h1 : a.tmps.size = 117) (h2 : a.defers = []) : ∃ f : Nat → Value, a = ⟨(List.toArray (f 0 :: f 1 :: f 2 :: f 3 :: f 4 :: f 5 :: f 6 :: f 7 :: f 8 :: f 9 :: f 10 :: f 11 :: f 12 :: f 13 :: f 14 :: f 15 :: f 16 :: f 17 :: f 18 :: f 19 :: f 20 :: f 21 :: f 22 :: f 23 :: f 24 :: f 25 :: f 26 :: f 27 :: f 28 :: f 29 :: f 30 :: f 31 :: f 32 :: f 33 :: f 34 :: f 35 :: f 36 :: f 37 :: f 38 :: f 39 :: f 40 :: f 41 :: f 42 :: f 43 :: f 44 :: f 45 :: f 46 :: f 47 :: f 48 :: f 49 :: f 50 :: f 51 :: f 52 :: f 53 :: f 54 :: f 55 :: f 56 :: f 57 :: f 58 :: f 59 :: f 60 :: f 61 :: f 62 :: f 63 :: f 64 :: f 65 :: f 66 :: f 67 :: f 68 :: f 69 :: f 70 :: f 71 :: f 72 :: f 73 :: f 74 :: f 75 :: f 76 :: f 77 :: f 78 :: f 79 :: f 80 :: f 81 :: f 82 :: f 83 :: f 84 :: f 85 :: f 86 :: f 87 :: f 88 :: f 89 :: f 90 :: f 91 :: f 92 :: f 93 :: f 94 :: f 95 :: f 96 :: f 97 :: f 98 :: f 99 :: f 100 :: f 101 :: f 102 :: f 103 :: f 104 :: f 105 :: f 106 :: f 107 :: f 108 :: f 109 :: f 110 :: f 111 :: f 112 :: f 113 :: f 114 :: f 115 :: f 116 :: [])), []⟩ ∧ ∀ k, slot a k = f k :=
  ⟨slot a, (spread a 117 h1 h2).trans (by kernel_rfl), fun _ => rfl⟩
noncomputable def r_kp (n : Nat) : Code := ((Tryd.f38.body.bind (findR n)).getD .skip)
set_option maxHeartbeats 4000000 in
theorem kp_r0 (a : Act) (w : World) (N : Act → World → Prop) (Q : Exit → Act → World → Prop) (l : List (Nat × Value)) (hs : Sl 117 a l) (hl : (l.map Prod.fst).all (fun k => [].contains k) = true)
    (h : Hd) (pa : Option Addr) (pc : Nat) (ia : Option Addr) (n ic : Nat) (pa' : Option Addr) (pc' : Nat) (ia' : Option Addr) (ic' : Nat)  (h0 : slot a 0 = .agg (h.cells pa pc ia n ic)) (h1 : slot a 1 = .agg (h.cells pa' pc' ia' n ic'))
    (hN : ∀ a' w', Sl 117 a' ((3, .pointer (some ⟨w.heap.size + 1, 0, none⟩)) :: ((2, .pointer (some ⟨w.heap.size, 0, none⟩)) :: l)) → Blk w' w.heap.size 28 (h.cells pa pc ia n ic) → Blk w' (w.heap.size + 1) 28 (h.cells pa' pc' ia' n ic') → Below w.heap.size w w' → N a' w') : (r_kp 0).wp Tryd.prog (Exit.then N Q) a w := by
  have HN := Lib.hid hN
  have HL := Lib.hid hl
  have e0 := h0
  have e1 := h1
  obtain ⟨f, ea, hf⟩ : ∃ f : Nat → Value, a = ⟨(List.toArray (f 0 :: f 1 :: f 2 :: f 3 :: f 4 :: f 5 :: f 6 :: f 7 :: f 8 :: f 9 :: f 10 :: f 11 :: f 12 :: f 13 :: f 14 :: f 15 :: f 16 :: f 17 :: f 18 :: f 19 :: f 20 :: f 21 :: f 22 :: f 23 :: f 24 :: f 25 :: f 26 :: f 27 :: f 28 :: f 29 :: f 30 :: f 31 :: f 32 :: f 33 :: f 34 :: f 35 :: f 36 :: f 37 :: f 38 :: f 39 :: f 40 :: f 41 :: f 42 :: f 43 :: f 44 :: f 45 :: f 46 :: f 47 :: f 48 :: f 49 :: f 50 :: f 51 :: f 52 :: f 53 :: f 54 :: f 55 :: f 56 :: f 57 :: f 58 :: f 59 :: f 60 :: f 61 :: f 62 :: f 63 :: f 64 :: f 65 :: f 66 :: f 67 :: f 68 :: f 69 :: f 70 :: f 71 :: f 72 :: f 73 :: f 74 :: f 75 :: f 76 :: f 77 :: f 78 :: f 79 :: f 80 :: f 81 :: f 82 :: f 83 :: f 84 :: f 85 :: f 86 :: f 87 :: f 88 :: f 89 :: f 90 :: f 91 :: f 92 :: f 93 :: f 94 :: f 95 :: f 96 :: f 97 :: f 98 :: f 99 :: f 100 :: f 101 :: f 102 :: f 103 :: f 104 :: f 105 :: f 106 :: f 107 :: f 108 :: f 109 :: f 110 :: f 111 :: f 112 :: f 113 :: f 114 :: f 115 :: f 116 :: [])), []⟩ ∧ ∀ k, slot a k = f k := letters_kp a hs.size hs.defers
  rw [hf] at e0 e1
  rw [ea, e0, e1]
  have HS := Lib.hid hs
  have HF := Lib.hid hf
  have E0 := Lib.hid e0
  have E1 := Lib.hid e1
  clear hs ea hf hN hl h0 e0 h1 e1
  unfold Hd.cells
  conv => arg 2; whnf
  go_wp2_with fail
  refine HN.out _ _ ?_ ((Blk.new _ _ _).alloc _) (Blk.new1 _ _ _ _) (by ((repeat' (first | exact Below.refl _ _ | assumption | (refine bl_alloc ?_ _) | (refine Below.drew ?_) | (refine below_drewN ?_ _) | (refine Below.setCell ?_ ?_ _) | (refine bl_trans ?_ (by assumption)))) <;> first | omega | (simp; done) | (simp; omega)))
  exact Sl.add (Sl.add (Sl.stay [] HS.out HF.out (by kernel_rfl) rfl trivial HL.out) (by kernel_rfl)) (by kernel_rfl)
set_option maxHeartbeats 4000000 in
theorem kp_r1 (a : Act) (w : World) (N : Act → World → Prop) (Q : Exit → Act → World → Prop) (l : List (Nat × Value)) (hs : Sl 117 a l) (hl : (l.map Prod.fst).all (fun k => [2, 3].contains k) = true)
    (h : Hd) (pa : Option Addr) (pc : Nat) (ia : Option Addr) (n ic : Nat) (A : Nat) (hA : Blk w A 28 (h.cells pa pc ia n ic)) (pa' : Option Addr) (pc' : Nat) (ia' : Option Addr) (ic' : Nat) (B : Nat) (hB : Blk w B 28 (h.cells pa' pc' ia' n ic'))  (h2 : l.lookup 2 = some (.pointer (some ⟨A, 0, none⟩))) (h3 : l.lookup 3 = some (.pointer (some ⟨B, 0, none⟩)))
    (hN : ∀ a', Sl 117 a' ((28, .bool false) :: l) → N a' (w)) : (r_kp 1).wp Tryd.prog (Exit.then N Q) a w := by
  have HN := Lib.hid hN
  have HL := Lib.hid hl
  have e2 := hs.look 2 h2
  have e3 := hs.look 3 h3
  obtain ⟨f, ea, hf⟩ : ∃ f : Nat → Value, a = ⟨(List.toArray (f 0 :: f 1 :: f 2 :: f 3 :: f 4 :: f 5 :: f 6 :: f 7 :: f 8 :: f 9 :: f 10 :: f 11 :: f 12 :: f 13 :: f 14 :: f 15 :: f 16 :: f 17 :: f 18 :: f 19 :: f 20 :: f 21 :: f 22 :: f 23 :: f 24 :: f 25 :: f 26 :: f 27 :: f 28 :: f 29 :: f 30 :: f 31 :: f 32 :: f 33 :: f 34 :: f 35 :: f 36 :: f 37 :: f 38 :: f 39 :: f 40 :: f 41 :: f 42 :: f 43 :: f 44 :: f 45 :: f 46 :: f 47 :: f 48 :: f 49 :: f 50 :: f 51 :: f 52 :: f 53 :: f 54 :: f 55 :: f 56 :: f 57 :: f 58 :: f 59 :: f 60 :: f 61 :: f 62 :: f 63 :: f 64 :: f 65 :: f 66 :: f 67 :: f 68 :: f 69 :: f 70 :: f 71 :: f 72 :: f 73 :: f 74 :: f 75 :: f 76 :: f 77 :: f 78 :: f 79 :: f 80 :: f 81 :: f 82 :: f 83 :: f 84 :: f 85 :: f 86 :: f 87 :: f 88 :: f 89 :: f 90 :: f 91 :: f 92 :: f 93 :: f 94 :: f 95 :: f 96 :: f 97 :: f 98 :: f 99 :: f 100 :: f 101 :: f 102 :: f 103 :: f 104 :: f 105 :: f 106 :: f 107 :: f 108 :: f 109 :: f 110 :: f 111 :: f 112 :: f 113 :: f 114 :: f 115 :: f 116 :: [])), []⟩ ∧ ∀ k, slot a k = f k := letters_kp a hs.size hs.defers
  rw [hf] at e2 e3
  rw [ea, e2, e3]
  have HS := Lib.hid hs
  have HF := Lib.hid hf
  have E2 := Lib.hid e2
  have E3 := Lib.hid e3
  clear hs ea hf hN hl h2 e2 h3 e3
  have hnn : ((n : Int) != (n : Int)) = false := by simp
  have hpp : ((h.path.length : Int) != (h.path.length : Int)) = false := by simp
  obtain ⟨c0, c1, c2, c3, c4, c5, c6, c7, c8, c9, c10⟩ := (CellsAt.of_blk hA).box
  clear hA
  obtain ⟨d0, d1, d2, d3, d4, d5, d6, d7, d8, d9, d10⟩ := (CellsAt.of_blk hB).box
  clear hB
  conv => arg 2; whnf
  go_wp2_with fail
  refine HN.out _ ?_
  exact Sl.add (Sl.stay [2, 3] HS.out HF.out (by kernel_rfl) rfl ⟨Eq.trans (by kernel_rfl) E2.out.symm, Eq.trans (by kernel_rfl) E3.out.symm, trivial⟩ HL.out) (by kernel_rfl)
set_option maxHeartbeats 4000000 in
theorem kp_r3 (a : Act) (w : World) (N : Act → World → Prop) (Q : Exit → Act → World → Prop) (l : List (Nat × Value)) (hs : Sl 117 a l) (hl : (l.map Prod.fst).all (fun k => [2, 3].contains k) = true)
    (h : Hd) (pa : Option Addr) (pc : Nat) (ia : Option Addr) (n ic : Nat) (A : Nat) (hA : Blk w A 28 (h.cells pa pc ia n ic))  (h2 : l.lookup 2 = some (.pointer (some ⟨A, 0, none⟩)))
    (hN : ∀ a', Sl 117 a' ((31, .bool ia.isSome) :: l) → N a' (w)) : (r_kp 3).wp Tryd.prog (Exit.then N Q) a w := by
  have HN := Lib.hid hN
  have HL := Lib.hid hl
  have e2 := hs.look 2 h2
  obtain ⟨f, ea, hf⟩ : ∃ f : Nat → Value, a = ⟨(List.toArray (f 0 :: f 1 :: f 2 :: f 3 :: f 4 :: f 5 :: f 6 :: f 7 :: f 8 :: f 9 :: f 10 :: f 11 :: f 12 :: f 13 :: f 14 :: f 15 :: f 16 :: f 17 :: f 18 :: f 19 :: f 20 :: f 21 :: f 22 :: f 23 :: f 24 :: f 25 :: f 26 :: f 27 :: f 28 :: f 29 :: f 30 :: f 31 :: f 32 :: f 33 :: f 34 :: f 35 :: f 36 :: f 37 :: f 38 :: f 39 :: f 40 :: f 41 :: f 42 :: f 43 :: f 44 :: f 45 :: f 46 :: f 47 :: f 48 :: f 49 :: f 50 :: f 51 :: f 52 :: f 53 :: f 54 :: f 55 :: f 56 :: f 57 :: f 58 :: f 59 :: f 60 :: f 61 :: f 62 :: f 63 :: f 64 :: f 65 :: f 66 :: f 67 :: f 68 :: f 69 :: f 70 :: f 71 :: f 72 :: f 73 :: f 74 :: f 75 :: f 76 :: f 77 :: f 78 :: f 79 :: f 80 :: f 81 :: f 82 :: f 83 :: f 84 :: f 85 :: f 86 :: f 87 :: f 88 :: f 89 :: f 90 :: f 91 :: f 92 :: f 93 :: f 94 :: f 95 :: f 96 :: f 97 :: f 98 :: f 99 :: f 100 :: f 101 :: f 102 :: f 103 :: f 104 :: f 105 :: f 106 :: f 107 :: f 108 :: f 109 :: f 110 :: f 111 :: f 112 :: f 113 :: f 114 :: f 115 :: f 116 :: [])), []⟩ ∧ ∀ k, slot a k = f k := letters_kp a hs.size hs.defers
  rw [hf] at e2
  rw [ea, e2]
  have HS := Lib.hid hs
  have HF := Lib.hid hf
  have E2 := Lib.hid e2
  clear hs ea hf hN hl h2 e2
  have hnn := fun W => run_neq_slice_nil (P := Tryd.prog) W 26 28 ia n ic Tryd.underlying26
  obtain ⟨c0, c1, c2, c3, c4, c5, c6, c7, c8, c9, c10⟩ := (CellsAt.of_blk hA).box
  clear hA
  conv => arg 2; whnf
  go_wp2_with fail
  refine HN.out _ ?_
  exact Sl.add (Sl.stay [2, 3] HS.out HF.out (by kernel_rfl) rfl ⟨Eq.trans (by kernel_rfl) E2.out.symm, by kernel_rfl, trivial⟩ HL.out) (by kernel_rfl)
set_option maxHeartbeats 4000000 in
theorem kp_r4 (a : Act) (w : World) (N : Act → World → Prop) (Q : Exit → Act → World → Prop) (l : List (Nat × Value)) (hs : Sl 117 a l) (hl : (l.map Prod.fst).all (fun k => [2, 3].contains k) = true)
    (h : Hd) (pa : Option Addr) (pc : Nat) (b : Nat) (n ic : Nat) (A : Nat) (hA : Blk w A 28 (h.cells pa pc (some ⟨b, 0, none⟩) n ic)) (hn : n + 2 ≤ ic) (hm : ic ≤ 9223372036854775807) (h2 : l.lookup 2 = some (.pointer (some ⟨A, 0, none⟩)))
    (hN : ∀ a', Sl 117 a' ((5, .slice (some ⟨b, 0, none⟩) (n + 2) ic) :: l) → N a' (w)) : (r_kp 4).wp Tryd.prog (Exit.then N Q) a w := by
  have HN := Lib.hid hN
  have HL := Lib.hid hl
  have e2 := hs.look 2 h2
  obtain ⟨f, ea, hf⟩ : ∃ f : Nat → Value, a = ⟨(List.toArray (f 0 :: f 1 :: f 2 :: f 3 :: f 4 :: f 5 :: f 6 :: f 7 :: f 8 :: f 9 :: f 10 :: f 11 :: f 12 :: f 13 :: f 14 :: f 15 :: f 16 :: f 17 :: f 18 :: f 19 :: f 20 :: f 21 :: f 22 :: f 23 :: f 24 :: f 25 :: f 26 :: f 27 :: f 28 :: f 29 :: f 30 :: f 31 :: f 32 :: f 33 :: f 34 :: f 35 :: f 36 :: f 37 :: f 38 :: f 39 :: f 40 :: f 41 :: f 42 :: f 43 :: f 44 :: f 45 :: f 46 :: f 47 :: f 48 :: f 49 :: f 50 :: f 51 :: f 52 :: f 53 :: f 54 :: f 55 :: f 56 :: f 57 :: f 58 :: f 59 :: f 60 :: f 61 :: f 62 :: f 63 :: f 64 :: f 65 :: f 66 :: f 67 :: f 68 :: f 69 :: f 70 :: f 71 :: f 72 :: f 73 :: f 74 :: f 75 :: f 76 :: f 77 :: f 78 :: f 79 :: f 80 :: f 81 :: f 82 :: f 83 :: f 84 :: f 85 :: f 86 :: f 87 :: f 88 :: f 89 :: f 90 :: f 91 :: f 92 :: f 93 :: f 94 :: f 95 :: f 96 :: f 97 :: f 98 :: f 99 :: f 100 :: f 101 :: f 102 :: f 103 :: f 104 :: f 105 :: f 106 :: f 107 :: f 108 :: f 109 :: f 110 :: f 111 :: f 112 :: f 113 :: f 114 :: f 115 :: f 116 :: [])), []⟩ ∧ ∀ k, slot a k = f k := letters_kp a hs.size hs.defers
  rw [hf] at e2
  rw [ea, e2]
  have HS := Lib.hid hs
  have HF := Lib.hid hf
  have E2 := Lib.hid e2
  clear hs ea hf hN hl h2 e2
  have hn1 : (n : Int) + 2 ≤ (ic : Int) := by omega
  obtain ⟨c0, c1, c2, c3, c4, c5, c6, c7, c8, c9, c10⟩ := (CellsAt.of_blk hA).box
  clear hA
  conv => arg 2; whnf
  go_wp2_with fail
  refine HN.out _ ?_
  exact Sl.add (Sl.stay [2, 3] HS.out HF.out (by kernel_rfl) rfl ⟨Eq.trans (by kernel_rfl) E2.out.symm, by kernel_rfl, trivial⟩ HL.out) (by kernel_rfl)
set_option maxHeartbeats 4000000 in
theorem kp_r5 (a : Act) (w : World) (N : Act → World → Prop) (Q : Exit → Act → World → Prop) (l : List (Nat × Value)) (hs : Sl 117 a l) (hl : (l.map Prod.fst).all (fun k => [2, 3].contains k) = true)
    (h : Hd) (pa : Option Addr) (pc : Nat) (b : Nat) (n ic : Nat) (A : Nat) (hA : Blk w A 28 (h.cells pa pc (some ⟨b, 0, none⟩) n ic)) (hn : n + 2 ≤ ic) (hm : ic ≤ 9223372036854775807) (hx : w.cell? ⟨b, n * 11, none⟩ = some (.int .i64 (-71))) (hy : w.cell? ⟨b, (n + 1) * 11, none⟩ = some (.int .i64 (-72))) (h2 : l.lookup 2 = some (.pointer (some ⟨A, 0, none⟩))) (h5 : slot a 5 = .slice (some ⟨b, 0, none⟩) (n + 2) ic)
    (hN : ∀ a', Sl 117 a' ((57, .bool false) :: l) → N a' (w)) : (r_kp 5).wp Tryd.prog (Exit.then N Q) a w := by
  have HN := Lib.hid hN
  have HL := Lib.hid hl
  have e2 := hs.look 2 h2
  have e5 := h5
  obtain ⟨f, ea, hf⟩ : ∃ f : Nat → Value, a = ⟨(List.toArray (f 0 :: f 1 :: f 2 :: f 3 :: f 4 :: f 5 :: f 6 :: f 7 :: f 8 :: f 9 :: f 10 :: f 11 :: f 12 :: f 13 :: f 14 :: f 15 :: f 16 :: f 17 :: f 18 :: f 19 :: f 20 :: f 21 :: f 22 :: f 23 :: f 24 :: f 25 :: f 26 :: f 27 :: f 28 :: f 29 :: f 30 :: f 31 :: f 32 :: f 33 :: f 34 :: f 35 :: f 36 :: f 37 :: f 38 :: f 39 :: f 40 :: f 41 :: f 42 :: f 43 :: f 44 :: f 45 :: f 46 :: f 47 :: f 48 :: f 49 :: f 50 :: f 51 :: f 52 :: f 53 :: f 54 :: f 55 :: f 56 :: f 57 :: f 58 :: f 59 :: f 60 :: f 61 :: f 62 :: f 63 :: f 64 :: f 65 :: f 66 :: f 67 :: f 68 :: f 69 :: f 70 :: f 71 :: f 72 :: f 73 :: f 74 :: f 75 :: f 76 :: f 77 :: f 78 :: f 79 :: f 80 :: f 81 :: f 82 :: f 83 :: f 84 :: f 85 :: f 86 :: f 87 :: f 88 :: f 89 :: f 90 :: f 91 :: f 92 :: f 93 :: f 94 :: f 95 :: f 96 :: f 97 :: f 98 :: f 99 :: f 100 :: f 101 :: f 102 :: f 103 :: f 104 :: f 105 :: f 106 :: f 107 :: f 108 :: f 109 :: f 110 :: f 111 :: f 112 :: f 113 :: f 114 :: f 115 :: f 116 :: [])), []⟩ ∧ ∀ k, slot a k = f k := letters_kp a hs.size hs.defers
  rw [hf] at e2 e5
  rw [ea, e2, e5]
  have HS := Lib.hid hs
  have HF := Lib.hid hf
  have E2 := Lib.hid e2
  have E5 := Lib.hid e5
  clear hs ea hf hN hl h2 e2 h5 e5
  have hn2 : (n : Int) < (n : Int) + 2 := by omega
  have hn3 : (n : Int) + 1 < (n : Int) + 2 := by omega
  obtain ⟨c0, c1, c2, c3, c4, c5, c6, c7, c8, c9, c10⟩ := (CellsAt.of_blk hA).box
  clear hA
  conv => arg 2; whnf
  go_wp2_with fail
  refine HN.out _ ?_
  exact Sl.add (Sl.stay [2, 3] HS.out HF.out (by kernel_rfl) rfl ⟨Eq.trans (by kernel_rfl) E2.out.symm, by kernel_rfl, trivial⟩ HL.out) (by kernel_rfl)
set_option maxHeartbeats 4000000 in
theorem kp_r7 (a : Act) (w : World) (N : Act → World → Prop) (Q : Exit → Act → World → Prop) (l : List (Nat × Value)) (hs : Sl 117 a l) (hl : (l.map Prod.fst).all (fun k => [2, 3].contains k) = true)
    (h : Hd) (pa : Option Addr) (pc : Nat) (ia : Option Addr) (n ic : Nat) (A : Nat) (hA : Blk w A 28 (h.cells pa pc ia n ic))  (h2 : l.lookup 2 = some (.pointer (some ⟨A, 0, none⟩)))
    (hN : ∀ a', Sl 117 a' ((61, .bool pa.isSome) :: l) → N a' (w)) : (r_kp 7).wp Tryd.prog (Exit.then N Q) a w := by
  have HN := Lib.hid hN
  have HL := Lib.hid hl
  have e2 := hs.look 2 h2
  obtain ⟨f, ea, hf⟩ : ∃ f : Nat → Value, a = ⟨(List.toArray (f 0 :: f 1 :: f 2 :: f 3 :: f 4 :: f 5 :: f 6 :: f 7 :: f 8 :: f 9 :: f 10 :: f 11 :: f 12 :: f 13 :: f 14 :: f 15 :: f 16 :: f 17 :: f 18 :: f 19 :: f 20 :: f 21 :: f 22 :: f 23 :: f 24 :: f 25 :: f 26 :: f 27 :: f 28 :: f 29 :: f 30 :: f 31 :: f 32 :: f 33 :: f 34 :: f 35 :: f 36 :: f 37 :: f 38 :: f 39 :: f 40 :: f 41 :: f 42 :: f 43 :: f 44 :: f 45 :: f 46 :: f 47 :: f 48 :: f 49 :: f 50 :: f 51 :: f 52 :: f 53 :: f 54 :: f 55 :: f 56 :: f 57 :: f 58 :: f 59 :: f 60 :: f 61 :: f 62 :: f 63 :: f 64 :: f 65 :: f 66 :: f 67 :: f 68 :: f 69 :: f 70 :: f 71 :: f 72 :: f 73 :: f 74 :: f 75 :: f 76 :: f 77 :: f 78 :: f 79 :: f 80 :: f 81 :: f 82 :: f 83 :: f 84 :: f 85 :: f 86 :: f 87 :: f 88 :: f 89 :: f 90 :: f 91 :: f 92 :: f 93 :: f 94 :: f 95 :: f 96 :: f 97 :: f 98 :: f 99 :: f 100 :: f 101 :: f 102 :: f 103 :: f 104 :: f 105 :: f 106 :: f 107 :: f 108 :: f 109 :: f 110 :: f 111 :: f 112 :: f 113 :: f 114 :: f 115 :: f 116 :: [])), []⟩ ∧ ∀ k, slot a k = f k := letters_kp a hs.size hs.defers
  rw [hf] at e2
  rw [ea, e2]
  have HS := Lib.hid hs
  have HF := Lib.hid hf
  have E2 := Lib.hid e2
  clear hs ea hf hN hl h2 e2
  have hnn := fun W => run_neq_slice_nil (P := Tryd.prog) W 23 3 pa h.path.length pc Tryd.underlying23
  obtain ⟨c0, c1, c2, c3, c4, c5, c6, c7, c8, c9, c10⟩ := (CellsAt.of_blk hA).box
  clear hA
  conv => arg 2; whnf
  go_wp2_with fail
  refine HN.out _ ?_
  exact Sl.add (Sl.stay [2, 3] HS.out HF.out (by kernel_rfl) rfl ⟨Eq.trans (by kernel_rfl) E2.out.symm, by kernel_rfl, trivial⟩ HL.out) (by kernel_rfl)
set_option maxHeartbeats 4000000 in
theorem kp_r8 (a : Act) (w : World) (N : Act → World → Prop) (Q : Exit → Act → World → Prop) (l : List (Nat × Value)) (hs : Sl 117 a l) (hl : (l.map Prod.fst).all (fun k => [2, 3].contains k) = true)
    (h : Hd) (p : Nat) (pc : Nat) (ia : Option Addr) (n ic : Nat) (A : Nat) (hA : Blk w A 28 (h.cells (some ⟨p, 0, none⟩) pc ia n ic)) (hn : h.path.length + 2 ≤ pc) (hm : pc ≤ 9223372036854775807) (h2 : l.lookup 2 = some (.pointer (some ⟨A, 0, none⟩)))
    (hN : ∀ a', Sl 117 a' ((6, .slice (some ⟨p, 0, none⟩) (h.path.length + 2) pc) :: l) → N a' (w)) : (r_kp 8).wp Tryd.prog (Exit.then N Q) a w := by
  have HN := Lib.hid hN
  have HL := Lib.hid hl
  have e2 := hs.look 2 h2
  obtain ⟨f, ea, hf⟩ : ∃ f : Nat → Value, a = ⟨(List.toArray (f 0 :: f 1 :: f 2 :: f 3 :: f 4 :: f 5 :: f 6 :: f 7 :: f 8 :: f 9 :: f 10 :: f 11 :: f 12 :: f 13 :: f 14 :: f 15 :: f 16 :: f 17 :: f 18 :: f 19 :: f 20 :: f 21 :: f 22 :: f 23 :: f 24 :: f 25 :: f 26 :: f 27 :: f 28 :: f 29 :: f 30 :: f 31 :: f 32 :: f 33 :: f 34 :: f 35 :: f 36 :: f 37 :: f 38 :: f 39 :: f 40 :: f 41 :: f 42 :: f 43 :: f 44 :: f 45 :: f 46 :: f 47 :: f 48 :: f 49 :: f 50 :: f 51 :: f 52 :: f 53 :: f 54 :: f 55 :: f 56 :: f 57 :: f 58 :: f 59 :: f 60 :: f 61 :: f 62 :: f 63 :: f 64 :: f 65 :: f 66 :: f 67 :: f 68 :: f 69 :: f 70 :: f 71 :: f 72 :: f 73 :: f 74 :: f 75 :: f 76 :: f 77 :: f 78 :: f 79 :: f 80 :: f 81 :: f 82 :: f 83 :: f 84 :: f 85 :: f 86 :: f 87 :: f 88 :: f 89 :: f 90 :: f 91 :: f 92 :: f 93 :: f 94 :: f 95 :: f 96 :: f 97 :: f 98 :: f 99 :: f 100 :: f 101 :: f 102 :: f 103 :: f 104 :: f 105 :: f 106 :: f 107 :: f 108 :: f 109 :: f 110 :: f 111 :: f 112 :: f 113 :: f 114 :: f 115 :: f 116 :: [])), []⟩ ∧ ∀ k, slot a k = f k := letters_kp a hs.size hs.defers
  rw [hf] at e2
  rw [ea, e2]
  have HS := Lib.hid hs
  have HF := Lib.hid hf
  have E2 := Lib.hid e2
  clear hs ea hf hN hl h2 e2
  have hn1 : (h.path.length : Int) + 2 ≤ (pc : Int) := by omega
  obtain ⟨c0, c1, c2, c3, c4, c5, c6, c7, c8, c9, c10⟩ := (CellsAt.of_blk hA).box
  clear hA
  conv => arg 2; whnf
  go_wp2_with fail
  refine HN.out _ ?_
  exact Sl.add (Sl.stay [2, 3] HS.out HF.out (by kernel_rfl) rfl ⟨Eq.trans (by kernel_rfl) E2.out.symm, by kernel_rfl, trivial⟩ HL.out) (by kernel_rfl)
set_option maxHeartbeats 4000000 in
theorem kp_r9 (a : Act) (w : World) (N : Act → World → Prop) (Q : Exit → Act → World → Prop) (l : List (Nat × Value)) (hs : Sl 117 a l) (hl : (l.map Prod.fst).all (fun k => [2, 3].contains k) = true)
    (h : Hd) (p : Nat) (pc : Nat) (ia : Option Addr) (n ic : Nat) (A : Nat) (hA : Blk w A 28 (h.cells (some ⟨p, 0, none⟩) pc ia n ic)) (hn : h.path.length + 2 ≤ pc) (hm : pc ≤ 9223372036854775807) (hx : w.cell? ⟨p, h.path.length, none⟩ = some (.int .i64 (-71))) (hy : w.cell? ⟨p, h.path.length + 1, none⟩ = some (.int .i64 (-72))) (h2 : l.lookup 2 = some (.pointer (some ⟨A, 0, none⟩))) (h6 : slot a 6 = .slice (some ⟨p, 0, none⟩) (h.path.length + 2) pc)
    (hN : ∀ a', Sl 117 a' ((89, .bool false) :: l) → N a' (w)) : (r_kp 9).wp Tryd.prog (Exit.then N Q) a w := by
  have HN := Lib.hid hN
  have HL := Lib.hid hl
  have e2 := hs.look 2 h2
  have e6 := h6
  obtain ⟨f, ea, hf⟩ : ∃ f : Nat → Value, a = ⟨(List.toArray (f 0 :: f 1 :: f 2 :: f 3 :: f 4 :: f 5 :: f 6 :: f 7 :: f 8 :: f 9 :: f 10 :: f 11 :: f 12 :: f 13 :: f 14 :: f 15 :: f 16 :: f 17 :: f 18 :: f 19 :: f 20 :: f 21 :: f 22 :: f 23 :: f 24 :: f 25 :: f 26 :: f 27 :: f 28 :: f 29 :: f 30 :: f 31 :: f 32 :: f 33 :: f 34 :: f 35 :: f 36 :: f 37 :: f 38 :: f 39 :: f 40 :: f 41 :: f 42 :: f 43 :: f 44 :: f 45 :: f 46 :: f 47 :: f 48 :: f 49 :: f 50 :: f 51 :: f 52 :: f 53 :: f 54 :: f 55 :: f 56 :: f 57 :: f 58 :: f 59 :: f 60 :: f 61 :: f 62 :: f 63 :: f 64 :: f 65 :: f 66 :: f 67 :: f 68 :: f 69 :: f 70 :: f 71 :: f 72 :: f 73 :: f 74 :: f 75 :: f 76 :: f 77 :: f 78 :: f 79 :: f 80 :: f 81 :: f 82 :: f 83 :: f 84 :: f 85 :: f 86 :: f 87 :: f 88 :: f 89 :: f 90 :: f 91 :: f 92 :: f 93 :: f 94 :: f 95 :: f 96 :: f 97 :: f 98 :: f 99 :: f 100 :: f 101 :: f 102 :: f 103 :: f 104 :: f 105 :: f 106 :: f 107 :: f 108 :: f 109 :: f 110 :: f 111 :: f 112 :: f 113 :: f 114 :: f 115 :: f 116 :: [])), []⟩ ∧ ∀ k, slot a k = f k := letters_kp a hs.size hs.defers
  rw [hf] at e2 e6
  rw [ea, e2, e6]
  have HS := Lib.hid hs
  have HF := Lib.hid hf
  have E2 := Lib.hid e2
  have E6 := Lib.hid e6
  clear hs ea hf hN hl h2 e2 h6 e6
  have hn2 : (h.path.length : Int) < (h.path.length : Int) + 2 := by omega
  have hn3 : (h.path.length : Int) + 1 < (h.path.length : Int) + 2 := by omega
  obtain ⟨c0, c1, c2, c3, c4, c5, c6, c7, c8, c9, c10⟩ := (CellsAt.of_blk hA).box
  clear hA
  conv => arg 2; whnf
  go_wp2_with fail
  refine HN.out _ ?_
  exact Sl.add (Sl.stay [2, 3] HS.out HF.out (by kernel_rfl) rfl ⟨Eq.trans (by kernel_rfl) E2.out.symm, by kernel_rfl, trivial⟩ HL.out) (by kernel_rfl)
set_option maxHeartbeats 4000000 in
theorem kp_r11 (a : Act) (w : World) (N : Act → World → Prop) (Q : Exit → Act → World → Prop) (l : List (Nat × Value)) (hs : Sl 117 a l) (hl : (l.map Prod.fst).all (fun k => [2, 3].contains k) = true)
     
    (hN : ∀ a', Sl 117 a' ((7, .int .i64 0) :: l) → N a' (w)) : (r_kp 11).wp Tryd.prog (Exit.then N Q) a w := by
  have HN := Lib.hid hN
  have HL := Lib.hid hl
  obtain ⟨f, ea, hf⟩ : ∃ f : Nat → Value, a = ⟨(List.toArray (f 0 :: f 1 :: f 2 :: f 3 :: f 4 :: f 5 :: f 6 :: f 7 :: f 8 :: f 9 :: f 10 :: f 11 :: f 12 :: f 13 :: f 14 :: f 15 :: f 16 :: f 17 :: f 18 :: f 19 :: f 20 :: f 21 :: f 22 :: f 23 :: f 24 :: f 25 :: f 26 :: f 27 :: f 28 :: f 29 :: f 30 :: f 31 :: f 32 :: f 33 :: f 34 :: f 35 :: f 36 :: f 37 :: f 38 :: f 39 :: f 40 :: f 41 :: f 42 :: f 43 :: f 44 :: f 45 :: f 46 :: f 47 :: f 48 :: f 49 :: f 50 :: f 51 :: f 52 :: f 53 :: f 54 :: f 55 :: f 56 :: f 57 :: f 58 :: f 59 :: f 60 :: f 61 :: f 62 :: f 63 :: f 64 :: f 65 :: f 66 :: f 67 :: f 68 :: f 69 :: f 70 :: f 71 :: f 72 :: f 73 :: f 74 :: f 75 :: f 76 :: f 77 :: f 78 :: f 79 :: f 80 :: f 81 :: f 82 :: f 83 :: f 84 :: f 85 :: f 86 :: f 87 :: f 88 :: f 89 :: f 90 :: f 91 :: f 92 :: f 93 :: f 94 :: f 95 :: f 96 :: f 97 :: f 98 :: f 99 :: f 100 :: f 101 :: f 102 :: f 103 :: f 104 :: f 105 :: f 106 :: f 107 :: f 108 :: f 109 :: f 110 :: f 111 :: f 112 :: f 113 :: f 114 :: f 115 :: f 116 :: [])), []⟩ ∧ ∀ k, slot a k = f k := letters_kp a hs.size hs.defers
  rw [ea]
  have HS := Lib.hid hs
  have HF := Lib.hid hf
  clear hs ea hf hN hl 
  conv => arg 2; whnf
  go_wp2_with fail
  refine HN.out _ ?_
  exact Sl.add (Sl.stay [2, 3] HS.out HF.out (by kernel_rfl) rfl ⟨by kernel_rfl, by kernel_rfl, trivial⟩ HL.out) (by kernel_rfl)
set_option maxHeartbeats 4000000 in
theorem kp_r12T (a : Act) (w : World) (N : Act → World → Prop) (Q : Exit → Act → World → Prop) (l : List (Nat × Value)) (hs : Sl 117 a l) (hl : (l.map Prod.fst).all (fun k => [2, 3, 7].contains k) = true)
    (h : Hd) (n : Nat) (pa' : Option Addr) (pc' : Nat) (ia' : Option Addr) (ic' : Nat) (B : Nat) (hB : Blk w B 28 (h.cells pa' pc' ia' n ic')) (_hn : n ≤ 1034834473170) (j : Nat) (hj : j < n) (h3 : l.lookup 3 = some (.pointer (some ⟨B, 0, none⟩))) (h7 : l.lookup 7 = some (.int .i64 (j : Nat)))
    (hN : ∀ a', Sl 117 a' ((94, .bool true) :: l) → N a' (w)) : (r_kp 12).wp Tryd.prog (Exit.then N Q) a w := by
  have HN := Lib.hid hN
  have HL := Lib.hid hl
  have e3 := hs.look 3 h3
  have e7 := hs.look 7 h7
  obtain ⟨f, ea, hf⟩ : ∃ f : Nat → Value, a = ⟨(List.toArray (f 0 :: f 1 :: f 2 :: f 3 :: f 4 :: f 5 :: f 6 :: f 7 :: f 8 :: f 9 :: f 10 :: f 11 :: f 12 :: f 13 :: f 14 :: f 15 :: f 16 :: f 17 :: f 18 :: f 19 :: f 20 :: f 21 :: f 22 :: f 23 :: f 24 :: f 25 :: f 26 :: f 27 :: f 28 :: f 29 :: f 30 :: f 31 :: f 32 :: f 33 :: f 34 :: f 35 :: f 36 :: f 37 :: f 38 :: f 39 :: f 40 :: f 41 :: f 42 :: f 43 :: f 44 :: f 45 :: f 46 :: f 47 :: f 48 :: f 49 :: f 50 :: f 51 :: f 52 :: f 53 :: f 54 :: f 55 :: f 56 :: f 57 :: f 58 :: f 59 :: f 60 :: f 61 :: f 62 :: f 63 :: f 64 :: f 65 :: f 66 :: f 67 :: f 68 :: f 69 :: f 70 :: f 71 :: f 72 :: f 73 :: f 74 :: f 75 :: f 76 :: f 77 :: f 78 :: f 79 :: f 80 :: f 81 :: f 82 :: f 83 :: f 84 :: f 85 :: f 86 :: f 87 :: f 88 :: f 89 :: f 90 :: f 91 :: f 92 :: f 93 :: f 94 :: f 95 :: f 96 :: f 97 :: f 98 :: f 99 :: f 100 :: f 101 :: f 102 :: f 103 :: f 104 :: f 105 :: f 106 :: f 107 :: f 108 :: f 109 :: f 110 :: f 111 :: f 112 :: f 113 :: f 114 :: f 115 :: f 116 :: [])), []⟩ ∧ ∀ k, slot a k = f k := letters_kp a hs.size hs.defers
  rw [hf] at e3 e7
  rw [ea, e3, e7]
  have HS := Lib.hid hs
  have HF := Lib.hid hf
  have E3 := Lib.hid e3
  have E7 := Lib.hid e7
  clear hs ea hf hN hl h3 e3 h7 e7
  have hj1 : (j : Int) < (n : Int) := by omega
  obtain ⟨d0, d1, d2, d3, d4, d5, d6, d7, d8, d9, d10⟩ := (CellsAt.of_blk hB).box
  clear hB
  conv => arg 2; whnf
  go_wp2_with fail
  refine HN.out _ ?_
  exact Sl.add (Sl.stay [2, 3, 7] HS.out HF.out (by kernel_rfl) rfl ⟨by kernel_rfl, Eq.trans (by kernel_rfl) E3.out.symm, Eq.trans (by kernel_rfl) E7.out.symm, trivial⟩ HL.out) (by kernel_rfl)
set_option maxHeartbeats 4000000 in
theorem kp_r12F (a : Act) (w : World) (N : Act → World → Prop) (Q : Exit → Act → World → Prop) (l : List (Nat × Value)) (hs : Sl 117 a l) (hl : (l.map Prod.fst).all (fun k => [2, 3, 7].contains k) = true)
    (h : Hd) (n : Nat) (pa' : Option Addr) (pc' : Nat) (ia' : Option Addr) (ic' : Nat) (B : Nat) (hB : Blk w B 28 (h.cells pa' pc' ia' n ic')) (_hn : n ≤ 1034834473170) (h3 : l.lookup 3 = some (.pointer (some ⟨B, 0, none⟩))) (h7 : l.lookup 7 = some (.int .i64 (n : Nat)))
    (hN : ∀ a', Sl 117 a' ((94, .bool false) :: l) → N a' (w)) : (r_kp 12).wp Tryd.prog (Exit.then N Q) a w := by
  have HN := Lib.hid hN
  have HL := Lib.hid hl
  have e3 := hs.look 3 h3
  have e7 := hs.look 7 h7
  obtain ⟨f, ea, hf⟩ : ∃ f : Nat → Value, a = ⟨(List.toArray (f 0 :: f 1 :: f 2 :: f 3 :: f 4 :: f 5 :: f 6 :: f 7 :: f 8 :: f 9 :: f 10 :: f 11 :: f 12 :: f 13 :: f 14 :: f 15 :: f 16 :: f 17 :: f 18 :: f 19 :: f 20 :: f 21 :: f 22 :: f 23 :: f 24 :: f 25 :: f 26 :: f 27 :: f 28 :: f 29 :: f 30 :: f 31 :: f 32 :: f 33 :: f 34 :: f 35 :: f 36 :: f 37 :: f 38 :: f 39 :: f 40 :: f 41 :: f 42 :: f 43 :: f 44 :: f 45 :: f 46 :: f 47 :: f 48 :: f 49 :: f 50 :: f 51 :: f 52 :: f 53 :: f 54 :: f 55 :: f 56 :: f 57 :: f 58 :: f 59 :: f 60 :: f 61 :: f 62 :: f 63 :: f 64 :: f 65 :: f 66 :: f 67 :: f 68 :: f 69 :: f 70 :: f 71 :: f 72 :: f 73 :: f 74 :: f 75 :: f 76 :: f 77 :: f 78 :: f 79 :: f 80 :: f 81 :: f 82 :: f 83 :: f 84 :: f 85 :: f 86 :: f 87 :: f 88 :: f 89 :: f 90 :: f 91 :: f 92 :: f 93 :: f 94 :: f 95 :: f 96 :: f 97 :: f 98 :: f 99 :: f 100 :: f 101 :: f 102 :: f 103 :: f 104 :: f 105 :: f 106 :: f 107 :: f 108 :: f 109 :: f 110 :: f 111 :: f 112 :: f 113 :: f 114 :: f 115 :: f 116 :: [])), []⟩ ∧ ∀ k, slot a k = f k := letters_kp a hs.size hs.defers
  rw [hf] at e3 e7
  rw [ea, e3, e7]
  have HS := Lib.hid hs
  have HF := Lib.hid hf
  have E3 := Lib.hid e3
  have E7 := Lib.hid e7
  clear hs ea hf hN hl h3 e3 h7 e7
  obtain ⟨d0, d1, d2, d3, d4, d5, d6, d7, d8, d9, d10⟩ := (CellsAt.of_blk hB).box
  clear hB
  conv => arg 2; whnf
  go_wp2_with fail
  refine HN.out _ ?_
  exact Sl.add (Sl.stay [2, 3, 7] HS.out HF.out (by kernel_rfl) rfl ⟨by kernel_rfl, Eq.trans (by kernel_rfl) E3.out.symm, Eq.trans (by kernel_rfl) E7.out.symm, trivial⟩ HL.out) (by kernel_rfl)
set_option maxHeartbeats 4000000 in
theorem kp_r13 (a : Act) (w : World) (N : Act → World → Prop) (Q : Exit → Act → World → Prop) (l : List (Nat × Value)) (hs : Sl 117 a l) (hl : (l.map Prod.fst).all (fun k => [2, 3].contains k) = true)
    (j : Nat) (hj : j < 1034834473170) (h7 : slot a 7 = .int .i64 (j : Nat))
    (hN : ∀ a', Sl 117 a' ((7, .int .i64 (j + 1 : Nat)) :: l) → N a' (w)) : (r_kp 13).wp Tryd.prog (Exit.then N Q) a w := by
  have HN := Lib.hid hN
  have HL := Lib.hid hl
  have e7 := h7
  obtain ⟨f, ea, hf⟩ : ∃ f : Nat → Value, a = ⟨(List.toArray (f 0 :: f 1 :: f 2 :: f 3 :: f 4 :: f 5 :: f 6 :: f 7 :: f 8 :: f 9 :: f 10 :: f 11 :: f 12 :: f 13 :: f 14 :: f 15 :: f 16 :: f 17 :: f 18 :: f 19 :: f 20 :: f 21 :: f 22 :: f 23 :: f 24 :: f 25 :: f 26 :: f 27 :: f 28 :: f 29 :: f 30 :: f 31 :: f 32 :: f 33 :: f 34 :: f 35 :: f 36 :: f 37 :: f 38 :: f 39 :: f 40 :: f 41 :: f 42 :: f 43 :: f 44 :: f 45 :: f 46 :: f 47 :: f 48 :: f 49 :: f 50 :: f 51 :: f 52 :: f 53 :: f 54 :: f 55 :: f 56 :: f 57 :: f 58 :: f 59 :: f 60 :: f 61 :: f 62 :: f 63 :: f 64 :: f 65 :: f 66 :: f 67 :: f 68 :: f 69 :: f 70 :: f 71 :: f 72 :: f 73 :: f 74 :: f 75 :: f 76 :: f 77 :: f 78 :: f 79 :: f 80 :: f 81 :: f 82 :: f 83 :: f 84 :: f 85 :: f 86 :: f 87 :: f 88 :: f 89 :: f 90 :: f 91 :: f 92 :: f 93 :: f 94 :: f 95 :: f 96 :: f 97 :: f 98 :: f 99 :: f 100 :: f 101 :: f 102 :: f 103 :: f 104 :: f 105 :: f 106 :: f 107 :: f 108 :: f 109 :: f 110 :: f 111 :: f 112 :: f 113 :: f 114 :: f 115 :: f 116 :: [])), []⟩ ∧ ∀ k, slot a k = f k := letters_kp a hs.size hs.defers
  rw [hf] at e7
  rw [ea, e7]
  have HS := Lib.hid hs
  have HF := Lib.hid hf
  have E7 := Lib.hid e7
  clear hs ea hf hN hl h7 e7
  conv => arg 2; whnf
  go_wp2_with fail
  refine HN.out _ ?_
  exact Sl.add (Sl.stay [2, 3] HS.out HF.out (by kernel_rfl) rfl ⟨by kernel_rfl, by kernel_rfl, trivial⟩ HL.out) (Eq.trans (b := .int .i64 ((j : Int) + 1)) (by kernel_rfl) (by go_num))
set_option maxHeartbeats 4000000 in
theorem kp_r14 (a : Act) (w : World) (N : Act → World → Prop) (Q : Exit → Act → World → Prop) (l : List (Nat × Value)) (hs : Sl 117 a l) (hl : (l.map Prod.fst).all (fun k => [2, 3, 7].contains k) = true)
    (h : Hd) (pa : Option Addr) (pc : Nat) (b : Nat) (n ic : Nat) (A : Nat) (hA : Blk w A 28 (h.cells pa pc (some ⟨b, 0, none⟩) n ic)) (pa' : Option Addr) (pc' : Nat) (b' o' : Nat) (ic' : Nat) (B : Nat) (hB : Blk w B 28 (h.cells pa' pc' (some ⟨b', o', none⟩) n ic')) (_hn : n ≤ 1034834473170) (j : Nat) (hj : j < n) (x y : Hd) (qa : Option Addr) (qc : Nat) (ja : Option Addr) (m jc : Nat) (qa' : Option Addr) (qc' : Nat) (ja' : Option Addr) (m' jc' : Nat) (hc : CellsAt w b (0 + j * 11) (x.cells qa qc ja m jc)) (hd : CellsAt w b' (o' + j * 11) (y.cells qa' qc' ja' m' jc')) (HC : ∀ W, Below w.heap.size w W → Calls Tryd.prog 38 #[.agg (x.cells qa qc ja m jc), .agg (y.cells qa' qc' ja' m' jc')] W fun e w' => e = .returned (.bool true) ∧ Below W.heap.size W w') (h2 : l.lookup 2 = some (.pointer (some ⟨A, 0, none⟩))) (h3 : l.lookup 3 = some (.pointer (some ⟨B, 0, none⟩))) (h7 : l.lookup 7 = some (.int .i64 (j : Nat)))
    (hN : ∀ a' w', Sl 117 a' ((8, .bool true) :: l) → Below w.heap.size w w' → N a' w') : (r_kp 14).wp Tryd.prog (Exit.then N Q) a w := by
  have HN := Lib.hid hN
  have HL := Lib.hid hl
  have e2 := hs.look 2 h2
  have e3 := hs.look 3 h3
  have e7 := hs.look 7 h7
  obtain ⟨f, ea, hf⟩ : ∃ f : Nat → Value, a = ⟨(List.toArray (f 0 :: f 1 :: f 2 :: f 3 :: f 4 :: f 5 :: f 6 :: f 7 :: f 8 :: f 9 :: f 10 :: f 11 :: f 12 :: f 13 :: f 14 :: f 15 :: f 16 :: f 17 :: f 18 :: f 19 :: f 20 :: f 21 :: f 22 :: f 23 :: f 24 :: f 25 :: f 26 :: f 27 :: f 28 :: f 29 :: f 30 :: f 31 :: f 32 :: f 33 :: f 34 :: f 35 :: f 36 :: f 37 :: f 38 :: f 39 :: f 40 :: f 41 :: f 42 :: f 43 :: f 44 :: f 45 :: f 46 :: f 47 :: f 48 :: f 49 :: f 50 :: f 51 :: f 52 :: f 53 :: f 54 :: f 55 :: f 56 :: f 57 :: f 58 :: f 59 :: f 60 :: f 61 :: f 62 :: f 63 :: f 64 :: f 65 :: f 66 :: f 67 :: f 68 :: f 69 :: f 70 :: f 71 :: f 72 :: f 73 :: f 74 :: f 75 :: f 76 :: f 77 :: f 78 :: f 79 :: f 80 :: f 81 :: f 82 :: f 83 :: f 84 :: f 85 :: f 86 :: f 87 :: f 88 :: f 89 :: f 90 :: f 91 :: f 92 :: f 93 :: f 94 :: f 95 :: f 96 :: f 97 :: f 98 :: f 99 :: f 100 :: f 101 :: f 102 :: f 103 :: f 104 :: f 105 :: f 106 :: f 107 :: f 108 :: f 109 :: f 110 :: f 111 :: f 112 :: f 113 :: f 114 :: f 115 :: f 116 :: [])), []⟩ ∧ ∀ k, slot a k = f k := letters_kp a hs.size hs.defers
  rw [hf] at e2 e3 e7
  rw [ea, e2, e3, e7]
  have HS := Lib.hid hs
  have HF := Lib.hid hf
  have E2 := Lib.hid e2
  have E3 := Lib.hid e3
  have E7 := Lib.hid e7
  clear hs ea hf hN hl h2 e2 h3 e3 h7 e7
  have hj0 : (0 : Int) ≤ (j : Int) := by omega
  have hj1 : (j : Int) < (n : Int) := by omega
  obtain ⟨_, _, _, _, _, _, _, _, _, _, c10⟩ := (CellsAt.of_blk hA).boxrg
  clear hA
  obtain ⟨_, _, _, _, _, _, _, _, _, _, d10⟩ := (CellsAt.of_blk hB).boxrg
  clear hB
  rw [Nat.zero_add] at hc
  obtain ⟨m0, m1, m2, m3, m4, m5, m6, m7, m8, m9, m10⟩ := hc.rg
  obtain ⟨z0, z1, z2, z3, z4, z5, z6, z7, z8, z9, z10⟩ := hd.rg
  clear hc hd
  unfold Hd.cells at HC
  have HC := Lib.hid HC
  conv => arg 2; whnf
  refine wp_region_below (by kernel_rfl) (by kernel_rfl) ?_
  repeat (go_big_quiet_step ((exact Calls.regrown_of (HC.out _ (below_regrown _ _ _)))))
  refine wpQuiet_nil ?_
  intro w' hb
  go_wp2_with fail
  refine HN.out _ _ ?_ hb
  exact Sl.add (Sl.stay [2, 3, 7] HS.out HF.out (by kernel_rfl) rfl ⟨Eq.trans (by kernel_rfl) E2.out.symm, Eq.trans (by kernel_rfl) E3.out.symm, Eq.trans (by kernel_rfl) E7.out.symm, trivial⟩ HL.out) (by kernel_rfl)
set_option maxHeartbeats 4000000 in
theorem kp_r15 (a : Act) (w : World) (N : Act → World → Prop) (Q : Exit → Act → World → Prop) (l : List (Nat × Value)) (hs : Sl 117 a l) (hl : (l.map Prod.fst).all (fun k => [2, 3, 7].contains k) = true)
     (h8 : slot a 8 = .bool true)
    (hN : ∀ a', Sl 117 a' ((109, .bool false) :: l) → N a' (w)) : (r_kp 15).wp Tryd.prog (Exit.then N Q) a w := by
  have HN := Lib.hid hN
  have HL := Lib.hid hl
  have e8 := h8
  obtain ⟨f, ea, hf⟩ : ∃ f : Nat → Value, a = ⟨(List.toArray (f 0 :: f 1 :: f 2 :: f 3 :: f 4 :: f 5 :: f 6 :: f 7 :: f 8 :: f 9 :: f 10 :: f 11 :: f 12 :: f 13 :: f 14 :: f 15 :: f 16 :: f 17 :: f 18 :: f 19 :: f 20 :: f 21 :: f 22 :: f 23 :: f 24 :: f 25 :: f 26 :: f 27 :: f 28 :: f 29 :: f 30 :: f 31 :: f 32 :: f 33 :: f 34 :: f 35 :: f 36 :: f 37 :: f 38 :: f 39 :: f 40 :: f 41 :: f 42 :: f 43 :: f 44 :: f 45 :: f 46 :: f 47 :: f 48 :: f 49 :: f 50 :: f 51 :: f 52 :: f 53 :: f 54 :: f 55 :: f 56 :: f 57 :: f 58 :: f 59 :: f 60 :: f 61 :: f 62 :: f 63 :: f 64 :: f 65 :: f 66 :: f 67 :: f 68 :: f 69 :: f 70 :: f 71 :: f 72 :: f 73 :: f 74 :: f 75 :: f 76 :: f 77 :: f 78 :: f 79 :: f 80 :: f 81 :: f 82 :: f 83 :: f 84 :: f 85 :: f 86 :: f 87 :: f 88 :: f 89 :: f 90 :: f 91 :: f 92 :: f 93 :: f 94 :: f 95 :: f 96 :: f 97 :: f 98 :: f 99 :: f 100 :: f 101 :: f 102 :: f 103 :: f 104 :: f 105 :: f 106 :: f 107 :: f 108 :: f 109 :: f 110 :: f 111 :: f 112 :: f 113 :: f 114 :: f 115 :: f 116 :: [])), []⟩ ∧ ∀ k, slot a k = f k := letters_kp a hs.size hs.defers
  rw [hf] at e8
  rw [ea, e8]
  have HS := Lib.hid hs
  have HF := Lib.hid hf
  have E8 := Lib.hid e8
  clear hs ea hf hN hl h8 e8
  conv => arg 2; whnf
  go_wp2_with fail
  refine HN.out _ ?_
  exact Sl.add (Sl.stay [2, 3, 7] HS.out HF.out (by kernel_rfl) rfl ⟨by kernel_rfl, by kernel_rfl, by kernel_rfl, trivial⟩ HL.out) (by kernel_rfl)
set_option maxHeartbeats 4000000 in
theorem kp_r17 (a : Act) (w : World) (N : Act → World → Prop) (Q : Exit → Act → World → Prop) (l : List (Nat × Value)) (hs : Sl 117 a l) (hl : (l.map Prod.fst).all (fun k => [2, 3].contains k) = true)
    (h : Hd) (pa : Option Addr) (pc : Nat) (ia : Option Addr) (n ic : Nat) (A : Nat) (hA : Blk w A 28 (h.cells pa pc ia n ic))  (h2 : l.lookup 2 = some (.pointer (some ⟨A, 0, none⟩)))
    (hN : ∀ a', Sl 117 a' ((9, .pointer (some ⟨w.heap.size, 0, none⟩)) :: l) → N a' (w.alloc (.cells (h.cells pa pc ia n ic) 28))) : (r_kp 17).wp Tryd.prog (Exit.then N Q) a w := by
  have HN := Lib.hid hN
  have HL := Lib.hid hl
  have e2 := hs.look 2 h2
  obtain ⟨f, ea, hf⟩ : ∃ f : Nat → Value, a = ⟨(List.toArray (f 0 :: f 1 :: f 2 :: f 3 :: f 4 :: f 5 :: f 6 :: f 7 :: f 8 :: f 9 :: f 10 :: f 11 :: f 12 :: f 13 :: f 14 :: f 15 :: f 16 :: f 17 :: f 18 :: f 19 :: f 20 :: f 21 :: f 22 :: f 23 :: f 24 :: f 25 :: f 26 :: f 27 :: f 28 :: f 29 :: f 30 :: f 31 :: f 32 :: f 33 :: f 34 :: f 35 :: f 36 :: f 37 :: f 38 :: f 39 :: f 40 :: f 41 :: f 42 :: f 43 :: f 44 :: f 45 :: f 46 :: f 47 :: f 48 :: f 49 :: f 50 :: f 51 :: f 52 :: f 53 :: f 54 :: f 55 :: f 56 :: f 57 :: f 58 :: f 59 :: f 60 :: f 61 :: f 62 :: f 63 :: f 64 :: f 65 :: f 66 :: f 67 :: f 68 :: f 69 :: f 70 :: f 71 :: f 72 :: f 73 :: f 74 :: f 75 :: f 76 :: f 77 :: f 78 :: f 79 :: f 80 :: f 81 :: f 82 :: f 83 :: f 84 :: f 85 :: f 86 :: f 87 :: f 88 :: f 89 :: f 90 :: f 91 :: f 92 :: f 93 :: f 94 :: f 95 :: f 96 :: f 97 :: f 98 :: f 99 :: f 100 :: f 101 :: f 102 :: f 103 :: f 104 :: f 105 :: f 106 :: f 107 :: f 108 :: f 109 :: f 110 :: f 111 :: f 112 :: f 113 :: f 114 :: f 115 :: f 116 :: [])), []⟩ ∧ ∀ k, slot a k = f k := letters_kp a hs.size hs.defers
  rw [hf] at e2
  rw [ea, e2]
  have HS := Lib.hid hs
  have HF := Lib.hid hf
  have E2 := Lib.hid e2
  clear hs ea hf hN hl h2 e2
  obtain ⟨c0, c1, c2, c3, c4, c5, c6, c7, c8, c9, c10⟩ := (CellsAt.of_blk hA).box
  clear hA
  conv => arg 2; whnf
  go_wp2_with fail
  refine HN.out _ ?_
  exact Sl.add (Sl.stay [2, 3] HS.out HF.out (by kernel_rfl) rfl ⟨Eq.trans (by kernel_rfl) E2.out.symm, by kernel_rfl, trivial⟩ HL.out) (by kernel_rfl)
set_option maxHeartbeats 4000000 in
theorem kp_r18 (a : Act) (w : World) (N : Act → World → Prop) (Q : Exit → Act → World → Prop) (l : List (Nat × Value)) (hs : Sl 117 a l) (hl : (l.map Prod.fst).all (fun k => [2, 3, 9].contains k) = true)
    (h : Hd) (pa : Option Addr) (pc : Nat) (ia : Option Addr) (n ic : Nat) (A : Nat) (hA : Blk w A 28 (h.cells pa pc ia n ic))  (h3 : l.lookup 3 = some (.pointer (some ⟨A, 0, none⟩)))
    (hN : ∀ a', Sl 117 a' ((10, .pointer (some ⟨w.heap.size, 0, none⟩)) :: l) → N a' (w.alloc (.cells (h.cells pa pc ia n ic) 28))) : (r_kp 18).wp Tryd.prog (Exit.then N Q) a w := by
  have HN := Lib.hid hN
  have HL := Lib.hid hl
  have e3 := hs.look 3 h3
  obtain ⟨f, ea, hf⟩ : ∃ f : Nat → Value, a = ⟨(List.toArray (f 0 :: f 1 :: f 2 :: f 3 :: f 4 :: f 5 :: f 6 :: f 7 :: f 8 :: f 9 :: f 10 :: f 11 :: f 12 :: f 13 :: f 14 :: f 15 :: f 16 :: f 17 :: f 18 :: f 19 :: f 20 :: f 21 :: f 22 :: f 23 :: f 24 :: f 25 :: f 26 :: f 27 :: f 28 :: f 29 :: f 30 :: f 31 :: f 32 :: f 33 :: f 34 :: f 35 :: f 36 :: f 37 :: f 38 :: f 39 :: f 40 :: f 41 :: f 42 :: f 43 :: f 44 :: f 45 :: f 46 :: f 47 :: f 48 :: f 49 :: f 50 :: f 51 :: f 52 :: f 53 :: f 54 :: f 55 :: f 56 :: f 57 :: f 58 :: f 59 :: f 60 :: f 61 :: f 62 :: f 63 :: f 64 :: f 65 :: f 66 :: f 67 :: f 68 :: f 69 :: f 70 :: f 71 :: f 72 :: f 73 :: f 74 :: f 75 :: f 76 :: f 77 :: f 78 :: f 79 :: f 80 :: f 81 :: f 82 :: f 83 :: f 84 :: f 85 :: f 86 :: f 87 :: f 88 :: f 89 :: f 90 :: f 91 :: f 92 :: f 93 :: f 94 :: f 95 :: f 96 :: f 97 :: f 98 :: f 99 :: f 100 :: f 101 :: f 102 :: f 103 :: f 104 :: f 105 :: f 106 :: f 107 :: f 108 :: f 109 :: f 110 :: f 111 :: f 112 :: f 113 :: f 114 :: f 115 :: f 116 :: [])), []⟩ ∧ ∀ k, slot a k = f k := letters_kp a hs.size hs.defers
  rw [hf] at e3
  rw [ea, e3]
  have HS := Lib.hid hs
  have HF := Lib.hid hf
  have E3 := Lib.hid e3
  clear hs ea hf hN hl h3 e3
  obtain ⟨c0, c1, c2, c3, c4, c5, c6, c7, c8, c9, c10⟩ := (CellsAt.of_blk hA).box
  clear hA
  conv => arg 2; whnf
  go_wp2_with fail
  refine HN.out _ ?_
  exact Sl.add (Sl.stay [2, 3, 9] HS.out HF.out (by kernel_rfl) rfl ⟨by kernel_rfl, Eq.trans (by kernel_rfl) E3.out.symm, by kernel_rfl, trivial⟩ HL.out) (by kernel_rfl)
set_option maxHeartbeats 4000000 in
theorem kp_r19 (a : Act) (w : World) (N : Act → World → Prop) (Q : Exit → Act → World → Prop) (l : List (Nat × Value)) (hs : Sl 117 a l) (hl : (l.map Prod.fst).all (fun k => [9, 10].contains k) = true)
    (h : Hd) (pa : Option Addr) (pc : Nat) (ia : Option Addr) (n ic : Nat) (A : Nat) (hA : Blk w A 28 (h.cells pa pc ia n ic))  (h9 : l.lookup 9 = some (.pointer (some ⟨A, 0, none⟩)))
    (hN : ∀ a', Sl 117 a' l → N a' (w.setCell ⟨A, 10, none⟩ (.slice none 0 0))) : (r_kp 19).wp Tryd.prog (Exit.then N Q) a w := by
  have HN := Lib.hid hN
  have HL := Lib.hid hl
  have e9 := hs.look 9 h9
  obtain ⟨f, ea, hf⟩ : ∃ f : Nat → Value, a = ⟨(List.toArray (f 0 :: f 1 :: f 2 :: f 3 :: f 4 :: f 5 :: f 6 :: f 7 :: f 8 :: f 9 :: f 10 :: f 11 :: f 12 :: f 13 :: f 14 :: f 15 :: f 16 :: f 17 :: f 18 :: f 19 :: f 20 :: f 21 :: f 22 :: f 23 :: f 24 :: f 25 :: f 26 :: f 27 :: f 28 :: f 29 :: f 30 :: f 31 :: f 32 :: f 33 :: f 34 :: f 35 :: f 36 :: f 37 :: f 38 :: f 39 :: f 40 :: f 41 :: f 42 :: f 43 :: f 44 :: f 45 :: f 46 :: f 47 :: f 48 :: f 49 :: f 50 :: f 51 :: f 52 :: f 53 :: f 54 :: f 55 :: f 56 :: f 57 :: f 58 :: f 59 :: f 60 :: f 61 :: f 62 :: f 63 :: f 64 :: f 65 :: f 66 :: f 67 :: f 68 :: f 69 :: f 70 :: f 71 :: f 72 :: f 73 :: f 74 :: f 75 :: f 76 :: f 77 :: f 78 :: f 79 :: f 80 :: f 81 :: f 82 :: f 83 :: f 84 :: f 85 :: f 86 :: f 87 :: f 88 :: f 89 :: f 90 :: f 91 :: f 92 :: f 93 :: f 94 :: f 95 :: f 96 :: f 97 :: f 98 :: f 99 :: f 100 :: f 101 :: f 102 :: f 103 :: f 104 :: f 105 :: f 106 :: f 107 :: f 108 :: f 109 :: f 110 :: f 111 :: f 112 :: f 113 :: f 114 :: f 115 :: f 116 :: [])), []⟩ ∧ ∀ k, slot a k = f k := letters_kp a hs.size hs.defers
  rw [hf] at e9
  rw [ea, e9]
  have HS := Lib.hid hs
  have HF := Lib.hid hf
  have E9 := Lib.hid e9
  clear hs ea hf hN hl h9 e9
  have hfz := hA.frozen 10
  obtain ⟨c0, c1, c2, c3, c4, c5, c6, c7, c8, c9, c10⟩ := (CellsAt.of_blk hA).box
  clear hA
  conv => arg 2; whnf
  go_wp2_with fail
  refine HN.out _ ?_
  exact Sl.stay [9, 10] HS.out HF.out (by kernel_rfl) rfl ⟨Eq.trans (by kernel_rfl) E9.out.symm, by kernel_rfl, trivial⟩ HL.out
set_option maxHeartbeats 4000000 in
theorem kp_r20 (a : Act) (w : World) (N : Act → World → Prop) (Q : Exit → Act → World → Prop) (l : List (Nat × Value)) (hs : Sl 117 a l) (hl : (l.map Prod.fst).all (fun k => [9, 10].contains k) = true)
    (h : Hd) (pa : Option Addr) (pc : Nat) (ia : Option Addr) (n ic : Nat) (A : Nat) (hA : Blk w A 28 (h.cells pa pc ia n ic))  (h10 : l.lookup 10 = some (.pointer (some ⟨A, 0, none⟩)))
    (hN : ∀ a', Sl 117 a' l → N a' (w.setCell ⟨A, 10, none⟩ (.slice none 0 0))) : (r_kp 20).wp Tryd.prog (Exit.then N Q) a w := by
  have HN := Lib.hid hN
  have HL := Lib.hid hl
  have e10 := hs.look 10 h10
  obtain ⟨f, ea, hf⟩ : ∃ f : Nat → Value, a = ⟨(List.toArray (f 0 :: f 1 :: f 2 :: f 3 :: f 4 :: f 5 :: f 6 :: f 7 :: f 8 :: f 9 :: f 10 :: f 11 :: f 12 :: f 13 :: f 14 :: f 15 :: f 16 :: f 17 :: f 18 :: f 19 :: f 20 :: f 21 :: f 22 :: f 23 :: f 24 :: f 25 :: f 26 :: f 27 :: f 28 :: f 29 :: f 30 :: f 31 :: f 32 :: f 33 :: f 34 :: f 35 :: f 36 :: f 37 :: f 38 :: f 39 :: f 40 :: f 41 :: f 42 :: f 43 :: f 44 :: f 45 :: f 46 :: f 47 :: f 48 :: f 49 :: f 50 :: f 51 :: f 52 :: f 53 :: f 54 :: f 55 :: f 56 :: f 57 :: f 58 :: f 59 :: f 60 :: f 61 :: f 62 :: f 63 :: f 64 :: f 65 :: f 66 :: f 67 :: f 68 :: f 69 :: f 70 :: f 71 :: f 72 :: f 73 :: f 74 :: f 75 :: f 76 :: f 77 :: f 78 :: f 79 :: f 80 :: f 81 :: f 82 :: f 83 :: f 84 :: f 85 :: f 86 :: f 87 :: f 88 :: f 89 :: f 90 :: f 91 :: f 92 :: f 93 :: f 94 :: f 95 :: f 96 :: f 97 :: f 98 :: f 99 :: f 100 :: f 101 :: f 102 :: f 103 :: f 104 :: f 105 :: f 106 :: f 107 :: f 108 :: f 109 :: f 110 :: f 111 :: f 112 :: f 113 :: f 114 :: f 115 :: f 116 :: [])), []⟩ ∧ ∀ k, slot a k = f k := letters_kp a hs.size hs.defers
  rw [hf] at e10
  rw [ea, e10]
  have HS := Lib.hid hs
  have HF := Lib.hid hf
  have E10 := Lib.hid e10
  clear hs ea hf hN hl h10 e10
  have hfz := hA.frozen 10
  obtain ⟨c0, c1, c2, c3, c4, c5, c6, c7, c8, c9, c10⟩ := (CellsAt.of_blk hA).box
  clear hA
  conv => arg 2; whnf
  go_wp2_with fail
  refine HN.out _ ?_
  exact Sl.stay [9, 10] HS.out HF.out (by kernel_rfl) rfl ⟨by kernel_rfl, Eq.trans (by kernel_rfl) E10.out.symm, trivial⟩ HL.out
set_option maxHeartbeats 4000000 in
theorem kp_r21 (a : Act) (w : World) (N : Act → World → Prop) (Q : Exit → Act → World → Prop) (l : List (Nat × Value)) (hs : Sl 117 a l) (hl : (l.map Prod.fst).all (fun k => [9, 10].contains k) = true)
    (h : Hd) (pa : Option Addr) (pc : Nat) (ia : Option Addr) (n ic : Nat) (A : Nat) (hA : Blk w A 28 (h.cells pa pc ia n ic)) (pa' : Option Addr) (pc' : Nat) (ia' : Option Addr) (ic' : Nat) (B : Nat) (hB : Blk w B 28 (h.cells pa' pc' ia' n ic')) (HC : Calls Tryd.prog 31 #[.agg (h.cells pa pc ia n ic), .agg (h.cells pa' pc' ia' n ic')] w fun e w' => e = .returned (.bool true) ∧ Below w.heap.size w w') (h9 : l.lookup 9 = some (.pointer (some ⟨A, 0, none⟩))) (h10 : l.lookup 10 = some (.pointer (some ⟨B, 0, none⟩)))
    (hN : ∀ a' w', Sl 117 a' ((4, .bool true) :: l) → Below w.heap.size w w' → N a' w') : (r_kp 21).wp Tryd.prog (Exit.then N Q) a w := by
  have HN := Lib.hid hN
  have HL := Lib.hid hl
  have e9 := hs.look 9 h9
  have e10 := hs.look 10 h10
  obtain ⟨f, ea, hf⟩ : ∃ f : Nat → Value, a = ⟨(List.toArray (f 0 :: f 1 :: f 2 :: f 3 :: f 4 :: f 5 :: f 6 :: f 7 :: f 8 :: f 9 :: f 10 :: f 11 :: f 12 :: f 13 :: f 14 :: f 15 :: f 16 :: f 17 :: f 18 :: f 19 :: f 20 :: f 21 :: f 22 :: f 23 :: f 24 :: f 25 :: f 26 :: f 27 :: f 28 :: f 29 :: f 30 :: f 31 :: f 32 :: f 33 :: f 34 :: f 35 :: f 36 :: f 37 :: f 38 :: f 39 :: f 40 :: f 41 :: f 42 :: f 43 :: f 44 :: f 45 :: f 46 :: f 47 :: f 48 :: f 49 :: f 50 :: f 51 :: f 52 :: f 53 :: f 54 :: f 55 :: f 56 :: f 57 :: f 58 :: f 59 :: f 60 :: f 61 :: f 62 :: f 63 :: f 64 :: f 65 :: f 66 :: f 67 :: f 68 :: f 69 :: f 70 :: f 71 :: f 72 :: f 73 :: f 74 :: f 75 :: f 76 :: f 77 :: f 78 :: f 79 :: f 80 :: f 81 :: f 82 :: f 83 :: f 84 :: f 85 :: f 86 :: f 87 :: f 88 :: f 89 :: f 90 :: f 91 :: f 92 :: f 93 :: f 94 :: f 95 :: f 96 :: f 97 :: f 98 :: f 99 :: f 100 :: f 101 :: f 102 :: f 103 :: f 104 :: f 105 :: f 106 :: f 107 :: f 108 :: f 109 :: f 110 :: f 111 :: f 112 :: f 113 :: f 114 :: f 115 :: f 116 :: [])), []⟩ ∧ ∀ k, slot a k = f k := letters_kp a hs.size hs.defers
  rw [hf] at e9 e10
  rw [ea, e9, e10]
  have HS := Lib.hid hs
  have HF := Lib.hid hf
  have E9 := Lib.hid e9
  have E10 := Lib.hid e10
  clear hs ea hf hN hl h9 e9 h10 e10
  obtain ⟨c0, c1, c2, c3, c4, c5, c6, c7, c8, c9, c10⟩ := (CellsAt.of_blk hA).box
  clear hA
  obtain ⟨d0, d1, d2, d3, d4, d5, d6, d7, d8, d9, d10⟩ := (CellsAt.of_blk hB).box
  clear hB
  unfold Hd.cells at HC
  have HC := Lib.hid HC
  conv => arg 2; whnf
  go_wp2_with fail
  refine HC.out.mono ?_
  rintro e w' ⟨rfl, hb⟩
  go_wp2_with fail
  refine HN.out _ _ ?_ hb
  exact Sl.add (Sl.stay [9, 10] HS.out HF.out (by kernel_rfl) rfl ⟨Eq.trans (by kernel_rfl) E9.out.symm, Eq.trans (by kernel_rfl) E10.out.symm, trivial⟩ HL.out) (by kernel_rfl)
end Go.Proofs.YthdmmhiifkebeaaDoor

namespace Go.Proofs.YthdmmhiifkebeaaDoor
open Go.RowKit Go.Sort
set_option maxRecDepth 100000

noncomputable def kpLoop : Code := .seq (.seq (r_kp 12) (.cond (.tmp 94) .skip (.exit 0))) (.seq (.block 1 (.seq (r_kp 14) (.seq (r_kp 15) (.cond (.tmp 109) (.seq (r_kp 16) .ret) .skip)))) (r_kp 13))
noncomputable def kpEnd : Code := .seq (r_kp 17) (.seq (r_kp 18) (.seq (r_kp 19) (.seq (r_kp 20) (.seq (r_kp 21) .ret))))
noncomputable def kpRest : Code := .seq (.seq (r_kp 11) (.block 0 (.loop kpLoop))) kpEnd
noncomputable def kpPath : Code := .seq (.seq (r_kp 7) (.cond (.tmp 61) (.seq (r_kp 8) (.seq (r_kp 9) (.cond (.tmp 89) (.seq (r_kp 10) .ret) .skip))) .skip)) kpRest
noncomputable def kpBody : Code := .seq (r_kp 0) (.seq (.seq (r_kp 1) (.cond (.tmp 28) (.seq (r_kp 2) .ret) .skip)) (.seq (.seq (r_kp 3) (.cond (.tmp 31) (.seq (r_kp 4) (.seq (r_kp 5) (.cond (.tmp 57) (.seq (r_kp 6) .ret) .skip))) .skip)) kpPath))
theorem kp_body : Tryd.f38.body = some kpBody := by kernel_rfl

def KeptC (h : Hd) (k : Fo) : Prop := ∀ (w : World) (lo hi : Nat) (T : Nat → Prop) (pa : Option Addr) (pc : Nat) (ia : Option Addr) (ic : Nat) (pa' : Option Addr) (pc' : Nat) (ia' : Option Addr) (ic' : Nat),
  LD w lo hi h k pa pc ia ic → DatAt w T h k pa' pc' ia' ic' →
  Calls Tryd.prog 38 #[.agg (h.cells pa pc ia k.len ic), .agg (h.cells pa' pc' ia' k.len ic')] w fun e w' => e = .returned (.bool true) ∧ Below w.heap.size w w'

/-- What kept stands on: the two boxes, the lent datum and the other one, in old memory. -/
structure KpSt (w w1 : World) (h : Hd) (k : Fo) (pa : Option Addr) (pc : Nat) (ia : Option Addr) (ic : Nat) (pa' : Option Addr) (pc' : Nat) (ia' : Option Addr) (ic' : Nat) : Prop where
  hA : Blk w1 w.heap.size 28 (h.cells pa pc ia k.len ic)
  hB : Blk w1 (w.heap.size + 1) 28 (h.cells pa' pc' ia' k.len ic')
  hb : Below w.heap.size w w1
theorem KpSt.below {w w1 w2 : World} {h : Hd} {k : Fo} {pa : Option Addr} {pc : Nat} {ia : Option Addr} {ic : Nat} {pa' : Option Addr} {pc' : Nat} {ia' : Option Addr} {ic' : Nat} (s : KpSt w w1 h k pa pc ia ic pa' pc' ia' ic') (hb : Below w1.heap.size w1 w2) : KpSt w w2 h k pa pc ia ic pa' pc' ia' ic' :=
  ⟨s.hA.below hb s.hA.lt, s.hB.below hb s.hB.lt, bl_trans s.hb hb⟩

/-- The end: the two heads are the same. -/
theorem kp_end (h : Hd) (k : Fo) (ho : h.ok) (w w1 : World) (a : Act) (pa : Option Addr) (pc : Nat) (ia : Option Addr) (ic : Nat) (pa' : Option Addr) (pc' : Nat) (ia' : Option Addr) (ic' : Nat) (T T' : Nat → Prop)
    (hd : DatAt w T h k pa pc ia ic) (hd' : DatAt w T' h k pa' pc' ia' ic') (s : KpSt w w1 h k pa pc ia ic pa' pc' ia' ic')
    (hs : Sl 117 a [(3, .pointer (some ⟨w.heap.size + 1, 0, none⟩)), (2, .pointer (some ⟨w.heap.size, 0, none⟩))]) :
    kpEnd.wp Tryd.prog (bodyPost Tryd.prog Tryd.f38 (fun e w' => e = .returned (.bool true) ∧ Below w.heap.size w w')) a w1 := by
  unfold kpEnd
  refine wp_seq (kp_r17 a w1 _ _ _ hs rfl h pa pc ia k.len ic w.heap.size s.hA rfl fun a2 h2 => ?_)
  have hX : Blk (w1.alloc (.cells (h.cells pa pc ia k.len ic) 28)) w1.heap.size 28 (h.cells pa pc ia k.len ic) := Blk.new _ _ _
  have hb2 : Below w1.heap.size w1 (w1.alloc (.cells (h.cells pa pc ia k.len ic) 28)) := (Below.refl _ _).alloc (Nat.le_refl _) _
  have hz2 : (w1.alloc (.cells (h.cells pa pc ia k.len ic) 28)).heap.size = w1.heap.size + 1 := by simp
  generalize w1.alloc (.cells (h.cells pa pc ia k.len ic) 28) = w2 at hX hb2 hz2 ⊢
  have s2 := s.below hb2
  refine wp_seq (kp_r18 a2 w2 _ _ _ ((h2.none.add (h2.look 2 rfl)).add (h2.look 3 rfl) |>.add (h2.look 9 rfl)) rfl h pa' pc' ia' k.len ic' (w.heap.size + 1) s2.hB rfl fun a3 h3 => ?_)
  have hY : Blk (w2.alloc (.cells (h.cells pa' pc' ia' k.len ic') 28)) w2.heap.size 28 (h.cells pa' pc' ia' k.len ic') := Blk.new _ _ _
  have hb3 : Below w2.heap.size w2 (w2.alloc (.cells (h.cells pa' pc' ia' k.len ic') 28)) := (Below.refl _ _).alloc (Nat.le_refl _) _
  generalize w2.alloc (.cells (h.cells pa' pc' ia' k.len ic') 28) = w3 at hY hb3 ⊢
  have hX3 := hX.below hb3 hX.lt
  have hbw3 := bl_trans (bl_trans s.hb hb2) hb3
  have hA1 := s.hA.lt
  clear hX hb3 s2 s hb2
  refine wp_seq (kp_r19 a3 w3 _ _ _ ((h3.none.add (h3.look 9 rfl)).add (h3.look 10 rfl)) rfl h pa pc ia k.len ic w1.heap.size hX3 rfl fun a4 h4 => ?_)
  have hX4 : Blk (w3.setCell ⟨w1.heap.size, 10, none⟩ (.slice none 0 0)) w1.heap.size 28 (h.cells pa pc none 0 0) := hX3.set_ 10 _
  have hY4 := hY.far (p := ⟨w1.heap.size, 10, none⟩) (by show w2.heap.size ≠ w1.heap.size; omega) (.slice none 0 0)
  have hb4 : Below w.heap.size w (w3.setCell ⟨w1.heap.size, 10, none⟩ (.slice none 0 0)) := hbw3.setCell (p := ⟨w1.heap.size, 10, none⟩) (by show w.heap.size ≤ w1.heap.size; omega) _
  generalize w3.setCell ⟨w1.heap.size, 10, none⟩ (.slice none 0 0) = w4 at hX4 hY4 hb4 ⊢
  refine wp_seq (kp_r20 a4 w4 _ _ _ h4 rfl h pa' pc' ia' k.len ic' w2.heap.size hY4 rfl fun a5 h5 => ?_)
  have hY5 : Blk (w4.setCell ⟨w2.heap.size, 10, none⟩ (.slice none 0 0)) w2.heap.size 28 (h.cells pa' pc' none 0 0) := hY4.set_ 10 _
  have hX5 := hX4.far (p := ⟨w2.heap.size, 10, none⟩) (by show w1.heap.size ≠ w2.heap.size; omega) (.slice none 0 0)
  have hb5 : Below w.heap.size w (w4.setCell ⟨w2.heap.size, 10, none⟩ (.slice none 0 0)) := hb4.setCell (p := ⟨w2.heap.size, 10, none⟩) (by show w.heap.size ≤ w2.heap.size; omega) _
  generalize w4.setCell ⟨w2.heap.size, 10, none⟩ (.slice none 0 0) = w5 at hX5 hY5 hb5 ⊢
  have d1 : DatAt w (fun b => b < w.heap.size) h .nil pa pc none 0 := ⟨hd.path.keep (fun _ _ _ => rfl) (fun _ _ h => h), hd.pcLe, hd.pcMax, .inl rfl, Nat.le_refl _, by omega⟩
  have d2 : DatAt w (fun b => b < w.heap.size) h .nil pa' pc' none 0 := ⟨hd'.path.keep (fun _ _ _ => rfl) (fun _ _ h => h), hd'.pcLe, hd'.pcMax, .inl rfl, Nat.le_refl _, by omega⟩
  have hsm := rsame_any h .nil h .nil ho trivial (by simp [Fo.len]) ho trivial w5 _ _ pa pc none 0 pa' pc' none 0 (d1.below hb5 (fun _ h _ => h)) (d2.below hb5 (fun _ h _ => h))
  rw [sameD_refl] at hsm
  refine wp_seq (kp_r21 a5 w5 _ _ _ h5 rfl h pa pc none 0 0 w1.heap.size hX5 pa' pc' none 0 w2.heap.size hY5 hsm rfl rfl fun a6 w6 h6 hb6 => ?_)
  exact wp_ret (bodyPost_ret (results_tmp rfl _ _ _) h6.defers ⟨congrArg Ending.returned (h6.look 4 rfl), bl_trans hb5 hb6⟩)

theorem LF.get {w : World} : ∀ (f : Fo) (lo hi b o i : Nat) (a : Hd) (d : Fo), LF w lo hi b o f → f.get i = some (a, d) → ∃ l2 h2 pa pc ia ic, CellsAt w b (o + i * 11) (a.cells pa pc ia d.len ic) ∧ LD w l2 h2 a d pa pc ia ic
  | .nil, _, _, _, _, i, a, d, _, e => by simp [Fo.get] at e
  | .cons h k r, lo, hi, b, o, 0, a, d, ⟨m, pa, pc, ia, ic, _, hc, hd, _⟩, e => by
    simp only [Fo.get, Option.some.injEq, Prod.mk.injEq] at e
    obtain ⟨rfl, rfl⟩ := e
    exact ⟨lo, m, pa, pc, ia, ic, by simpa using hc, hd⟩
  | .cons h k r, lo, hi, b, o, i + 1, a, d, ⟨m, _, _, _, _, _, _, _, h6⟩, e => by
    have := LF.get r m hi b (o + 11) i a d h6 e
    rwa [show o + 11 + i * 11 = o + (i + 1) * 11 by omega] at this
theorem LD.below {w w' : World} {lo hi : Nat} {h : Hd} {k : Fo} {pa : Option Addr} {pc : Nat} {ia : Option Addr} {ic : Nat} (d : LD w lo hi h k pa pc ia ic) (hb : Below w.heap.size w w') : LD w' lo hi h k pa pc ia ic := d.keep fun x _ _ hx => hb.block x hx

theorem kp_rest (h : Hd) (k : Fo) (ho : h.ok) (hkl : k.len ≤ 1034834473170) (ih : ∀ i a b, k.get i = some (a, b) → KeptC a b) (w w1 : World) (lo hi : Nat) (T : Nat → Prop) (a : Act) (pa : Option Addr) (pc : Nat) (ia : Option Addr) (ic : Nat) (pa' : Option Addr) (pc' : Nat) (ia' : Option Addr) (ic' : Nat)
    (hL : LD w lo hi h k pa pc ia ic) (hd' : DatAt w T h k pa' pc' ia' ic') (s : KpSt w w1 h k pa pc ia ic pa' pc' ia' ic')
    (hs : Sl 117 a [(3, .pointer (some ⟨w.heap.size + 1, 0, none⟩)), (2, .pointer (some ⟨w.heap.size, 0, none⟩))]) :
    kpRest.wp Tryd.prog (bodyPost Tryd.prog Tryd.f38 (fun e w' => e = .returned (.bool true) ∧ Below w.heap.size w w')) a w1 := by
  unfold kpRest
  refine wp_seq (wp_seq (kp_r11 a w1 _ _ _ hs rfl fun a2 h2 => ?_))
  refine wp_block ?_
  refine wp_loop (fun a' wr => ∃ j : Nat, j ≤ k.len ∧ Sl 117 a' [(7, .int .i64 (j : Nat)), (3, .pointer (some ⟨w.heap.size + 1, 0, none⟩)), (2, .pointer (some ⟨w.heap.size, 0, none⟩))] ∧ KpSt w wr h k pa pc ia ic pa' pc' ia' ic')
    (fun a' _ => muTo k.len (slot a' 7)) ⟨0, by omega, h2, s⟩ ?_
  rintro a3 wr ⟨j, hj, h3, sr⟩
  rw [h3.look 7 rfl, muTo_int]
  unfold kpLoop
  refine wp_seq (wp_seq ?_)
  by_cases hlt : j < k.len
  · refine kp_r12T a3 wr _ _ _ h3 rfl h k.len pa' pc' ia' ic' (w.heap.size + 1) sr.hB hkl j hlt rfl rfl fun a4 h4 => ?_
    refine wpc_on (h4.look 94 rfl) ?_
    refine wp_seq (wp_block (wp_seq ?_))
    obtain ⟨x, d, hget⟩ := Fo.get_lt k j hlt
    have hrow : ∃ b q2, ia = some ⟨b, 0, none⟩ ∧ LF w (b + 1) q2 b 0 k := by
      obtain ⟨q1, q2, _, _, _, _, _, _, _, _, _, h6⟩ := hL
      rcases h6 with h6 | ⟨b, e, _, _, _, _, _, _, h7⟩
      · omega
      · exact ⟨b, q2, e, h7⟩
    obtain ⟨b, q2, rfl, hLF⟩ := hrow
    obtain ⟨l2, h2', qa, qc, ja, jc, hcs, hLx⟩ := hLF.get _ _ _ _ _ j x d hget
    obtain ⟨b', o', rfl, _, qa', qc', ja', jc', hcs', hdx⟩ := hd'.kids.get hget
    have hcr := hcs.below sr.hb (cell_lt (hcs 0 _ rfl))
    have hcr' := hcs'.below sr.hb (cell_lt (hcs' 0 _ rfl))
    refine kp_r14 a4 wr _ _ _ h4.tl rfl h pa pc b k.len ic w.heap.size sr.hA pa' pc' b' o' ic' (w.heap.size + 1) sr.hB hkl j hlt x x qa qc ja d.len jc qa' qc' ja' d.len jc' hcr hcr'
      (fun W hW => ih j x d hget W l2 h2' _ qa qc ja jc qa' qc' ja' jc' (hLx.below (bl_trans sr.hb hW)) (hdx.below (bl_trans sr.hb hW) (fun b _ h => h))) rfl rfl rfl fun a5 w5 h5 hb5 => ?_
    refine wp_seq (kp_r15 a5 w5 _ _ _ h5.tl rfl (h5.look 8 rfl) fun a6 h6 => ?_)
    refine wpc_off (h6.look 109 rfl) ?_
    show Code.wp _ (r_kp 13) _ a6 w5
    refine kp_r13 a6 w5 _ _ _ h6.tl.tl rfl j (by omega) (h6.look 7 rfl) fun a7 h7 => ⟨⟨j + 1, by omega, h7, sr.below hb5⟩, ?_⟩
    rw [h7.look 7 rfl, muTo_int]
    omega
  · have hjk : j = k.len := by omega
    subst hjk
    refine kp_r12F a3 wr _ _ _ h3 rfl h k.len pa' pc' ia' ic' (w.heap.size + 1) sr.hB hkl rfl rfl fun a4 h4 => ?_
    refine wpc_exit (h4.look 94 rfl) ?_
    refine then_exit (then_exit (in_block' ?_))
    show Code.wp _ kpEnd _ a4 wr
    exact kp_end h k ho w wr a4 pa pc ia ic pa' pc' ia' ic' _ _ hL.dat hd' sr h4.tl.tl

theorem kp_path (h : Hd) (k : Fo) (ho : h.ok) (hkl : k.len ≤ 1034834473170) (ih : ∀ i a b, k.get i = some (a, b) → KeptC a b) (w w1 : World) (lo hi : Nat) (T : Nat → Prop) (a : Act) (pa : Option Addr) (pc : Nat) (ia : Option Addr) (ic : Nat) (pa' : Option Addr) (pc' : Nat) (ia' : Option Addr) (ic' : Nat)
    (hL : LD w lo hi h k pa pc ia ic) (hd' : DatAt w T h k pa' pc' ia' ic') (s : KpSt w w1 h k pa pc ia ic pa' pc' ia' ic')
    (hs : Sl 117 a [(3, .pointer (some ⟨w.heap.size + 1, 0, none⟩)), (2, .pointer (some ⟨w.heap.size, 0, none⟩))]) :
    kpPath.wp Tryd.prog (bodyPost Tryd.prog Tryd.f38 (fun e w' => e = .returned (.bool true) ∧ Below w.heap.size w w')) a w1 := by
  unfold kpPath
  refine wp_seq (wp_seq (kp_r7 a w1 _ _ _ hs rfl h pa pc ia k.len ic w.heap.size s.hA rfl fun a2 h2 => ?_))
  have hp : pa = none ∨ ∃ p, pa = some ⟨p, 0, none⟩ ∧ h.path.length + 2 ≤ pc ∧ pc ≤ 9223372036854775807 ∧ w.cell? ⟨p, h.path.length, none⟩ = some (.int .i64 (-71)) ∧ w.cell? ⟨p, h.path.length + 1, none⟩ = some (.int .i64 (-72)) := by
    obtain ⟨q1, q2, _, _, _, _, _, hm, _, _, h5, _⟩ := hL
    rcases h5 with h5 | ⟨p, e, _, _, _, _, g1, g2, g3⟩
    · exact .inl h5
    · exact .inr ⟨p, e, g1, hm, g2, g3⟩
  rcases hp with rfl | ⟨p, rfl, g1, gm, g2, g3⟩
  · refine wpc_off (h2.look 61 rfl) ?_
    exact kp_rest h k ho hkl ih w w1 lo hi T a2 none pc ia ic pa' pc' ia' ic' hL hd' s h2.tl
  · refine wp_cond_true (h2.look 61 rfl) ?_
    have hc := bcell s.hb
    refine wp_seq (kp_r8 a2 w1 _ _ _ h2.tl rfl h p pc ia k.len ic w.heap.size s.hA g1 gm rfl fun a3 h3 => ?_)
    refine wp_seq (kp_r9 a3 w1 _ _ _ h3.tl rfl h p pc ia k.len ic w.heap.size s.hA g1 gm ((hc.1 _ _ (cell_lt g2)).trans g2) ((hc.1 _ _ (cell_lt g3)).trans g3) rfl (h3.look 6 rfl) fun a4 h4 => ?_)
    refine wpc_off (h4.look 89 rfl) ?_
    show Code.wp _ kpRest _ a4 w1
    exact kp_rest h k ho hkl ih w w1 lo hi T a4 (some ⟨p, 0, none⟩) pc ia ic pa' pc' ia' ic' hL hd' s h4.tl

theorem kept_one (h : Hd) (k : Fo) (ho : h.ok) (hkl : k.len ≤ 1034834473170) (ih : ∀ i a b, k.get i = some (a, b) → KeptC a b) : KeptC h k := by
  intro w lo hi T pa pc ia ic pa' pc' ia' ic' hL hd'
  refine calls_of_wp Tryd.func38 kp_body ?_
  have h0 : Sl 117 { tmps := #[Value.agg (h.cells pa pc ia k.len ic), .agg (h.cells pa' pc' ia' k.len ic')] ++ Array.replicate (Tryd.f38.ntmps - #[Value.agg (h.cells pa pc ia k.len ic), .agg (h.cells pa' pc' ia' k.len ic')].size) undef, defers := [] } [(0, .agg (h.cells pa pc ia k.len ic)), (1, .agg (h.cells pa' pc' ia' k.len ic'))] :=
    ⟨by simp [Tryd.ntmps38], rfl, fun p hp => by
      simp only [List.mem_cons, List.not_mem_nil, or_false] at hp
      rcases hp with rfl | rfl <;> simp [slot]⟩
  generalize { tmps := #[Value.agg (h.cells pa pc ia k.len ic), .agg (h.cells pa' pc' ia' k.len ic')] ++ Array.replicate (Tryd.f38.ntmps - #[Value.agg (h.cells pa pc ia k.len ic), .agg (h.cells pa' pc' ia' k.len ic')].size) undef, defers := [] : Act } = a0 at h0 ⊢
  unfold kpBody
  refine wp_seq (kp_r0 a0 w _ _ _ h0.none rfl h pa pc ia k.len ic pa' pc' ia' ic' (h0.look 0 rfl) (h0.look 1 rfl) fun a1 w1 h1 hA hB hb => ?_)
  have s : KpSt w w1 h k pa pc ia ic pa' pc' ia' ic' := ⟨hA, hB, hb⟩
  refine wp_seq (wp_seq (kp_r1 a1 w1 _ _ _ h1 rfl h pa pc ia k.len ic w.heap.size hA pa' pc' ia' ic' (w.heap.size + 1) hB rfl rfl fun a2 h2 => ?_))
  refine wpc_off (h2.look 28 rfl) ?_
  refine wp_seq (wp_seq (kp_r3 a2 w1 _ _ _ h2.tl rfl h pa pc ia k.len ic w.heap.size hA rfl fun a3 h3 => ?_))
  have hr : (ia = none) ∨ ∃ b, ia = some ⟨b, 0, none⟩ ∧ k.len + 2 ≤ ic ∧ ic ≤ 9223372036854775807 ∧ w.cell? ⟨b, k.len * 11, none⟩ = some (.int .i64 (-71)) ∧ w.cell? ⟨b, (k.len + 1) * 11, none⟩ = some (.int .i64 (-72)) := by
    obtain ⟨q1, q2, _, _, _, _, _, _, _, hm, _, h6⟩ := hL
    rcases h6 with h6 | ⟨b, e, _, _, _, g1, g2, g3, _⟩
    · exact .inl h6.1
    · exact .inr ⟨b, e, g1, hm, g2, g3⟩
  rcases hr with rfl | ⟨b, rfl, g1, gm, g2, g3⟩
  · refine wpc_off (h3.look 31 rfl) ?_
    exact kp_path h k ho hkl ih w w1 lo hi T a3 pa pc none ic pa' pc' ia' ic' hL hd' s h3.tl
  · refine wp_cond_true (h3.look 31 rfl) ?_
    have hc := bcell s.hb
    refine wp_seq (kp_r4 a3 w1 _ _ _ h3.tl rfl h pa pc b k.len ic w.heap.size hA g1 gm rfl fun a4 h4 => ?_)
    refine wp_seq (kp_r5 a4 w1 _ _ _ h4.tl rfl h pa pc b k.len ic w.heap.size hA g1 gm ((hc.1 _ _ (cell_lt g2)).trans g2) ((hc.1 _ _ (cell_lt g3)).trans g3) rfl (h4.look 5 rfl) fun a5 h5 => ?_)
    refine wpc_off (h5.look 57 rfl) ?_
    show Code.wp _ kpPath _ a5 w1
    exact kp_path h k ho hkl ih w w1 lo hi T a5 pa pc (some ⟨b, 0, none⟩) ic pa' pc' ia' ic' hL hd' s h5.tl
theorem kept_all : ∀ (f : Fo), f.ok → ∀ (i : Nat) (a : Hd) (b : Fo), f.get i = some (a, b) → KeptC a b
  | .nil, _, i, a, b, e => by simp [Fo.get] at e
  | .cons h k r, o, 0, a, b, e => by
    simp only [Fo.get, Option.some.injEq, Prod.mk.injEq] at e
    obtain ⟨rfl, rfl⟩ := e
    exact kept_one _ _ o.1 o.2.2.2 (fun i c d e => kept_all k o.2.1 i c d e)
  | .cons h k r, o, i + 1, a, b, e => kept_all r o.2.2.1 i a b e
theorem kept_any (h : Hd) (k : Fo) (ho : h.ok) (hk : k.ok) (hl : k.len ≤ 1034834473170) : KeptC h k := kept_one h k ho hl (kept_all k hk)
end Go.Proofs.YthdmmhiifkebeaaDoor
