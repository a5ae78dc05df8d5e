/-
  The regions of package lex's one, one by one. Written by an AI agent.
-/
import Derived.Test.YtpggcmlddmckcaaDoorSg2
namespace Go.Proofs.YtpggcmlddmckcaaDoor
open Go.RowKit Go.Sort
set_option maxRecDepth 100000
theorem letters_on (a : Act) (h1 : a.tmps.size = 82) (h2 : a.defers = []) : ∃ f : Nat → Value, a = ⟨(List.toArray (f 0 :: f 1 :: f 2 :: f 3 :: f 4 :: f 5 :: f 6 :: f 7 :: f 8 :: f 9 :: f 10 :: f 11 :: f 12 :: f 13 :: f 14 :: f 15 :: f 16 :: f 17 :: f 18 :: f 19 :: f 20 :: f 21 :: f 22 :: f 23 :: f 24 :: f 25 :: f 26 :: f 27 :: f 28 :: f 29 :: f 30 :: f 31 :: f 32 :: f 33 :: f 34 :: f 35 :: f 36 :: f 37 :: f 38 :: f 39 :: f 40 :: f 41 :: f 42 :: f 43 :: f 44 :: f 45 :: f 46 :: f 47 :: f 48 :: f 49 :: f 50 :: f 51 :: f 52 :: f 53 :: f 54 :: f 55 :: f 56 :: f 57 :: f 58 :: f 59 :: f 60 :: f 61 :: f 62 :: f 63 :: f 64 :: f 65 :: f 66 :: f 67 :: f 68 :: f 69 :: f 70 :: f 71 :: f 72 :: f 73 :: f 74 :: f 75 :: f 76 :: f 77 :: f 78 :: f 79 :: f 80 :: f 81 :: [])), []⟩ ∧ ∀ k, slot a k = f k :=
  ⟨slot a, (spread a 82 h1 h2).trans (by kernel_rfl), fun _ => rfl⟩
noncomputable def r_on (n : Nat) : Code := ((Tryd.f37.body.bind (findR n)).getD .skip)
theorem far3 (w : World) (R : Nat) (u0 u1 u2 : Value) (x : Nat) (h : x ≠ R) : (((w.setCell ⟨R, 0, none⟩ u0).setCell ⟨R, 1, none⟩ u1).setCell ⟨R, 2, none⟩ u2).heap[x]? = w.heap[x]? := by
  rw [Below.heap_setCell _ _ _ _ h, Below.heap_setCell _ _ _ _ h, Below.heap_setCell _ _ _ _ h]
set_option maxHeartbeats 4000000 in
theorem on_r0 (a : Act) (w : World) (N : Act → World → Prop) (Q : Exit → Act → World → Prop) (l : List (Nat × Value)) (hs : Sl 82 a l) (hl : (l.map Prod.fst).all (fun k => [0, 1].contains k) = true)
     
    (hN : ∀ a', Sl 82 a' ((6, .pointer none) :: ((5, .int .i64 0) :: ((4, .pointer (some ⟨w.heap.size, 0, none⟩)) :: l))) → N a' (w.alloc (.cells #[.int .i64 0, .string ⟨#[]⟩, .int .i64 0] 48))) : (r_on 0).wp Tryd.prog (Exit.then N Q) a w := by
  have HN := Lib.hid hN
  have HL := Lib.hid hl
  obtain ⟨f, ea, hf⟩ : ∃ f : Nat → Value, a = ⟨(List.toArray (f 0 :: f 1 :: f 2 :: f 3 :: f 4 :: f 5 :: f 6 :: f 7 :: f 8 :: f 9 :: f 10 :: f 11 :: f 12 :: f 13 :: f 14 :: f 15 :: f 16 :: f 17 :: f 18 :: f 19 :: f 20 :: f 21 :: f 22 :: f 23 :: f 24 :: f 25 :: f 26 :: f 27 :: f 28 :: f 29 :: f 30 :: f 31 :: f 32 :: f 33 :: f 34 :: f 35 :: f 36 :: f 37 :: f 38 :: f 39 :: f 40 :: f 41 :: f 42 :: f 43 :: f 44 :: f 45 :: f 46 :: f 47 :: f 48 :: f 49 :: f 50 :: f 51 :: f 52 :: f 53 :: f 54 :: f 55 :: f 56 :: f 57 :: f 58 :: f 59 :: f 60 :: f 61 :: f 62 :: f 63 :: f 64 :: f 65 :: f 66 :: f 67 :: f 68 :: f 69 :: f 70 :: f 71 :: f 72 :: f 73 :: f 74 :: f 75 :: f 76 :: f 77 :: f 78 :: f 79 :: f 80 :: f 81 :: [])), []⟩ ∧ ∀ k, slot a k = f k := letters_on a hs.size hs.defers
  rw [ea]
  have HS := Lib.hid hs
  have HF := Lib.hid hf
  clear hs ea hf hN hl 
  conv => arg 2; whnf
  go_wp2_with fail
  refine HN.out _ ?_
  exact Sl.add (Sl.add (Sl.add (Sl.stay [0, 1] HS.out HF.out (by kernel_rfl) rfl ⟨by kernel_rfl, by kernel_rfl, trivial⟩ HL.out) (by kernel_rfl)) (by kernel_rfl)) (by kernel_rfl)
set_option maxHeartbeats 4000000 in
theorem on_r1 (a : Act) (w : World) (N : Act → World → Prop) (Q : Exit → Act → World → Prop) (l : List (Nat × Value)) (hs : Sl 82 a l) (hl : (l.map Prod.fst).all (fun k => [0, 1, 4].contains k) = true)
    (s : ByteArray) (a0 : Int) (c : Int) (c0 : 0 ≤ c) (c1 : c ≤ 255) (hi : ∀ w, (Instr.index 9 (.string s) (.int .i64 (a0))).run Tryd.prog w = .ok (.int .u8 c) w)  (h0 : l.lookup 0 = some (.string s)) (h1 : l.lookup 1 = some (.int .i64 a0))
    (hN : ∀ a', Sl 82 a' ((7, .int .i32 c) :: l) → N a' (w)) : (r_on 1).wp Tryd.prog (Exit.then N Q) a w := by
  have HN := Lib.hid hN
  have HL := Lib.hid hl
  have e0 := hs.look 0 h0
  have e1 := hs.look 1 h1
  obtain ⟨f, ea, hf⟩ : ∃ f : Nat → Value, a = ⟨(List.toArray (f 0 :: f 1 :: f 2 :: f 3 :: f 4 :: f 5 :: f 6 :: f 7 :: f 8 :: f 9 :: f 10 :: f 11 :: f 12 :: f 13 :: f 14 :: f 15 :: f 16 :: f 17 :: f 18 :: f 19 :: f 20 :: f 21 :: f 22 :: f 23 :: f 24 :: f 25 :: f 26 :: f 27 :: f 28 :: f 29 :: f 30 :: f 31 :: f 32 :: f 33 :: f 34 :: f 35 :: f 36 :: f 37 :: f 38 :: f 39 :: f 40 :: f 41 :: f 42 :: f 43 :: f 44 :: f 45 :: f 46 :: f 47 :: f 48 :: f 49 :: f 50 :: f 51 :: f 52 :: f 53 :: f 54 :: f 55 :: f 56 :: f 57 :: f 58 :: f 59 :: f 60 :: f 61 :: f 62 :: f 63 :: f 64 :: f 65 :: f 66 :: f 67 :: f 68 :: f 69 :: f 70 :: f 71 :: f 72 :: f 73 :: f 74 :: f 75 :: f 76 :: f 77 :: f 78 :: f 79 :: f 80 :: f 81 :: [])), []⟩ ∧ ∀ k, slot a k = f k := letters_on a hs.size hs.defers
  rw [hf] at e0 e1
  rw [ea, e0, e1]
  have HS := Lib.hid hs
  have HF := Lib.hid hf
  have E0 := Lib.hid e0
  have E1 := Lib.hid e1
  clear hs ea hf hN hl h0 e0 h1 e1
  have hw := wrap_small c0 c1
  conv => arg 2; whnf
  go_wp2_with fail
  refine HN.out _ ?_
  exact Sl.add (Sl.stay [0, 1, 4] HS.out HF.out (by kernel_rfl) rfl ⟨Eq.trans (by kernel_rfl) E0.out.symm, Eq.trans (by kernel_rfl) E1.out.symm, by kernel_rfl, trivial⟩ HL.out) (by kernel_rfl)
set_option maxHeartbeats 4000000 in
theorem on_r2 (a : Act) (w : World) (N : Act → World → Prop) (Q : Exit → Act → World → Prop) (l : List (Nat × Value)) (hs : Sl 82 a l) (hl : (l.map Prod.fst).all (fun k => [0, 1, 4, 7].contains k) = true)
    (c : Int) (b : Bool) (hb : (c == 59) = b)  (h7 : l.lookup 7 = some (.int .i32 c))
    (hN : ∀ a', Sl 82 a' ((17, .bool b) :: l) → N a' (w)) : (r_on 2).wp Tryd.prog (Exit.then N Q) a w := by
  have HN := Lib.hid hN
  have HL := Lib.hid hl
  have e7 := hs.look 7 h7
  obtain ⟨f, ea, hf⟩ : ∃ f : Nat → Value, a = ⟨(List.toArray (f 0 :: f 1 :: f 2 :: f 3 :: f 4 :: f 5 :: f 6 :: f 7 :: f 8 :: f 9 :: f 10 :: f 11 :: f 12 :: f 13 :: f 14 :: f 15 :: f 16 :: f 17 :: f 18 :: f 19 :: f 20 :: f 21 :: f 22 :: f 23 :: f 24 :: f 25 :: f 26 :: f 27 :: f 28 :: f 29 :: f 30 :: f 31 :: f 32 :: f 33 :: f 34 :: f 35 :: f 36 :: f 37 :: f 38 :: f 39 :: f 40 :: f 41 :: f 42 :: f 43 :: f 44 :: f 45 :: f 46 :: f 47 :: f 48 :: f 49 :: f 50 :: f 51 :: f 52 :: f 53 :: f 54 :: f 55 :: f 56 :: f 57 :: f 58 :: f 59 :: f 60 :: f 61 :: f 62 :: f 63 :: f 64 :: f 65 :: f 66 :: f 67 :: f 68 :: f 69 :: f 70 :: f 71 :: f 72 :: f 73 :: f 74 :: f 75 :: f 76 :: f 77 :: f 78 :: f 79 :: f 80 :: f 81 :: [])), []⟩ ∧ ∀ k, slot a k = f k := letters_on a hs.size hs.defers
  rw [hf] at e7
  rw [ea, e7]
  have HS := Lib.hid hs
  have HF := Lib.hid hf
  have E7 := Lib.hid e7
  clear hs ea hf hN hl h7 e7
  conv => arg 2; whnf
  go_wp2_with fail
  refine HN.out _ ?_
  exact Sl.add (Sl.stay [0, 1, 4, 7] HS.out HF.out (by kernel_rfl) rfl ⟨by kernel_rfl, by kernel_rfl, by kernel_rfl, Eq.trans (by kernel_rfl) E7.out.symm, trivial⟩ HL.out) (by kernel_rfl)
set_option maxHeartbeats 4000000 in
theorem on_r4 (a : Act) (w : World) (N : Act → World → Prop) (Q : Exit → Act → World → Prop) (l : List (Nat × Value)) (hs : Sl 82 a l) (hl : (l.map Prod.fst).all (fun k => [0, 1, 4, 7].contains k) = true)
    (c : Int) (b : Bool) (hb : (c == 34) = b)  (h7 : l.lookup 7 = some (.int .i32 c))
    (hN : ∀ a', Sl 82 a' ((24, .bool b) :: l) → N a' (w)) : (r_on 4).wp Tryd.prog (Exit.then N Q) a w := by
  have HN := Lib.hid hN
  have HL := Lib.hid hl
  have e7 := hs.look 7 h7
  obtain ⟨f, ea, hf⟩ : ∃ f : Nat → Value, a = ⟨(List.toArray (f 0 :: f 1 :: f 2 :: f 3 :: f 4 :: f 5 :: f 6 :: f 7 :: f 8 :: f 9 :: f 10 :: f 11 :: f 12 :: f 13 :: f 14 :: f 15 :: f 16 :: f 17 :: f 18 :: f 19 :: f 20 :: f 21 :: f 22 :: f 23 :: f 24 :: f 25 :: f 26 :: f 27 :: f 28 :: f 29 :: f 30 :: f 31 :: f 32 :: f 33 :: f 34 :: f 35 :: f 36 :: f 37 :: f 38 :: f 39 :: f 40 :: f 41 :: f 42 :: f 43 :: f 44 :: f 45 :: f 46 :: f 47 :: f 48 :: f 49 :: f 50 :: f 51 :: f 52 :: f 53 :: f 54 :: f 55 :: f 56 :: f 57 :: f 58 :: f 59 :: f 60 :: f 61 :: f 62 :: f 63 :: f 64 :: f 65 :: f 66 :: f 67 :: f 68 :: f 69 :: f 70 :: f 71 :: f 72 :: f 73 :: f 74 :: f 75 :: f 76 :: f 77 :: f 78 :: f 79 :: f 80 :: f 81 :: [])), []⟩ ∧ ∀ k, slot a k = f k := letters_on a hs.size hs.defers
  rw [hf] at e7
  rw [ea, e7]
  have HS := Lib.hid hs
  have HF := Lib.hid hf
  have E7 := Lib.hid e7
  clear hs ea hf hN hl h7 e7
  conv => arg 2; whnf
  go_wp2_with fail
  refine HN.out _ ?_
  exact Sl.add (Sl.stay [0, 1, 4, 7] HS.out HF.out (by kernel_rfl) rfl ⟨by kernel_rfl, by kernel_rfl, by kernel_rfl, Eq.trans (by kernel_rfl) E7.out.symm, trivial⟩ HL.out) (by kernel_rfl)
set_option maxHeartbeats 4000000 in
theorem on_r3 (a : Act) (w : World) (N : Act → World → Prop) (Q : Exit → Act → World → Prop) (l : List (Nat × Value)) (hs : Sl 82 a l) (hl : (l.map Prod.fst).all (fun k => [].contains k) = true)
    (a0 : Int) (h0 : 0 ≤ a0) (h1 : a0 ≤ 140737488355328) (R : Nat) (u0 u1 u2 : Value) (hR : Blk w R 48 #[u0, u1, u2])  (h1 : slot a 1 = .int .i64 a0) (h4 : slot a 4 = .pointer (some ⟨R, 0, none⟩))
    (hN : ∀ a' w', Sl 82 a' ((6, .pointer none) :: ((5, .int .i64 (a0 + 1)) :: ((4, .pointer (some ⟨R, 0, none⟩)) :: l))) → Blk w' R 48 #[.int .i64 1, .string ⟨#[]⟩, .int .i64 a0] → (∀ B z, Below B z w → B ≤ R → Below B z w') → N a' w') : (r_on 3).wp Tryd.prog (Exit.then N Q) a w := by
  have HN := Lib.hid hN
  have HL := Lib.hid hl
  have e1 := h1
  have e4 := h4
  obtain ⟨f, ea, hf⟩ : ∃ f : Nat → Value, a = ⟨(List.toArray (f 0 :: f 1 :: f 2 :: f 3 :: f 4 :: f 5 :: f 6 :: f 7 :: f 8 :: f 9 :: f 10 :: f 11 :: f 12 :: f 13 :: f 14 :: f 15 :: f 16 :: f 17 :: f 18 :: f 19 :: f 20 :: f 21 :: f 22 :: f 23 :: f 24 :: f 25 :: f 26 :: f 27 :: f 28 :: f 29 :: f 30 :: f 31 :: f 32 :: f 33 :: f 34 :: f 35 :: f 36 :: f 37 :: f 38 :: f 39 :: f 40 :: f 41 :: f 42 :: f 43 :: f 44 :: f 45 :: f 46 :: f 47 :: f 48 :: f 49 :: f 50 :: f 51 :: f 52 :: f 53 :: f 54 :: f 55 :: f 56 :: f 57 :: f 58 :: f 59 :: f 60 :: f 61 :: f 62 :: f 63 :: f 64 :: f 65 :: f 66 :: f 67 :: f 68 :: f 69 :: f 70 :: f 71 :: f 72 :: f 73 :: f 74 :: f 75 :: f 76 :: f 77 :: f 78 :: f 79 :: f 80 :: f 81 :: [])), []⟩ ∧ ∀ k, slot a k = f k := letters_on a hs.size hs.defers
  rw [hf] at e1 e4
  rw [ea, e1, e4]
  have HS := Lib.hid hs
  have HF := Lib.hid hf
  have E1 := Lib.hid e1
  have E4 := Lib.hid e4
  clear hs ea hf hN hl h1 e1 h4 e4
  have hRK := Lib.hid hR
  have c0 := hR.cell 0
  have c1 := hR.cell 1
  have c2 := hR.cell 2
  simp at c0 c1 c2
  have hfz := fun j => hR.frozen j
  have hRlt := hR.lt
  clear hR
  conv => arg 2; whnf
  go_wp2_with fail
  refine HN.out _ _ ?_ ((((hRK.out.set_ 0 (.int .i64 1)).set_ 1 (.string ⟨#[]⟩)).set_ 2 (.int .i64 a0))) ((fun B z h hB => ((h.setCell (p := ⟨R, 0, none⟩) hB _).setCell (p := ⟨R, 1, none⟩) hB _).setCell (p := ⟨R, 2, none⟩) hB _))
  exact Sl.add (Sl.add (Sl.add (Sl.stay [] HS.out HF.out (by kernel_rfl) rfl trivial HL.out) (by kernel_rfl)) (by kernel_rfl)) (by kernel_rfl)
set_option maxHeartbeats 4000000 in
theorem on_r5 (a : Act) (w : World) (N : Act → World → Prop) (Q : Exit → Act → World → Prop) (l : List (Nat × Value)) (hs : Sl 82 a l) (hl : (l.map Prod.fst).all (fun k => [0, 1, 4].contains k) = true)
    (s : ByteArray) (a0 : Int) (PO : World → ByteArray → Int → Value → Prop) (HC : Calls Tryd.prog 39 #[.string s, .int .i64 a0] w fun e w' => ∃ tx nx ev, e = .returned (.tuple #[.string tx, .int .i64 nx, ev]) ∧ PO w' tx nx ev ∧ Below w.heap.size w w')  (h0 : l.lookup 0 = some (.string s)) (h1 : l.lookup 1 = some (.int .i64 a0))
    (hN : ∀ a' w' tx nx ev, Sl 82 a' ((10, ev) :: ((9, .int .i64 nx) :: ((8, .string tx) :: l))) → PO w' tx nx ev → Below w.heap.size w w' → N a' w') : (r_on 5).wp Tryd.prog (Exit.then N Q) a w := by
  have HN := Lib.hid hN
  have HL := Lib.hid hl
  have e0 := hs.look 0 h0
  have e1 := hs.look 1 h1
  obtain ⟨f, ea, hf⟩ : ∃ f : Nat → Value, a = ⟨(List.toArray (f 0 :: f 1 :: f 2 :: f 3 :: f 4 :: f 5 :: f 6 :: f 7 :: f 8 :: f 9 :: f 10 :: f 11 :: f 12 :: f 13 :: f 14 :: f 15 :: f 16 :: f 17 :: f 18 :: f 19 :: f 20 :: f 21 :: f 22 :: f 23 :: f 24 :: f 25 :: f 26 :: f 27 :: f 28 :: f 29 :: f 30 :: f 31 :: f 32 :: f 33 :: f 34 :: f 35 :: f 36 :: f 37 :: f 38 :: f 39 :: f 40 :: f 41 :: f 42 :: f 43 :: f 44 :: f 45 :: f 46 :: f 47 :: f 48 :: f 49 :: f 50 :: f 51 :: f 52 :: f 53 :: f 54 :: f 55 :: f 56 :: f 57 :: f 58 :: f 59 :: f 60 :: f 61 :: f 62 :: f 63 :: f 64 :: f 65 :: f 66 :: f 67 :: f 68 :: f 69 :: f 70 :: f 71 :: f 72 :: f 73 :: f 74 :: f 75 :: f 76 :: f 77 :: f 78 :: f 79 :: f 80 :: f 81 :: [])), []⟩ ∧ ∀ k, slot a k = f k := letters_on a hs.size hs.defers
  rw [hf] at e0 e1
  rw [ea, e0, e1]
  have HS := Lib.hid hs
  have HF := Lib.hid hf
  have E0 := Lib.hid e0
  have E1 := Lib.hid e1
  clear hs ea hf hN hl h0 e0 h1 e1
  have HC := Lib.hid HC
  conv => arg 2; whnf
  go_wp2_with fail
  refine HC.out.mono ?_
  rintro e w' ⟨tx, nx, ev, rfl, hpo, hb⟩
  go_wp2_with fail
  refine HN.out _ _ _ _ _ ?_ hpo hb
  exact Sl.add (Sl.add (Sl.add (Sl.stay [0, 1, 4] HS.out HF.out (by kernel_rfl) rfl ⟨Eq.trans (by kernel_rfl) E0.out.symm, Eq.trans (by kernel_rfl) E1.out.symm, by kernel_rfl, trivial⟩ HL.out) (by kernel_rfl)) (by kernel_rfl)) (by kernel_rfl)
set_option maxHeartbeats 4000000 in
theorem on_r6 (a : Act) (w : World) (N : Act → World → Prop) (Q : Exit → Act → World → Prop) (l : List (Nat × Value)) (hs : Sl 82 a l) (hl : (l.map Prod.fst).all (fun k => [].contains k) = true)
    (a0 nx : Int) (tx : ByteArray) (ev : Value) (R : Nat) (u0 u1 u2 : Value) (hR : Blk w R 48 #[u0, u1, u2])  (h1 : slot a 1 = .int .i64 a0) (h8 : slot a 8 = .string tx) (h9 : slot a 9 = .int .i64 nx) (h10 : slot a 10 = ev) (h4 : slot a 4 = .pointer (some ⟨R, 0, none⟩))
    (hN : ∀ a' w', Sl 82 a' ((6, ev) :: ((5, .int .i64 nx) :: ((4, .pointer (some ⟨R, 0, none⟩)) :: l))) → Blk w' R 48 #[.int .i64 6, .string tx, .int .i64 a0] → (∀ x, x ≠ R → w'.heap[x]? = w.heap[x]?) → (∀ B z, Below B z w → B ≤ R → Below B z w') → N a' w') : (r_on 6).wp Tryd.prog (Exit.then N Q) a w := by
  have HN := Lib.hid hN
  have HL := Lib.hid hl
  have e1 := h1
  have e8 := h8
  have e9 := h9
  have e10 := h10
  have e4 := h4
  obtain ⟨f, ea, hf⟩ : ∃ f : Nat → Value, a = ⟨(List.toArray (f 0 :: f 1 :: f 2 :: f 3 :: f 4 :: f 5 :: f 6 :: f 7 :: f 8 :: f 9 :: f 10 :: f 11 :: f 12 :: f 13 :: f 14 :: f 15 :: f 16 :: f 17 :: f 18 :: f 19 :: f 20 :: f 21 :: f 22 :: f 23 :: f 24 :: f 25 :: f 26 :: f 27 :: f 28 :: f 29 :: f 30 :: f 31 :: f 32 :: f 33 :: f 34 :: f 35 :: f 36 :: f 37 :: f 38 :: f 39 :: f 40 :: f 41 :: f 42 :: f 43 :: f 44 :: f 45 :: f 46 :: f 47 :: f 48 :: f 49 :: f 50 :: f 51 :: f 52 :: f 53 :: f 54 :: f 55 :: f 56 :: f 57 :: f 58 :: f 59 :: f 60 :: f 61 :: f 62 :: f 63 :: f 64 :: f 65 :: f 66 :: f 67 :: f 68 :: f 69 :: f 70 :: f 71 :: f 72 :: f 73 :: f 74 :: f 75 :: f 76 :: f 77 :: f 78 :: f 79 :: f 80 :: f 81 :: [])), []⟩ ∧ ∀ k, slot a k = f k := letters_on a hs.size hs.defers
  rw [hf] at e1 e8 e9 e10 e4
  rw [ea, e1, e8, e9, e10, e4]
  have HS := Lib.hid hs
  have HF := Lib.hid hf
  have E1 := Lib.hid e1
  have E8 := Lib.hid e8
  have E9 := Lib.hid e9
  have E10 := Lib.hid e10
  have E4 := Lib.hid e4
  clear hs ea hf hN hl h1 e1 h8 e8 h9 e9 h10 e10 h4 e4
  have hRK := Lib.hid hR
  have c0 := hR.cell 0
  have c1 := hR.cell 1
  have c2 := hR.cell 2
  simp at c0 c1 c2
  have hfz := fun j => hR.frozen j
  have hRlt := hR.lt
  clear hR
  conv => arg 2; whnf
  go_wp2_with fail
  refine HN.out _ _ ?_ ((((hRK.out.set_ 0 (.int .i64 6)).set_ 1 (.string tx)).set_ 2 (.int .i64 a0))) ((far3 _ R _ _ _)) ((fun B z h hB => ((h.setCell (p := ⟨R, 0, none⟩) hB _).setCell (p := ⟨R, 1, none⟩) hB _).setCell (p := ⟨R, 2, none⟩) hB _))
  exact Sl.add (Sl.add (Sl.add (Sl.stay [] HS.out HF.out (by kernel_rfl) rfl trivial HL.out) (by kernel_rfl)) (by kernel_rfl)) (by kernel_rfl)
set_option maxHeartbeats 4000000 in
theorem on_r7 (a : Act) (w : World) (N : Act → World → Prop) (Q : Exit → Act → World → Prop) (l : List (Nat × Value)) (hs : Sl 82 a l) (hl : (l.map Prod.fst).all (fun k => [0, 1, 4, 7].contains k) = true)
    (c : Int) (b : Bool) (HC : ∀ w, Calls Tryd.prog 42 #[.int .i32 c] w fun e w' => e = .returned (.bool b) ∧ w = w')  (h7 : l.lookup 7 = some (.int .i32 c))
    (hN : ∀ a', Sl 82 a' ((39, .bool b) :: l) → N a' (w)) : (r_on 7).wp Tryd.prog (Exit.then N Q) a w := by
  have HN := Lib.hid hN
  have HL := Lib.hid hl
  have e7 := hs.look 7 h7
  obtain ⟨f, ea, hf⟩ : ∃ f : Nat → Value, a = ⟨(List.toArray (f 0 :: f 1 :: f 2 :: f 3 :: f 4 :: f 5 :: f 6 :: f 7 :: f 8 :: f 9 :: f 10 :: f 11 :: f 12 :: f 13 :: f 14 :: f 15 :: f 16 :: f 17 :: f 18 :: f 19 :: f 20 :: f 21 :: f 22 :: f 23 :: f 24 :: f 25 :: f 26 :: f 27 :: f 28 :: f 29 :: f 30 :: f 31 :: f 32 :: f 33 :: f 34 :: f 35 :: f 36 :: f 37 :: f 38 :: f 39 :: f 40 :: f 41 :: f 42 :: f 43 :: f 44 :: f 45 :: f 46 :: f 47 :: f 48 :: f 49 :: f 50 :: f 51 :: f 52 :: f 53 :: f 54 :: f 55 :: f 56 :: f 57 :: f 58 :: f 59 :: f 60 :: f 61 :: f 62 :: f 63 :: f 64 :: f 65 :: f 66 :: f 67 :: f 68 :: f 69 :: f 70 :: f 71 :: f 72 :: f 73 :: f 74 :: f 75 :: f 76 :: f 77 :: f 78 :: f 79 :: f 80 :: f 81 :: [])), []⟩ ∧ ∀ k, slot a k = f k := letters_on a hs.size hs.defers
  rw [hf] at e7
  rw [ea, e7]
  have HS := Lib.hid hs
  have HF := Lib.hid hf
  have E7 := Lib.hid e7
  clear hs ea hf hN hl h7 e7
  have HC := Lib.hid HC
  conv => arg 2; whnf
  go_wp2_with fail
  refine (HC.out _).mono ?_
  rintro e w' ⟨rfl, rfl⟩
  go_wp2_with fail
  refine HN.out _ ?_
  exact Sl.add (Sl.stay [0, 1, 4, 7] HS.out HF.out (by kernel_rfl) rfl ⟨by kernel_rfl, by kernel_rfl, by kernel_rfl, Eq.trans (by kernel_rfl) E7.out.symm, trivial⟩ HL.out) (by kernel_rfl)
set_option maxHeartbeats 4000000 in
theorem on_r9 (a : Act) (w : World) (N : Act → World → Prop) (Q : Exit → Act → World → Prop) (l : List (Nat × Value)) (hs : Sl 82 a l) (hl : (l.map Prod.fst).all (fun k => [0, 1, 4, 7].contains k) = true)
    (c : Int) (b : Bool) (HC : ∀ w, Calls Tryd.prog 41 #[.int .i32 c] w fun e w' => e = .returned (.bool b) ∧ w = w')  (h7 : l.lookup 7 = some (.int .i32 c))
    (hN : ∀ a', Sl 82 a' ((48, .bool b) :: l) → N a' (w)) : (r_on 9).wp Tryd.prog (Exit.then N Q) a w := by
  have HN := Lib.hid hN
  have HL := Lib.hid hl
  have e7 := hs.look 7 h7
  obtain ⟨f, ea, hf⟩ : ∃ f : Nat → Value, a = ⟨(List.toArray (f 0 :: f 1 :: f 2 :: f 3 :: f 4 :: f 5 :: f 6 :: f 7 :: f 8 :: f 9 :: f 10 :: f 11 :: f 12 :: f 13 :: f 14 :: f 15 :: f 16 :: f 17 :: f 18 :: f 19 :: f 20 :: f 21 :: f 22 :: f 23 :: f 24 :: f 25 :: f 26 :: f 27 :: f 28 :: f 29 :: f 30 :: f 31 :: f 32 :: f 33 :: f 34 :: f 35 :: f 36 :: f 37 :: f 38 :: f 39 :: f 40 :: f 41 :: f 42 :: f 43 :: f 44 :: f 45 :: f 46 :: f 47 :: f 48 :: f 49 :: f 50 :: f 51 :: f 52 :: f 53 :: f 54 :: f 55 :: f 56 :: f 57 :: f 58 :: f 59 :: f 60 :: f 61 :: f 62 :: f 63 :: f 64 :: f 65 :: f 66 :: f 67 :: f 68 :: f 69 :: f 70 :: f 71 :: f 72 :: f 73 :: f 74 :: f 75 :: f 76 :: f 77 :: f 78 :: f 79 :: f 80 :: f 81 :: [])), []⟩ ∧ ∀ k, slot a k = f k := letters_on a hs.size hs.defers
  rw [hf] at e7
  rw [ea, e7]
  have HS := Lib.hid hs
  have HF := Lib.hid hf
  have E7 := Lib.hid e7
  clear hs ea hf hN hl h7 e7
  have HC := Lib.hid HC
  conv => arg 2; whnf
  go_wp2_with fail
  refine (HC.out _).mono ?_
  rintro e w' ⟨rfl, rfl⟩
  go_wp2_with fail
  refine HN.out _ ?_
  exact Sl.add (Sl.stay [0, 1, 4, 7] HS.out HF.out (by kernel_rfl) rfl ⟨by kernel_rfl, by kernel_rfl, by kernel_rfl, Eq.trans (by kernel_rfl) E7.out.symm, trivial⟩ HL.out) (by kernel_rfl)
set_option maxHeartbeats 4000000 in
theorem on_r8 (a : Act) (w : World) (N : Act → World → Prop) (Q : Exit → Act → World → Prop) (l : List (Nat × Value)) (hs : Sl 82 a l) (hl : (l.map Prod.fst).all (fun k => [].contains k) = true)
    (s : ByteArray) (a0 : Int) (PO : World → Int → ByteArray → Int → Int → Value → Prop) (HC : Calls Tryd.prog 52 #[.string s, .int .i64 a0] w fun e w' => ∃ k tx p nx ev, e = .returned (.tuple #[.agg #[.int .i64 k, .string tx, .int .i64 p], .int .i64 nx, ev]) ∧ PO w' k tx p nx ev ∧ Below w.heap.size w w') (R : Nat) (u0 u1 u2 : Value) (hR : Blk w R 48 #[u0, u1, u2])  (h0 : slot a 0 = .string s) (h1 : slot a 1 = .int .i64 a0) (h4 : slot a 4 = .pointer (some ⟨R, 0, none⟩))
    (hN : ∀ a' w' w2 k tx p nx ev, Sl 82 a' ((6, ev) :: ((5, .int .i64 nx) :: ((4, .pointer (some ⟨R, 0, none⟩)) :: l))) → PO w2 k tx p nx ev → Blk w' R 48 #[.int .i64 k, .string tx, .int .i64 p] → (∀ x, x ≠ R → w'.heap[x]? = w2.heap[x]?) → Below w.heap.size w w2 → (∀ B z, Below B z w → B ≤ R → B ≤ w.heap.size → Below B z w') → N a' w') : (r_on 8).wp Tryd.prog (Exit.then N Q) a w := by
  have HN := Lib.hid hN
  have HL := Lib.hid hl
  have e0 := h0
  have e1 := h1
  have e4 := h4
  obtain ⟨f, ea, hf⟩ : ∃ f : Nat → Value, a = ⟨(List.toArray (f 0 :: f 1 :: f 2 :: f 3 :: f 4 :: f 5 :: f 6 :: f 7 :: f 8 :: f 9 :: f 10 :: f 11 :: f 12 :: f 13 :: f 14 :: f 15 :: f 16 :: f 17 :: f 18 :: f 19 :: f 20 :: f 21 :: f 22 :: f 23 :: f 24 :: f 25 :: f 26 :: f 27 :: f 28 :: f 29 :: f 30 :: f 31 :: f 32 :: f 33 :: f 34 :: f 35 :: f 36 :: f 37 :: f 38 :: f 39 :: f 40 :: f 41 :: f 42 :: f 43 :: f 44 :: f 45 :: f 46 :: f 47 :: f 48 :: f 49 :: f 50 :: f 51 :: f 52 :: f 53 :: f 54 :: f 55 :: f 56 :: f 57 :: f 58 :: f 59 :: f 60 :: f 61 :: f 62 :: f 63 :: f 64 :: f 65 :: f 66 :: f 67 :: f 68 :: f 69 :: f 70 :: f 71 :: f 72 :: f 73 :: f 74 :: f 75 :: f 76 :: f 77 :: f 78 :: f 79 :: f 80 :: f 81 :: [])), []⟩ ∧ ∀ k, slot a k = f k := letters_on a hs.size hs.defers
  rw [hf] at e0 e1 e4
  rw [ea, e0, e1, e4]
  have HS := Lib.hid hs
  have HF := Lib.hid hf
  have E0 := Lib.hid e0
  have E1 := Lib.hid e1
  have E4 := Lib.hid e4
  clear hs ea hf hN hl h0 e0 h1 e1 h4 e4
  have HC := Lib.hid HC
  have hlt := hR.lt
  have hRK := Lib.hid hR
  clear hR
  conv => arg 2; whnf
  go_wp2_with fail
  refine HC.out.mono ?_
  rintro e w' ⟨k, tx, p, nx, ev, rfl, hpo, hb⟩
  have hR2 := hRK.out.below hb hlt
  have hRL := Lib.hid hR2
  have c0 := hR2.cell 0
  have c1 := hR2.cell 1
  have c2 := hR2.cell 2
  simp at c0 c1 c2
  have hfz := fun j => hR2.frozen j
  clear hR2
  go_wp2_with fail
  refine HN.out _ _ _ _ _ _ _ _ ?_ hpo ((((hRL.out.set_ 0 (.int .i64 k)).set_ 1 (.string tx)).set_ 2 (.int .i64 p))) ((far3 _ R _ _ _)) hb ((fun B z h hB hw => ((((h.trans (hb.mono hw)).setCell (p := ⟨R, 0, none⟩) hB _).setCell (p := ⟨R, 1, none⟩) hB _).setCell (p := ⟨R, 2, none⟩) hB _)))
  exact Sl.add (Sl.add (Sl.add (Sl.stay [] HS.out HF.out (by kernel_rfl) rfl trivial HL.out) (by kernel_rfl)) (by kernel_rfl)) (by kernel_rfl)
set_option maxHeartbeats 4000000 in
theorem on_r17 (a : Act) (w : World) (N : Act → World → Prop) (Q : Exit → Act → World → Prop) (l : List (Nat × Value)) (hs : Sl 82 a l) (hl : (l.map Prod.fst).all (fun k => [].contains k) = true)
    (s : ByteArray) (a0 : Int) (PO : World → Int → ByteArray → Int → Int → Value → Prop) (HC : Calls Tryd.prog 54 #[.string s, .int .i64 a0] w fun e w' => ∃ k tx p nx ev, e = .returned (.tuple #[.agg #[.int .i64 k, .string tx, .int .i64 p], .int .i64 nx, ev]) ∧ PO w' k tx p nx ev ∧ Below w.heap.size w w') (R : Nat) (u0 u1 u2 : Value) (hR : Blk w R 48 #[u0, u1, u2])  (h0 : slot a 0 = .string s) (h1 : slot a 1 = .int .i64 a0) (h4 : slot a 4 = .pointer (some ⟨R, 0, none⟩))
    (hN : ∀ a' w' w2 k tx p nx ev, Sl 82 a' ((6, ev) :: ((5, .int .i64 nx) :: ((4, .pointer (some ⟨R, 0, none⟩)) :: l))) → PO w2 k tx p nx ev → Blk w' R 48 #[.int .i64 k, .string tx, .int .i64 p] → (∀ x, x ≠ R → w'.heap[x]? = w2.heap[x]?) → Below w.heap.size w w2 → (∀ B z, Below B z w → B ≤ R → B ≤ w.heap.size → Below B z w') → N a' w') : (r_on 17).wp Tryd.prog (Exit.then N Q) a w := by
  have HN := Lib.hid hN
  have HL := Lib.hid hl
  have e0 := h0
  have e1 := h1
  have e4 := h4
  obtain ⟨f, ea, hf⟩ : ∃ f : Nat → Value, a = ⟨(List.toArray (f 0 :: f 1 :: f 2 :: f 3 :: f 4 :: f 5 :: f 6 :: f 7 :: f 8 :: f 9 :: f 10 :: f 11 :: f 12 :: f 13 :: f 14 :: f 15 :: f 16 :: f 17 :: f 18 :: f 19 :: f 20 :: f 21 :: f 22 :: f 23 :: f 24 :: f 25 :: f 26 :: f 27 :: f 28 :: f 29 :: f 30 :: f 31 :: f 32 :: f 33 :: f 34 :: f 35 :: f 36 :: f 37 :: f 38 :: f 39 :: f 40 :: f 41 :: f 42 :: f 43 :: f 44 :: f 45 :: f 46 :: f 47 :: f 48 :: f 49 :: f 50 :: f 51 :: f 52 :: f 53 :: f 54 :: f 55 :: f 56 :: f 57 :: f 58 :: f 59 :: f 60 :: f 61 :: f 62 :: f 63 :: f 64 :: f 65 :: f 66 :: f 67 :: f 68 :: f 69 :: f 70 :: f 71 :: f 72 :: f 73 :: f 74 :: f 75 :: f 76 :: f 77 :: f 78 :: f 79 :: f 80 :: f 81 :: [])), []⟩ ∧ ∀ k, slot a k = f k := letters_on a hs.size hs.defers
  rw [hf] at e0 e1 e4
  rw [ea, e0, e1, e4]
  have HS := Lib.hid hs
  have HF := Lib.hid hf
  have E0 := Lib.hid e0
  have E1 := Lib.hid e1
  have E4 := Lib.hid e4
  clear hs ea hf hN hl h0 e0 h1 e1 h4 e4
  have HC := Lib.hid HC
  have hlt := hR.lt
  have hRK := Lib.hid hR
  clear hR
  conv => arg 2; whnf
  go_wp2_with fail
  refine HC.out.mono ?_
  rintro e w' ⟨k, tx, p, nx, ev, rfl, hpo, hb⟩
  have hR2 := hRK.out.below hb hlt
  have hRL := Lib.hid hR2
  have c0 := hR2.cell 0
  have c1 := hR2.cell 1
  have c2 := hR2.cell 2
  simp at c0 c1 c2
  have hfz := fun j => hR2.frozen j
  clear hR2
  go_wp2_with fail
  refine HN.out _ _ _ _ _ _ _ _ ?_ hpo ((((hRL.out.set_ 0 (.int .i64 k)).set_ 1 (.string tx)).set_ 2 (.int .i64 p))) ((far3 _ R _ _ _)) hb ((fun B z h hB hw => ((((h.trans (hb.mono hw)).setCell (p := ⟨R, 0, none⟩) hB _).setCell (p := ⟨R, 1, none⟩) hB _).setCell (p := ⟨R, 2, none⟩) hB _)))
  exact Sl.add (Sl.add (Sl.add (Sl.stay [] HS.out HF.out (by kernel_rfl) rfl trivial HL.out) (by kernel_rfl)) (by kernel_rfl)) (by kernel_rfl)
set_option maxHeartbeats 4000000 in
theorem on_r10 (a : Act) (w : World) (N : Act → World → Prop) (Q : Exit → Act → World → Prop) (l : List (Nat × Value)) (hs : Sl 82 a l) (hl : (l.map Prod.fst).all (fun k => [0, 1, 4].contains k) = true)
    (s : ByteArray) (a0 : Int) (q : ByteArray) (n : Int) (hq : ∀ w, (Instr.slice 9 (.string s) (some (.int .i64 (a0))) none none).run Tryd.prog w = .ok (.string q) w) (HC : ∀ w, Calls Tryd.prog 53 #[.string q, .bool true] w fun e w' => e = .returned (.int .i64 n) ∧ Below w.heap.size w w')  (h0 : l.lookup 0 = some (.string s)) (h1 : l.lookup 1 = some (.int .i64 a0))
    (hN : ∀ a' w', Sl 82 a' ((11, .int .i64 n) :: l) → Below w.heap.size w w' → N a' w') : (r_on 10).wp Tryd.prog (Exit.then N Q) a w := by
  have HN := Lib.hid hN
  have HL := Lib.hid hl
  have e0 := hs.look 0 h0
  have e1 := hs.look 1 h1
  obtain ⟨f, ea, hf⟩ : ∃ f : Nat → Value, a = ⟨(List.toArray (f 0 :: f 1 :: f 2 :: f 3 :: f 4 :: f 5 :: f 6 :: f 7 :: f 8 :: f 9 :: f 10 :: f 11 :: f 12 :: f 13 :: f 14 :: f 15 :: f 16 :: f 17 :: f 18 :: f 19 :: f 20 :: f 21 :: f 22 :: f 23 :: f 24 :: f 25 :: f 26 :: f 27 :: f 28 :: f 29 :: f 30 :: f 31 :: f 32 :: f 33 :: f 34 :: f 35 :: f 36 :: f 37 :: f 38 :: f 39 :: f 40 :: f 41 :: f 42 :: f 43 :: f 44 :: f 45 :: f 46 :: f 47 :: f 48 :: f 49 :: f 50 :: f 51 :: f 52 :: f 53 :: f 54 :: f 55 :: f 56 :: f 57 :: f 58 :: f 59 :: f 60 :: f 61 :: f 62 :: f 63 :: f 64 :: f 65 :: f 66 :: f 67 :: f 68 :: f 69 :: f 70 :: f 71 :: f 72 :: f 73 :: f 74 :: f 75 :: f 76 :: f 77 :: f 78 :: f 79 :: f 80 :: f 81 :: [])), []⟩ ∧ ∀ k, slot a k = f k := letters_on a hs.size hs.defers
  rw [hf] at e0 e1
  rw [ea, e0, e1]
  have HS := Lib.hid hs
  have HF := Lib.hid hf
  have E0 := Lib.hid e0
  have E1 := Lib.hid e1
  clear hs ea hf hN hl h0 e0 h1 e1
  have HC := Lib.hid HC
  conv => arg 2; whnf
  go_wp2_with fail
  refine (HC.out _).mono ?_
  rintro e w' ⟨rfl, hb⟩
  go_wp2_with fail
  refine HN.out _ _ ?_ hb
  exact Sl.add (Sl.stay [0, 1, 4] HS.out HF.out (by kernel_rfl) rfl ⟨Eq.trans (by kernel_rfl) E0.out.symm, Eq.trans (by kernel_rfl) E1.out.symm, by kernel_rfl, trivial⟩ HL.out) (by kernel_rfl)
set_option maxHeartbeats 4000000 in
theorem on_r11 (a : Act) (w : World) (N : Act → World → Prop) (Q : Exit → Act → World → Prop) (l : List (Nat × Value)) (hs : Sl 82 a l) (hl : (l.map Prod.fst).all (fun k => [0, 1, 4, 11].contains k) = true)
    (s : ByteArray) (a0 : Int) (n : Int) (tx : ByteArray) (h0 : 0 ≤ a0) (h1 : 0 ≤ n) (h2 : a0 + n ≤ 140737488355328) (ht : ∀ w, (Instr.slice 9 (.string s) (some (.int .i64 (a0))) (some (.int .i64 (a0 + n))) none).run Tryd.prog w = .ok (.string tx) w)  (h0 : l.lookup 0 = some (.string s)) (h1 : l.lookup 1 = some (.int .i64 a0)) (h11 : l.lookup 11 = some (.int .i64 n))
    (hN : ∀ a', Sl 82 a' ((12, .pointer (some ⟨w.heap.size, 0, none⟩)) :: l) → N a' (w.alloc (.cells #[.int .i64 2, .string tx, .int .i64 a0] 48))) : (r_on 11).wp Tryd.prog (Exit.then N Q) a w := by
  have HN := Lib.hid hN
  have HL := Lib.hid hl
  have e0 := hs.look 0 h0
  have e1 := hs.look 1 h1
  have e11 := hs.look 11 h11
  obtain ⟨f, ea, hf⟩ : ∃ f : Nat → Value, a = ⟨(List.toArray (f 0 :: f 1 :: f 2 :: f 3 :: f 4 :: f 5 :: f 6 :: f 7 :: f 8 :: f 9 :: f 10 :: f 11 :: f 12 :: f 13 :: f 14 :: f 15 :: f 16 :: f 17 :: f 18 :: f 19 :: f 20 :: f 21 :: f 22 :: f 23 :: f 24 :: f 25 :: f 26 :: f 27 :: f 28 :: f 29 :: f 30 :: f 31 :: f 32 :: f 33 :: f 34 :: f 35 :: f 36 :: f 37 :: f 38 :: f 39 :: f 40 :: f 41 :: f 42 :: f 43 :: f 44 :: f 45 :: f 46 :: f 47 :: f 48 :: f 49 :: f 50 :: f 51 :: f 52 :: f 53 :: f 54 :: f 55 :: f 56 :: f 57 :: f 58 :: f 59 :: f 60 :: f 61 :: f 62 :: f 63 :: f 64 :: f 65 :: f 66 :: f 67 :: f 68 :: f 69 :: f 70 :: f 71 :: f 72 :: f 73 :: f 74 :: f 75 :: f 76 :: f 77 :: f 78 :: f 79 :: f 80 :: f 81 :: [])), []⟩ ∧ ∀ k, slot a k = f k := letters_on a hs.size hs.defers
  rw [hf] at e0 e1 e11
  rw [ea, e0, e1, e11]
  have HS := Lib.hid hs
  have HF := Lib.hid hf
  have E0 := Lib.hid e0
  have E1 := Lib.hid e1
  have E11 := Lib.hid e11
  clear hs ea hf hN hl h0 e0 h1 e1 h11 e11
  conv => arg 2; whnf
  go_wp2_with fail
  refine HN.out _ ?_
  exact Sl.add (Sl.stay [0, 1, 4, 11] HS.out HF.out (by kernel_rfl) rfl ⟨Eq.trans (by kernel_rfl) E0.out.symm, Eq.trans (by kernel_rfl) E1.out.symm, by kernel_rfl, Eq.trans (by kernel_rfl) E11.out.symm, trivial⟩ HL.out) (by kernel_rfl)
set_option maxHeartbeats 4000000 in
theorem on_r12 (a : Act) (w : World) (N : Act → World → Prop) (Q : Exit → Act → World → Prop) (l : List (Nat × Value)) (hs : Sl 82 a l) (hl : (l.map Prod.fst).all (fun k => [0, 1, 4, 11, 12].contains k) = true)
    (n : Int) (b : Bool) (h : decide (40 < n) = b)  (h11 : l.lookup 11 = some (.int .i64 n))
    (hN : ∀ a', Sl 82 a' ((64, .bool b) :: l) → N a' (w)) : (r_on 12).wp Tryd.prog (Exit.then N Q) a w := by
  have HN := Lib.hid hN
  have HL := Lib.hid hl
  have e11 := hs.look 11 h11
  obtain ⟨f, ea, hf⟩ : ∃ f : Nat → Value, a = ⟨(List.toArray (f 0 :: f 1 :: f 2 :: f 3 :: f 4 :: f 5 :: f 6 :: f 7 :: f 8 :: f 9 :: f 10 :: f 11 :: f 12 :: f 13 :: f 14 :: f 15 :: f 16 :: f 17 :: f 18 :: f 19 :: f 20 :: f 21 :: f 22 :: f 23 :: f 24 :: f 25 :: f 26 :: f 27 :: f 28 :: f 29 :: f 30 :: f 31 :: f 32 :: f 33 :: f 34 :: f 35 :: f 36 :: f 37 :: f 38 :: f 39 :: f 40 :: f 41 :: f 42 :: f 43 :: f 44 :: f 45 :: f 46 :: f 47 :: f 48 :: f 49 :: f 50 :: f 51 :: f 52 :: f 53 :: f 54 :: f 55 :: f 56 :: f 57 :: f 58 :: f 59 :: f 60 :: f 61 :: f 62 :: f 63 :: f 64 :: f 65 :: f 66 :: f 67 :: f 68 :: f 69 :: f 70 :: f 71 :: f 72 :: f 73 :: f 74 :: f 75 :: f 76 :: f 77 :: f 78 :: f 79 :: f 80 :: f 81 :: [])), []⟩ ∧ ∀ k, slot a k = f k := letters_on a hs.size hs.defers
  rw [hf] at e11
  rw [ea, e11]
  have HS := Lib.hid hs
  have HF := Lib.hid hf
  have E11 := Lib.hid e11
  clear hs ea hf hN hl h11 e11
  have HB := Lib.hid h
  clear h
  conv => arg 2; whnf
  go_wp2_with fail
  refine HN.out _ ?_
  exact Sl.add (Sl.stay [0, 1, 4, 11, 12] HS.out HF.out (by kernel_rfl) rfl ⟨by kernel_rfl, by kernel_rfl, by kernel_rfl, Eq.trans (by kernel_rfl) E11.out.symm, by kernel_rfl, trivial⟩ HL.out) (Eq.trans (b := .bool (decide (40 < n))) (by kernel_rfl) (by rw [HB.out]))
set_option maxHeartbeats 4000000 in
theorem on_r13 (a : Act) (w : World) (N : Act → World → Prop) (Q : Exit → Act → World → Prop) (l : List (Nat × Value)) (hs : Sl 82 a l) (hl : (l.map Prod.fst).all (fun k => [].contains k) = true)
    (a0 : Int) (g : Nat) (k0 p0 : Int) (tx : ByteArray) (hT : Blk w g 48 #[.int .i64 k0, .string tx, .int .i64 p0]) (R : Nat) (u0 u1 u2 : Value) (hR : Blk w R 48 #[u0, u1, u2]) (hgR : g ≠ R)  (h1 : slot a 1 = .int .i64 a0) (h12 : slot a 12 = .pointer (some ⟨g, 0, none⟩)) (h4 : slot a 4 = .pointer (some ⟨R, 0, none⟩))
    (hN : ∀ a' w', Sl 82 a' ((6, .pointer (some ⟨w.heap.size, 0, none⟩)) :: ((5, .int .i64 0) :: ((4, .pointer (some ⟨R, 0, none⟩)) :: l))) → Blk w' R 48 #[.int .i64 k0, .string tx, .int .i64 p0] → Blk w' w.heap.size 26 #[.int .i64 13, .int .i64 a0, .string ⟨#[]⟩] → (∀ B z, Below B z w → B ≤ R → Below B z w') → N a' w') : (r_on 13).wp Tryd.prog (Exit.then N Q) a w := by
  have HN := Lib.hid hN
  have HL := Lib.hid hl
  have e1 := h1
  have e12 := h12
  have e4 := h4
  obtain ⟨f, ea, hf⟩ : ∃ f : Nat → Value, a = ⟨(List.toArray (f 0 :: f 1 :: f 2 :: f 3 :: f 4 :: f 5 :: f 6 :: f 7 :: f 8 :: f 9 :: f 10 :: f 11 :: f 12 :: f 13 :: f 14 :: f 15 :: f 16 :: f 17 :: f 18 :: f 19 :: f 20 :: f 21 :: f 22 :: f 23 :: f 24 :: f 25 :: f 26 :: f 27 :: f 28 :: f 29 :: f 30 :: f 31 :: f 32 :: f 33 :: f 34 :: f 35 :: f 36 :: f 37 :: f 38 :: f 39 :: f 40 :: f 41 :: f 42 :: f 43 :: f 44 :: f 45 :: f 46 :: f 47 :: f 48 :: f 49 :: f 50 :: f 51 :: f 52 :: f 53 :: f 54 :: f 55 :: f 56 :: f 57 :: f 58 :: f 59 :: f 60 :: f 61 :: f 62 :: f 63 :: f 64 :: f 65 :: f 66 :: f 67 :: f 68 :: f 69 :: f 70 :: f 71 :: f 72 :: f 73 :: f 74 :: f 75 :: f 76 :: f 77 :: f 78 :: f 79 :: f 80 :: f 81 :: [])), []⟩ ∧ ∀ k, slot a k = f k := letters_on a hs.size hs.defers
  rw [hf] at e1 e12 e4
  rw [ea, e1, e12, e4]
  have HS := Lib.hid hs
  have HF := Lib.hid hf
  have E1 := Lib.hid e1
  have E12 := Lib.hid e12
  have E4 := Lib.hid e4
  clear hs ea hf hN hl h1 e1 h12 e12 h4 e4
  have hTK := Lib.hid hT
  have d0 := hT.cell 0
  have d1 := hT.cell 1
  have d2 := hT.cell 2
  simp at d0 d1 d2
  have hfg := fun j => hT.frozen j
  have hTlt := hT.lt
  clear hT
  have hRK := Lib.hid hR
  have c0 := hR.cell 0
  have c1 := hR.cell 1
  have c2 := hR.cell 2
  simp at c0 c1 c2
  have hfz := fun j => hR.frozen j
  have hRlt := hR.lt
  clear hR
  conv => arg 2; whnf
  refine wp_region_eff (fun W => W.cell? ⟨g, 0, none⟩ = some (.int .i64 k0) ∧ W.cell? ⟨g, 1, none⟩ = some (.string tx) ∧ W.cell? ⟨g, 2, none⟩ = some (.int .i64 p0)) [0, 1] [2] [_, _] [_] [_, _, _] 3 (by kernel_rfl) rfl rfl rfl rfl (by kernel_rfl) ?_
  iterate 2
    apply wpP_step _ rfl (by simp) rfl
    · rintro W ⟨e0, e1, e2⟩
      go_wp2_with fail
      exact ⟨rfl, rfl⟩
    · rfl
  refine wpP_nil ?_
  refine And.intro ⟨d0, d1, d2⟩ ?_
  go_wp2_with fail
  refine (wrong_any _ _ _).mono ?_
  rintro e w' ⟨rfl, rfl⟩
  go_wp2_with fail
  refine And.intro ⟨?_, ?_, ?_⟩ ?_
  · exact (Blk.alloc (w := { w with drawn := w.drawn + 1 }) hTK.out _).cell 0
  · exact (Blk.alloc (w := { w with drawn := w.drawn + 1 }) hTK.out _).cell 1
  · exact (Blk.alloc (w := { w with drawn := w.drawn + 1 }) hTK.out _).cell 2
  change wpList _ _ _ _ _ _
  go_wp2_with fail
  refine HN.out _ _ ?_ (((((hRK.out.set_ 0 (.int .i64 k0)).set_ 1 (.string tx)).set_ 2 (.int .i64 p0)).alloc _)) ((blk_new_of _ _ _ (by simp [World.setCell]))) ((fun B z h hB => Below.drew ((((h.setCell (p := ⟨R, 0, none⟩) hB _).setCell (p := ⟨R, 1, none⟩) hB _).setCell (p := ⟨R, 2, none⟩) hB _).alloc (by simp [World.setCell]; omega) _)))
  exact Sl.add (Sl.add (Sl.add (Sl.stay [] HS.out HF.out (by kernel_rfl) rfl trivial HL.out) (by kernel_rfl)) (by kernel_rfl)) (by kernel_rfl)
set_option maxHeartbeats 4000000 in
theorem on_r14 (a : Act) (w : World) (N : Act → World → Prop) (Q : Exit → Act → World → Prop) (l : List (Nat × Value)) (hs : Sl 82 a l) (hl : (l.map Prod.fst).all (fun k => [0, 1, 4, 11, 12].contains k) = true)
    (g : Nat) (k0 p0 : Int) (tx : ByteArray) (hT : Blk w g 48 #[.int .i64 k0, .string tx, .int .i64 p0]) (b : Bool) (HC : Calls Tryd.prog 23 #[.string tx] w fun e w' => e = .returned (.bool b) ∧ Below w.heap.size w w')  (h12 : l.lookup 12 = some (.pointer (some ⟨g, 0, none⟩)))
    (hN : ∀ a' w', Sl 82 a' ((70, .bool b) :: l) → Below w.heap.size w w' → N a' w') : (r_on 14).wp Tryd.prog (Exit.then N Q) a w := by
  have HN := Lib.hid hN
  have HL := Lib.hid hl
  have e12 := hs.look 12 h12
  obtain ⟨f, ea, hf⟩ : ∃ f : Nat → Value, a = ⟨(List.toArray (f 0 :: f 1 :: f 2 :: f 3 :: f 4 :: f 5 :: f 6 :: f 7 :: f 8 :: f 9 :: f 10 :: f 11 :: f 12 :: f 13 :: f 14 :: f 15 :: f 16 :: f 17 :: f 18 :: f 19 :: f 20 :: f 21 :: f 22 :: f 23 :: f 24 :: f 25 :: f 26 :: f 27 :: f 28 :: f 29 :: f 30 :: f 31 :: f 32 :: f 33 :: f 34 :: f 35 :: f 36 :: f 37 :: f 38 :: f 39 :: f 40 :: f 41 :: f 42 :: f 43 :: f 44 :: f 45 :: f 46 :: f 47 :: f 48 :: f 49 :: f 50 :: f 51 :: f 52 :: f 53 :: f 54 :: f 55 :: f 56 :: f 57 :: f 58 :: f 59 :: f 60 :: f 61 :: f 62 :: f 63 :: f 64 :: f 65 :: f 66 :: f 67 :: f 68 :: f 69 :: f 70 :: f 71 :: f 72 :: f 73 :: f 74 :: f 75 :: f 76 :: f 77 :: f 78 :: f 79 :: f 80 :: f 81 :: [])), []⟩ ∧ ∀ k, slot a k = f k := letters_on a hs.size hs.defers
  rw [hf] at e12
  rw [ea, e12]
  have HS := Lib.hid hs
  have HF := Lib.hid hf
  have E12 := Lib.hid e12
  clear hs ea hf hN hl h12 e12
  have HC := Lib.hid HC
  have hTK := Lib.hid hT
  have d0 := hT.cell 0
  have d1 := hT.cell 1
  have d2 := hT.cell 2
  simp at d0 d1 d2
  have hfg := fun j => hT.frozen j
  have hTlt := hT.lt
  clear hT
  conv => arg 2; whnf
  go_wp2_with fail
  refine HC.out.mono ?_
  rintro e w' ⟨rfl, hb⟩
  go_wp2_with fail
  refine HN.out _ _ ?_ hb
  exact Sl.add (Sl.stay [0, 1, 4, 11, 12] HS.out HF.out (by kernel_rfl) rfl ⟨by kernel_rfl, by kernel_rfl, by kernel_rfl, by kernel_rfl, Eq.trans (by kernel_rfl) E12.out.symm, trivial⟩ HL.out) (by kernel_rfl)
set_option maxHeartbeats 4000000 in
theorem on_r15 (a : Act) (w : World) (N : Act → World → Prop) (Q : Exit → Act → World → Prop) (l : List (Nat × Value)) (hs : Sl 82 a l) (hl : (l.map Prod.fst).all (fun k => [0, 1, 4, 11, 12].contains k) = true)
    (g : Nat) (k0 p0 : Int) (tx : ByteArray) (hT : Blk w g 48 #[.int .i64 k0, .string tx, .int .i64 p0])  (h12 : l.lookup 12 = some (.pointer (some ⟨g, 0, none⟩)))
    (hN : ∀ a', Sl 82 a' l → N a' (w.setCell ⟨g, 0, none⟩ (.int .i64 3))) : (r_on 15).wp Tryd.prog (Exit.then N Q) a w := by
  have HN := Lib.hid hN
  have HL := Lib.hid hl
  have e12 := hs.look 12 h12
  obtain ⟨f, ea, hf⟩ : ∃ f : Nat → Value, a = ⟨(List.toArray (f 0 :: f 1 :: f 2 :: f 3 :: f 4 :: f 5 :: f 6 :: f 7 :: f 8 :: f 9 :: f 10 :: f 11 :: f 12 :: f 13 :: f 14 :: f 15 :: f 16 :: f 17 :: f 18 :: f 19 :: f 20 :: f 21 :: f 22 :: f 23 :: f 24 :: f 25 :: f 26 :: f 27 :: f 28 :: f 29 :: f 30 :: f 31 :: f 32 :: f 33 :: f 34 :: f 35 :: f 36 :: f 37 :: f 38 :: f 39 :: f 40 :: f 41 :: f 42 :: f 43 :: f 44 :: f 45 :: f 46 :: f 47 :: f 48 :: f 49 :: f 50 :: f 51 :: f 52 :: f 53 :: f 54 :: f 55 :: f 56 :: f 57 :: f 58 :: f 59 :: f 60 :: f 61 :: f 62 :: f 63 :: f 64 :: f 65 :: f 66 :: f 67 :: f 68 :: f 69 :: f 70 :: f 71 :: f 72 :: f 73 :: f 74 :: f 75 :: f 76 :: f 77 :: f 78 :: f 79 :: f 80 :: f 81 :: [])), []⟩ ∧ ∀ k, slot a k = f k := letters_on a hs.size hs.defers
  rw [hf] at e12
  rw [ea, e12]
  have HS := Lib.hid hs
  have HF := Lib.hid hf
  have E12 := Lib.hid e12
  clear hs ea hf hN hl h12 e12
  have hTK := Lib.hid hT
  have d0 := hT.cell 0
  have d1 := hT.cell 1
  have d2 := hT.cell 2
  simp at d0 d1 d2
  have hfg := fun j => hT.frozen j
  have hTlt := hT.lt
  clear hT
  conv => arg 2; whnf
  go_wp2_with fail
  refine HN.out _ ?_
  exact Sl.stay [0, 1, 4, 11, 12] HS.out HF.out (by kernel_rfl) rfl ⟨by kernel_rfl, by kernel_rfl, by kernel_rfl, by kernel_rfl, Eq.trans (by kernel_rfl) E12.out.symm, trivial⟩ HL.out
set_option maxHeartbeats 4000000 in
theorem on_r16 (a : Act) (w : World) (N : Act → World → Prop) (Q : Exit → Act → World → Prop) (l : List (Nat × Value)) (hs : Sl 82 a l) (hl : (l.map Prod.fst).all (fun k => [].contains k) = true)
    (a0 n : Int) (h0 : 0 ≤ a0) (h1 : 0 ≤ n) (h2 : a0 + n ≤ 140737488355328) (g : Nat) (k0 p0 : Int) (tx : ByteArray) (hT : Blk w g 48 #[.int .i64 k0, .string tx, .int .i64 p0]) (R : Nat) (u0 u1 u2 : Value) (hR : Blk w R 48 #[u0, u1, u2]) (hgR : g ≠ R)  (h1 : slot a 1 = .int .i64 a0) (h11 : slot a 11 = .int .i64 n) (h12 : slot a 12 = .pointer (some ⟨g, 0, none⟩)) (h4 : slot a 4 = .pointer (some ⟨R, 0, none⟩))
    (hN : ∀ a' w', Sl 82 a' ((6, .pointer none) :: ((5, .int .i64 (a0 + n)) :: ((4, .pointer (some ⟨R, 0, none⟩)) :: l))) → Blk w' R 48 #[.int .i64 k0, .string tx, .int .i64 p0] → (∀ B z, Below B z w → B ≤ R → Below B z w') → N a' w') : (r_on 16).wp Tryd.prog (Exit.then N Q) a w := by
  have HN := Lib.hid hN
  have HL := Lib.hid hl
  have e1 := h1
  have e11 := h11
  have e12 := h12
  have e4 := h4
  obtain ⟨f, ea, hf⟩ : ∃ f : Nat → Value, a = ⟨(List.toArray (f 0 :: f 1 :: f 2 :: f 3 :: f 4 :: f 5 :: f 6 :: f 7 :: f 8 :: f 9 :: f 10 :: f 11 :: f 12 :: f 13 :: f 14 :: f 15 :: f 16 :: f 17 :: f 18 :: f 19 :: f 20 :: f 21 :: f 22 :: f 23 :: f 24 :: f 25 :: f 26 :: f 27 :: f 28 :: f 29 :: f 30 :: f 31 :: f 32 :: f 33 :: f 34 :: f 35 :: f 36 :: f 37 :: f 38 :: f 39 :: f 40 :: f 41 :: f 42 :: f 43 :: f 44 :: f 45 :: f 46 :: f 47 :: f 48 :: f 49 :: f 50 :: f 51 :: f 52 :: f 53 :: f 54 :: f 55 :: f 56 :: f 57 :: f 58 :: f 59 :: f 60 :: f 61 :: f 62 :: f 63 :: f 64 :: f 65 :: f 66 :: f 67 :: f 68 :: f 69 :: f 70 :: f 71 :: f 72 :: f 73 :: f 74 :: f 75 :: f 76 :: f 77 :: f 78 :: f 79 :: f 80 :: f 81 :: [])), []⟩ ∧ ∀ k, slot a k = f k := letters_on a hs.size hs.defers
  rw [hf] at e1 e11 e12 e4
  rw [ea, e1, e11, e12, e4]
  have HS := Lib.hid hs
  have HF := Lib.hid hf
  have E1 := Lib.hid e1
  have E11 := Lib.hid e11
  have E12 := Lib.hid e12
  have E4 := Lib.hid e4
  clear hs ea hf hN hl h1 e1 h11 e11 h12 e12 h4 e4
  have hTK := Lib.hid hT
  have d0 := hT.cell 0
  have d1 := hT.cell 1
  have d2 := hT.cell 2
  simp at d0 d1 d2
  have hfg := fun j => hT.frozen j
  have hTlt := hT.lt
  clear hT
  have hRK := Lib.hid hR
  have c0 := hR.cell 0
  have c1 := hR.cell 1
  have c2 := hR.cell 2
  simp at c0 c1 c2
  have hfz := fun j => hR.frozen j
  have hRlt := hR.lt
  clear hR
  conv => arg 2; whnf
  go_wp2_with fail
  refine HN.out _ _ ?_ ((((hRK.out.set_ 0 (.int .i64 k0)).set_ 1 (.string tx)).set_ 2 (.int .i64 p0))) ((fun B z h hB => ((h.setCell (p := ⟨R, 0, none⟩) hB _).setCell (p := ⟨R, 1, none⟩) hB _).setCell (p := ⟨R, 2, none⟩) hB _))
  exact Sl.add (Sl.add (Sl.add (Sl.stay [] HS.out HF.out (by kernel_rfl) rfl trivial HL.out) (by kernel_rfl)) (by kernel_rfl)) (by kernel_rfl)
end Go.Proofs.YtpggcmlddmckcaaDoor
