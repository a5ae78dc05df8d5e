/-
  The regions of package lex's one, one by one. Contract of one in package lex. Written by an AI agent.
-/
import Derived.Test.YtpggcmlddmckcaaDoorSg2
namespace Go.Proofs.YtpggcmlddmckcaaDoor
open Go.RowKit Go.Sort
set_option maxRecDepth 100000
theorem letters_on (a : Act) (h1 : a.tmps.size = 82) (h2 : a.defers = []) : ∃ f : Nat → Value, a = ⟨(List.toArray (f 0 :: f 1 :: f 2 :: f 3 :: f 4 :: f 5 :: f 6 :: f 7 :: f 8 :: f 9 :: f 10 :: f 11 :: f 12 :: f 13 :: f 14 :: f 15 :: f 16 :: f 17 :: f 18 :: f 19 :: f 20 :: f 21 :: f 22 :: f 23 :: f 24 :: f 25 :: f 26 :: f 27 :: f 28 :: f 29 :: f 30 :: f 31 :: f 32 :: f 33 :: f 34 :: f 35 :: f 36 :: f 37 :: f 38 :: f 39 :: f 40 :: f 41 :: f 42 :: f 43 :: f 44 :: f 45 :: f 46 :: f 47 :: f 48 :: f 49 :: f 50 :: f 51 :: f 52 :: f 53 :: f 54 :: f 55 :: f 56 :: f 57 :: f 58 :: f 59 :: f 60 :: f 61 :: f 62 :: f 63 :: f 64 :: f 65 :: f 66 :: f 67 :: f 68 :: f 69 :: f 70 :: f 71 :: f 72 :: f 73 :: f 74 :: f 75 :: f 76 :: f 77 :: f 78 :: f 79 :: f 80 :: f 81 :: [])), []⟩ ∧ ∀ k, slot a k = f k :=
  ⟨slot a, (spread a 82 h1 h2).trans (by kernel_rfl), fun _ => rfl⟩
noncomputable def r_on (n : Nat) : Code := ((Tryd.f37.body.bind (findR n)).getD .skip)
theorem far3 (w : World) (R : Nat) (u0 u1 u2 : Value) (x : Nat) (h : x ≠ R) : (((w.setCell ⟨R, 0, none⟩ u0).setCell ⟨R, 1, none⟩ u1).setCell ⟨R, 2, none⟩ u2).heap[x]? = w.heap[x]? := by
  rw [Below.heap_setCell _ _ _ _ h, Below.heap_setCell _ _ _ _ h, Below.heap_setCell _ _ _ _ h]
set_option maxHeartbeats 4000000 in
theorem on_r0 (a : Act) (w : World) (N : Act → World → Prop) (Q : Exit → Act → World → Prop) (l : List (Nat × Value)) (hs : Sl 82 a l) (hl : (l.map Prod.fst).all (fun k => [0, 1].contains k) = true)
     
    (hN : ∀ a', Sl 82 a' ((6, .pointer none) :: ((5, .int .i64 0) :: ((4, .pointer (some ⟨w.heap.size, 0, none⟩)) :: l))) → N a' (w.alloc (.cells #[.int .i64 0, .string ⟨#[]⟩, .int .i64 0] 48))) : (r_on 0).wp Tryd.prog (Exit.then N Q) a w := by
  have HN := Lib.hid hN
  have HL := Lib.hid hl
  obtain ⟨f, ea, hf⟩ : ∃ f : Nat → Value, a = ⟨(List.toArray (f 0 :: f 1 :: f 2 :: f 3 :: f 4 :: f 5 :: f 6 :: f 7 :: f 8 :: f 9 :: f 10 :: f 11 :: f 12 :: f 13 :: f 14 :: f 15 :: f 16 :: f 17 :: f 18 :: f 19 :: f 20 :: f 21 :: f 22 :: f 23 :: f 24 :: f 25 :: f 26 :: f 27 :: f 28 :: f 29 :: f 30 :: f 31 :: f 32 :: f 33 :: f 34 :: f 35 :: f 36 :: f 37 :: f 38 :: f 39 :: f 40 :: f 41 :: f 42 :: f 43 :: f 44 :: f 45 :: f 46 :: f 47 :: f 48 :: f 49 :: f 50 :: f 51 :: f 52 :: f 53 :: f 54 :: f 55 :: f 56 :: f 57 :: f 58 :: f 59 :: f 60 :: f 61 :: f 62 :: f 63 :: f 64 :: f 65 :: f 66 :: f 67 :: f 68 :: f 69 :: f 70 :: f 71 :: f 72 :: f 73 :: f 74 :: f 75 :: f 76 :: f 77 :: f 78 :: f 79 :: f 80 :: f 81 :: [])), []⟩ ∧ ∀ k, slot a k = f k := letters_on a hs.size hs.defers
  rw [ea]
  have HS := Lib.hid hs
  have HF := Lib.hid hf
  clear hs ea hf hN hl 
  conv => arg 2; whnf
  go_wp2_with fail
  refine HN.out _ ?_
  exact Sl.add (Sl.add (Sl.add (Sl.stay [0, 1] HS.out HF.out (by kernel_rfl) rfl ⟨by kernel_rfl, by kernel_rfl, trivial⟩ HL.out) (by kernel_rfl)) (by kernel_rfl)) (by kernel_rfl)
set_option maxHeartbeats 4000000 in
theorem on_r1 (a : Act) (w : World) (N : Act → World → Prop) (Q : Exit → Act → World → Prop) (l : List (Nat × Value)) (hs : Sl 82 a l) (hl : (l.map Prod.fst).all (fun k => [0, 1, 4].contains k) = true)
    (s : ByteArray) (a0 : Int) (c : Int) (c0 : 0 ≤ c) (c1 : c ≤ 255) (hi : ∀ w, (Instr.index 9 (.string s) (.int .i64 (a0))).run Tryd.prog w = .ok (.int .u8 c) w)  (h0 : l.lookup 0 = some (.string s)) (h1 : l.lookup 1 = some (.int .i64 a0))
    (hN : ∀ a', Sl 82 a' ((7, .int .i32 c) :: l) → N a' (w)) : (r_on 1).wp Tryd.prog (Exit.then N Q) a w := by
  have HN := Lib.hid hN
  have HL := Lib.hid hl
  have e0 := hs.look 0 h0
  have e1 := hs.look 1 h1
  obtain ⟨f, ea, hf⟩ : ∃ f : Nat → Value, a = ⟨(List.toArray (f 0 :: f 1 :: f 2 :: f 3 :: f 4 :: f 5 :: f 6 :: f 7 :: f 8 :: f 9 :: f 10 :: f 11 :: f 12 :: f 13 :: f 14 :: f 15 :: f 16 :: f 17 :: f 18 :: f 19 :: f 20 :: f 21 :: f 22 :: f 23 :: f 24 :: f 25 :: f 26 :: f 27 :: f 28 :: f 29 :: f 30 :: f 31 :: f 32 :: f 33 :: f 34 :: f 35 :: f 36 :: f 37 :: f 38 :: f 39 :: f 40 :: f 41 :: f 42 :: f 43 :: f 44 :: f 45 :: f 46 :: f 47 :: f 48 :: f 49 :: f 50 :: f 51 :: f 52 :: f 53 :: f 54 :: f 55 :: f 56 :: f 57 :: f 58 :: f 59 :: f 60 :: f 61 :: f 62 :: f 63 :: f 64 :: f 65 :: f 66 :: f 67 :: f 68 :: f 69 :: f 70 :: f 71 :: f 72 :: f 73 :: f 74 :: f 75 :: f 76 :: f 77 :: f 78 :: f 79 :: f 80 :: f 81 :: [])), []⟩ ∧ ∀ k, slot a k = f k := letters_on a hs.size hs.defers
  rw [hf] at e0 e1
  rw [ea, e0, e1]
  have HS := Lib.hid hs
  have HF := Lib.hid hf
  have E0 := Lib.hid e0
  have E1 := Lib.hid e1
  clear hs ea hf hN hl h0 e0 h1 e1
  have hw := wrap_small c0 c1
  conv => arg 2; whnf
  go_wp2_with fail
  refine HN.out _ ?_
  exact Sl.add (Sl.stay [0, 1, 4] HS.out HF.out (by kernel_rfl) rfl ⟨Eq.trans (by kernel_rfl) E0.out.symm, Eq.trans (by kernel_rfl) E1.out.symm, by kernel_rfl, trivial⟩ HL.out) (by kernel_rfl)
set_option maxHeartbeats 4000000 in
theorem on_r2 (a : Act) (w : World) (N : Act → World → Prop) (Q : Exit → Act → World → Prop) (l : List (Nat × Value)) (hs : Sl 82 a l) (hl : (l.map Prod.fst).all (fun k => [0, 1, 4, 7].contains k) = true)
    (c : Int) (b : Bool) (hb : (c == 59) = b)  (h7 : l.lookup 7 = some (.int .i32 c))
    (hN : ∀ a', Sl 82 a' ((17, .bool b) :: l) → N a' (w)) : (r_on 2).wp Tryd.prog (Exit.then N Q) a w := by
  have HN := Lib.hid hN
  have HL := Lib.hid hl
  have e7 := hs.look 7 h7
  obtain ⟨f, ea, hf⟩ : ∃ f : Nat → Value, a = ⟨(List.toArray (f 0 :: f 1 :: f 2 :: f 3 :: f 4 :: f 5 :: f 6 :: f 7 :: f 8 :: f 9 :: f 10 :: f 11 :: f 12 :: f 13 :: f 14 :: f 15 :: f 16 :: f 17 :: f 18 :: f 19 :: f 20 :: f 21 :: f 22 :: f 23 :: f 24 :: f 25 :: f 26 :: f 27 :: f 28 :: f 29 :: f 30 :: f 31 :: f 32 :: f 33 :: f 34 :: f 35 :: f 36 :: f 37 :: f 38 :: f 39 :: f 40 :: f 41 :: f 42 :: f 43 :: f 44 :: f 45 :: f 46 :: f 47 :: f 48 :: f 49 :: f 50 :: f 51 :: f 52 :: f 53 :: f 54 :: f 55 :: f 56 :: f 57 :: f 58 :: f 59 :: f 60 :: f 61 :: f 62 :: f 63 :: f 64 :: f 65 :: f 66 :: f 67 :: f 68 :: f 69 :: f 70 :: f 71 :: f 72 :: f 73 :: f 74 :: f 75 :: f 76 :: f 77 :: f 78 :: f 79 :: f 80 :: f 81 :: [])), []⟩ ∧ ∀ k, slot a k = f k := letters_on a hs.size hs.defers
  rw [hf] at e7
  rw [ea, e7]
  have HS := Lib.hid hs
  have HF := Lib.hid hf
  have E7 := Lib.hid e7
  clear hs ea hf hN hl h7 e7
  conv => arg 2; whnf
  go_wp2_with fail
  refine HN.out _ ?_
  exact Sl.add (Sl.stay [0, 1, 4, 7] HS.out HF.out (by kernel_rfl) rfl ⟨by kernel_rfl, by kernel_rfl, by kernel_rfl, Eq.trans (by kernel_rfl) E7.out.symm, trivial⟩ HL.out) (by kernel_rfl)
set_option maxHeartbeats 4000000 in
theorem on_r4 (a : Act) (w : World) (N : Act → World → Prop) (Q : Exit → Act → World → Prop) (l : List (Nat × Value)) (hs : Sl 82 a l) (hl : (l.map Prod.fst).all (fun k => [0, 1, 4, 7].contains k) = true)
    (c : Int) (b : Bool) (hb : (c == 34) = b)  (h7 : l.lookup 7 = some (.int .i32 c))
    (hN : ∀ a', Sl 82 a' ((24, .bool b) :: l) → N a' (w)) : (r_on 4).wp Tryd.prog (Exit.then N Q) a w := by
  have HN := Lib.hid hN
  have HL := Lib.hid hl
  have e7 := hs.look 7 h7
  obtain ⟨f, ea, hf⟩ : ∃ f : Nat → Value, a = ⟨(List.toArray (f 0 :: f 1 :: f 2 :: f 3 :: f 4 :: f 5 :: f 6 :: f 7 :: f 8 :: f 9 :: f 10 :: f 11 :: f 12 :: f 13 :: f 14 :: f 15 :: f 16 :: f 17 :: f 18 :: f 19 :: f 20 :: f 21 :: f 22 :: f 23 :: f 24 :: f 25 :: f 26 :: f 27 :: f 28 :: f 29 :: f 30 :: f 31 :: f 32 :: f 33 :: f 34 :: f 35 :: f 36 :: f 37 :: f 38 :: f 39 :: f 40 :: f 41 :: f 42 :: f 43 :: f 44 :: f 45 :: f 46 :: f 47 :: f 48 :: f 49 :: f 50 :: f 51 :: f 52 :: f 53 :: f 54 :: f 55 :: f 56 :: f 57 :: f 58 :: f 59 :: f 60 :: f 61 :: f 62 :: f 63 :: f 64 :: f 65 :: f 66 :: f 67 :: f 68 :: f 69 :: f 70 :: f 71 :: f 72 :: f 73 :: f 74 :: f 75 :: f 76 :: f 77 :: f 78 :: f 79 :: f 80 :: f 81 :: [])), []⟩ ∧ ∀ k, slot a k = f k := letters_on a hs.size hs.defers
  rw [hf] at e7
  rw [ea, e7]
  have HS := Lib.hid hs
  have HF := Lib.hid hf
  have E7 := Lib.hid e7
  clear hs ea hf hN hl h7 e7
  conv => arg 2; whnf
  go_wp2_with fail
  refine HN.out _ ?_
  exact Sl.add (Sl.stay [0, 1, 4, 7] HS.out HF.out (by kernel_rfl) rfl ⟨by kernel_rfl, by kernel_rfl, by kernel_rfl, Eq.trans (by kernel_rfl) E7.out.symm, trivial⟩ HL.out) (by kernel_rfl)
set_option maxHeartbeats 4000000 in
theorem on_r3 (a : Act) (w : World) (N : Act → World → Prop) (Q : Exit → Act → World → Prop) (l : List (Nat × Value)) (hs : Sl 82 a l) (hl : (l.map Prod.fst).all (fun k => [].contains k) = true)
    (a0 : Int) (h0 : 0 ≤ a0) (h1 : a0 ≤ 140737488355328) (R : Nat) (u0 u1 u2 : Value) (hR : Blk w R 48 #[u0, u1, u2])  (h1 : slot a 1 = .int .i64 a0) (h4 : slot a 4 = .pointer (some ⟨R, 0, none⟩))
    (hN : ∀ a' w', Sl 82 a' ((6, .pointer none) :: ((5, .int .i64 (a0 + 1)) :: ((4, .pointer (some ⟨R, 0, none⟩)) :: l))) → Blk w' R 48 #[.int .i64 1, .string ⟨#[]⟩, .int .i64 a0] → (∀ B z, Below B z w → B ≤ R → Below B z w') → N a' w') : (r_on 3).wp Tryd.prog (Exit.then N Q) a w := by
  have HN := Lib.hid hN
  have HL := Lib.hid hl
  have e1 := h1
  have e4 := h4
  obtain ⟨f, ea, hf⟩ : ∃ f : Nat → Value, a = ⟨(List.toArray (f 0 :: f 1 :: f 2 :: f 3 :: f 4 :: f 5 :: f 6 :: f 7 :: f 8 :: f 9 :: f 10 :: f 11 :: f 12 :: f 13 :: f 14 :: f 15 :: f 16 :: f 17 :: f 18 :: f 19 :: f 20 :: f 21 :: f 22 :: f 23 :: f 24 :: f 25 :: f 26 :: f 27 :: f 28 :: f 29 :: f 30 :: f 31 :: f 32 :: f 33 :: f 34 :: f 35 :: f 36 :: f 37 :: f 38 :: f 39 :: f 40 :: f 41 :: f 42 :: f 43 :: f 44 :: f 45 :: f 46 :: f 47 :: f 48 :: f 49 :: f 50 :: f 51 :: f 52 :: f 53 :: f 54 :: f 55 :: f 56 :: f 57 :: f 58 :: f 59 :: f 60 :: f 61 :: f 62 :: f 63 :: f 64 :: f 65 :: f 66 :: f 67 :: f 68 :: f 69 :: f 70 :: f 71 :: f 72 :: f 73 :: f 74 :: f 75 :: f 76 :: f 77 :: f 78 :: f 79 :: f 80 :: f 81 :: [])), []⟩ ∧ ∀ k, slot a k = f k := letters_on a hs.size hs.defers
  rw [hf] at e1 e4
  rw [ea, e1, e4]
  have HS := Lib.hid hs
  have HF := Lib.hid hf
  have E1 := Lib.hid e1
  have E4 := Lib.hid e4
  clear hs ea hf hN hl h1 e1 h4 e4
  have hRK := Lib.hid hR
  have c0 := hR.cell 0
  have c1 := hR.cell 1
  have c2 := hR.cell 2
  simp at c0 c1 c2
  have hfz := fun j => hR.frozen j
  have hRlt := hR.lt
  clear hR
  conv => arg 2; whnf
  go_wp2_with fail
  refine HN.out _ _ ?_ ((((hRK.out.set_ 0 (.int .i64 1)).set_ 1 (.string ⟨#[]⟩)).set_ 2 (.int .i64 a0))) ((fun B z h hB => ((h.setCell (p := ⟨R, 0, none⟩) hB _).setCell (p := ⟨R, 1, none⟩) hB _).setCell (p := ⟨R, 2, none⟩) hB _))
  exact Sl.add (Sl.add (Sl.add (Sl.stay [] HS.out HF.out (by kernel_rfl) rfl trivial HL.out) (by kernel_rfl)) (by kernel_rfl)) (by kernel_rfl)
set_option maxHeartbeats 4000000 in
theorem on_r5 (a : Act) (w : World) (N : Act → World → Prop) (Q : Exit → Act → World → Prop) (l : List (Nat × Value)) (hs : Sl 82 a l) (hl : (l.map Prod.fst).all (fun k => [0, 1, 4].contains k) = true)
    (s : ByteArray) (a0 : Int) (PO : World → ByteArray → Int → Value → Prop) (HC : Calls Tryd.prog 39 #[.string s, .int .i64 a0] w fun e w' => ∃ tx nx ev, e = .returned (.tuple #[.string tx, .int .i64 nx, ev]) ∧ PO w' tx nx ev ∧ Below w.heap.size w w')  (h0 : l.lookup 0 = some (.string s)) (h1 : l.lookup 1 = some (.int .i64 a0))
    (hN : ∀ a' w' tx nx ev, Sl 82 a' ((10, ev) :: ((9, .int .i64 nx) :: ((8, .string tx) :: l))) → PO w' tx nx ev → Below w.heap.size w w' → N a' w') : (r_on 5).wp Tryd.prog (Exit.then N Q) a w := by
  have HN := Lib.hid hN
  have HL := Lib.hid hl
  have e0 := hs.look 0 h0
  have e1 := hs.look 1 h1
  obtain ⟨f, ea, hf⟩ : ∃ f : Nat → Value, a = ⟨(List.toArray (f 0 :: f 1 :: f 2 :: f 3 :: f 4 :: f 5 :: f 6 :: f 7 :: f 8 :: f 9 :: f 10 :: f 11 :: f 12 :: f 13 :: f 14 :: f 15 :: f 16 :: f 17 :: f 18 :: f 19 :: f 20 :: f 21 :: f 22 :: f 23 :: f 24 :: f 25 :: f 26 :: f 27 :: f 28 :: f 29 :: f 30 :: f 31 :: f 32 :: f 33 :: f 34 :: f 35 :: f 36 :: f 37 :: f 38 :: f 39 :: f 40 :: f 41 :: f 42 :: f 43 :: f 44 :: f 45 :: f 46 :: f 47 :: f 48 :: f 49 :: f 50 :: f 51 :: f 52 :: f 53 :: f 54 :: f 55 :: f 56 :: f 57 :: f 58 :: f 59 :: f 60 :: f 61 :: f 62 :: f 63 :: f 64 :: f 65 :: f 66 :: f 67 :: f 68 :: f 69 :: f 70 :: f 71 :: f 72 :: f 73 :: f 74 :: f 75 :: f 76 :: f 77 :: f 78 :: f 79 :: f 80 :: f 81 :: [])), []⟩ ∧ ∀ k, slot a k = f k := letters_on a hs.size hs.defers
  rw [hf] at e0 e1
  rw [ea, e0, e1]
  have HS := Lib.hid hs
  have HF := Lib.hid hf
  have E0 := Lib.hid e0
  have E1 := Lib.hid e1
  clear hs ea hf hN hl h0 e0 h1 e1
  have HC := Lib.hid HC
  conv => arg 2; whnf
  go_wp2_with fail
  refine HC.out.mono ?_
  rintro e w' ⟨tx, nx, ev, rfl, hpo, hb⟩
  go_wp2_with fail
  refine HN.out _ _ _ _ _ ?_ hpo hb
  exact Sl.add (Sl.add (Sl.add (Sl.stay [0, 1, 4] HS.out HF.out (by kernel_rfl) rfl ⟨Eq.trans (by kernel_rfl) E0.out.symm, Eq.trans (by kernel_rfl) E1.out.symm, by kernel_rfl, trivial⟩ HL.out) (by kernel_rfl)) (by kernel_rfl)) (by kernel_rfl)
set_option maxHeartbeats 4000000 in
theorem on_r6 (a : Act) (w : World) (N : Act → World → Prop) (Q : Exit → Act → World → Prop) (l : List (Nat × Value)) (hs : Sl 82 a l) (hl : (l.map Prod.fst).all (fun k => [].contains k) = true)
    (a0 nx : Int) (tx : ByteArray) (ev : Value) (R : Nat) (u0 u1 u2 : Value) (hR : Blk w R 48 #[u0, u1, u2])  (h1 : slot a 1 = .int .i64 a0) (h8 : slot a 8 = .string tx) (h9 : slot a 9 = .int .i64 nx) (h10 : slot a 10 = ev) (h4 : slot a 4 = .pointer (some ⟨R, 0, none⟩))
    (hN : ∀ a' w', Sl 82 a' ((6, ev) :: ((5, .int .i64 nx) :: ((4, .pointer (some ⟨R, 0, none⟩)) :: l))) → Blk w' R 48 #[.int .i64 6, .string tx, .int .i64 a0] → (∀ x, x ≠ R → w'.heap[x]? = w.heap[x]?) → (∀ B z, Below B z w → B ≤ R → Below B z w') → N a' w') : (r_on 6).wp Tryd.prog (Exit.then N Q) a w := by
  have HN := Lib.hid hN
  have HL := Lib.hid hl
  have e1 := h1
  have e8 := h8
  have e9 := h9
  have e10 := h10
  have e4 := h4
  obtain ⟨f, ea, hf⟩ : ∃ f : Nat → Value, a = ⟨(List.toArray (f 0 :: f 1 :: f 2 :: f 3 :: f 4 :: f 5 :: f 6 :: f 7 :: f 8 :: f 9 :: f 10 :: f 11 :: f 12 :: f 13 :: f 14 :: f 15 :: f 16 :: f 17 :: f 18 :: f 19 :: f 20 :: f 21 :: f 22 :: f 23 :: f 24 :: f 25 :: f 26 :: f 27 :: f 28 :: f 29 :: f 30 :: f 31 :: f 32 :: f 33 :: f 34 :: f 35 :: f 36 :: f 37 :: f 38 :: f 39 :: f 40 :: f 41 :: f 42 :: f 43 :: f 44 :: f 45 :: f 46 :: f 47 :: f 48 :: f 49 :: f 50 :: f 51 :: f 52 :: f 53 :: f 54 :: f 55 :: f 56 :: f 57 :: f 58 :: f 59 :: f 60 :: f 61 :: f 62 :: f 63 :: f 64 :: f 65 :: f 66 :: f 67 :: f 68 :: f 69 :: f 70 :: f 71 :: f 72 :: f 73 :: f 74 :: f 75 :: f 76 :: f 77 :: f 78 :: f 79 :: f 80 :: f 81 :: [])), []⟩ ∧ ∀ k, slot a k = f k := letters_on a hs.size hs.defers
  rw [hf] at e1 e8 e9 e10 e4
  rw [ea, e1, e8, e9, e10, e4]
  have HS := Lib.hid hs
  have HF := Lib.hid hf
  have E1 := Lib.hid e1
  have E8 := Lib.hid e8
  have E9 := Lib.hid e9
  have E10 := Lib.hid e10
  have E4 := Lib.hid e4
  clear hs ea hf hN hl h1 e1 h8 e8 h9 e9 h10 e10 h4 e4
  have hRK := Lib.hid hR
  have c0 := hR.cell 0
  have c1 := hR.cell 1
  have c2 := hR.cell 2
  simp at c0 c1 c2
  have hfz := fun j => hR.frozen j
  have hRlt := hR.lt
  clear hR
  conv => arg 2; whnf
  go_wp2_with fail
  refine HN.out _ _ ?_ ((((hRK.out.set_ 0 (.int .i64 6)).set_ 1 (.string tx)).set_ 2 (.int .i64 a0))) ((far3 _ R _ _ _)) ((fun B z h hB => ((h.setCell (p := ⟨R, 0, none⟩) hB _).setCell (p := ⟨R, 1, none⟩) hB _).setCell (p := ⟨R, 2, none⟩) hB _))
  exact Sl.add (Sl.add (Sl.add (Sl.stay [] HS.out HF.out (by kernel_rfl) rfl trivial HL.out) (by kernel_rfl)) (by kernel_rfl)) (by kernel_rfl)
set_option maxHeartbeats 4000000 in
theorem on_r7 (a : Act) (w : World) (N : Act → World → Prop) (Q : Exit → Act → World → Prop) (l : List (Nat × Value)) (hs : Sl 82 a l) (hl : (l.map Prod.fst).all (fun k => [0, 1, 4, 7].contains k) = true)
    (c : Int) (b : Bool) (HC : ∀ w, Calls Tryd.prog 42 #[.int .i32 c] w fun e w' => e = .returned (.bool b) ∧ w = w')  (h7 : l.lookup 7 = some (.int .i32 c))
    (hN : ∀ a', Sl 82 a' ((39, .bool b) :: l) → N a' (w)) : (r_on 7).wp Tryd.prog (Exit.then N Q) a w := by
  have HN := Lib.hid hN
  have HL := Lib.hid hl
  have e7 := hs.look 7 h7
  obtain ⟨f, ea, hf⟩ : ∃ f : Nat → Value, a = ⟨(List.toArray (f 0 :: f 1 :: f 2 :: f 3 :: f 4 :: f 5 :: f 6 :: f 7 :: f 8 :: f 9 :: f 10 :: f 11 :: f 12 :: f 13 :: f 14 :: f 15 :: f 16 :: f 17 :: f 18 :: f 19 :: f 20 :: f 21 :: f 22 :: f 23 :: f 24 :: f 25 :: f 26 :: f 27 :: f 28 :: f 29 :: f 30 :: f 31 :: f 32 :: f 33 :: f 34 :: f 35 :: f 36 :: f 37 :: f 38 :: f 39 :: f 40 :: f 41 :: f 42 :: f 43 :: f 44 :: f 45 :: f 46 :: f 47 :: f 48 :: f 49 :: f 50 :: f 51 :: f 52 :: f 53 :: f 54 :: f 55 :: f 56 :: f 57 :: f 58 :: f 59 :: f 60 :: f 61 :: f 62 :: f 63 :: f 64 :: f 65 :: f 66 :: f 67 :: f 68 :: f 69 :: f 70 :: f 71 :: f 72 :: f 73 :: f 74 :: f 75 :: f 76 :: f 77 :: f 78 :: f 79 :: f 80 :: f 81 :: [])), []⟩ ∧ ∀ k, slot a k = f k := letters_on a hs.size hs.defers
  rw [hf] at e7
  rw [ea, e7]
  have HS := Lib.hid hs
  have HF := Lib.hid hf
  have E7 := Lib.hid e7
  clear hs ea hf hN hl h7 e7
  have HC := Lib.hid HC
  conv => arg 2; whnf
  go_wp2_with fail
  refine (HC.out _).mono ?_
  rintro e w' ⟨rfl, rfl⟩
  go_wp2_with fail
  refine HN.out _ ?_
  exact Sl.add (Sl.stay [0, 1, 4, 7] HS.out HF.out (by kernel_rfl) rfl ⟨by kernel_rfl, by kernel_rfl, by kernel_rfl, Eq.trans (by kernel_rfl) E7.out.symm, trivial⟩ HL.out) (by kernel_rfl)
set_option maxHeartbeats 4000000 in
theorem on_r9 (a : Act) (w : World) (N : Act → World → Prop) (Q : Exit → Act → World → Prop) (l : List (Nat × Value)) (hs : Sl 82 a l) (hl : (l.map Prod.fst).all (fun k => [0, 1, 4, 7].contains k) = true)
    (c : Int) (b : Bool) (HC : ∀ w, Calls Tryd.prog 41 #[.int .i32 c] w fun e w' => e = .returned (.bool b) ∧ w = w')  (h7 : l.lookup 7 = some (.int .i32 c))
    (hN : ∀ a', Sl 82 a' ((48, .bool b) :: l) → N a' (w)) : (r_on 9).wp Tryd.prog (Exit.then N Q) a w := by
  have HN := Lib.hid hN
  have HL := Lib.hid hl
  have e7 := hs.look 7 h7
  obtain ⟨f, ea, hf⟩ : ∃ f : Nat → Value, a = ⟨(List.toArray (f 0 :: f 1 :: f 2 :: f 3 :: f 4 :: f 5 :: f 6 :: f 7 :: f 8 :: f 9 :: f 10 :: f 11 :: f 12 :: f 13 :: f 14 :: f 15 :: f 16 :: f 17 :: f 18 :: f 19 :: f 20 :: f 21 :: f 22 :: f 23 :: f 24 :: f 25 :: f 26 :: f 27 :: f 28 :: f 29 :: f 30 :: f 31 :: f 32 :: f 33 :: f 34 :: f 35 :: f 36 :: f 37 :: f 38 :: f 39 :: f 40 :: f 41 :: f 42 :: f 43 :: f 44 :: f 45 :: f 46 :: f 47 :: f 48 :: f 49 :: f 50 :: f 51 :: f 52 :: f 53 :: f 54 :: f 55 :: f 56 :: f 57 :: f 58 :: f 59 :: f 60 :: f 61 :: f 62 :: f 63 :: f 64 :: f 65 :: f 66 :: f 67 :: f 68 :: f 69 :: f 70 :: f 71 :: f 72 :: f 73 :: f 74 :: f 75 :: f 76 :: f 77 :: f 78 :: f 79 :: f 80 :: f 81 :: [])), []⟩ ∧ ∀ k, slot a k = f k := letters_on a hs.size hs.defers
  rw [hf] at e7
  rw [ea, e7]
  have HS := Lib.hid hs
  have HF := Lib.hid hf
  have E7 := Lib.hid e7
  clear hs ea hf hN hl h7 e7
  have HC := Lib.hid HC
  conv => arg 2; whnf
  go_wp2_with fail
  refine (HC.out _).mono ?_
  rintro e w' ⟨rfl, rfl⟩
  go_wp2_with fail
  refine HN.out _ ?_
  exact Sl.add (Sl.stay [0, 1, 4, 7] HS.out HF.out (by kernel_rfl) rfl ⟨by kernel_rfl, by kernel_rfl, by kernel_rfl, Eq.trans (by kernel_rfl) E7.out.symm, trivial⟩ HL.out) (by kernel_rfl)
set_option maxHeartbeats 4000000 in
theorem on_r8 (a : Act) (w : World) (N : Act → World → Prop) (Q : Exit → Act → World → Prop) (l : List (Nat × Value)) (hs : Sl 82 a l) (hl : (l.map Prod.fst).all (fun k => [].contains k) = true)
    (s : ByteArray) (a0 : Int) (PO : World → Int → ByteArray → Int → Int → Value → Prop) (HC : Calls Tryd.prog 52 #[.string s, .int .i64 a0] w fun e w' => ∃ k tx p nx ev, e = .returned (.tuple #[.agg #[.int .i64 k, .string tx, .int .i64 p], .int .i64 nx, ev]) ∧ PO w' k tx p nx ev ∧ Below w.heap.size w w') (R : Nat) (u0 u1 u2 : Value) (hR : Blk w R 48 #[u0, u1, u2])  (h0 : slot a 0 = .string s) (h1 : slot a 1 = .int .i64 a0) (h4 : slot a 4 = .pointer (some ⟨R, 0, none⟩))
    (hN : ∀ a' w' w2 k tx p nx ev, Sl 82 a' ((6, ev) :: ((5, .int .i64 nx) :: ((4, .pointer (some ⟨R, 0, none⟩)) :: l))) → PO w2 k tx p nx ev → Blk w' R 48 #[.int .i64 k, .string tx, .int .i64 p] → (∀ x, x ≠ R → w'.heap[x]? = w2.heap[x]?) → Below w.heap.size w w2 → (∀ B z, Below B z w → B ≤ R → B ≤ w.heap.size → Below B z w') → N a' w') : (r_on 8).wp Tryd.prog (Exit.then N Q) a w := by
  have HN := Lib.hid hN
  have HL := Lib.hid hl
  have e0 := h0
  have e1 := h1
  have e4 := h4
  obtain ⟨f, ea, hf⟩ : ∃ f : Nat → Value, a = ⟨(List.toArray (f 0 :: f 1 :: f 2 :: f 3 :: f 4 :: f 5 :: f 6 :: f 7 :: f 8 :: f 9 :: f 10 :: f 11 :: f 12 :: f 13 :: f 14 :: f 15 :: f 16 :: f 17 :: f 18 :: f 19 :: f 20 :: f 21 :: f 22 :: f 23 :: f 24 :: f 25 :: f 26 :: f 27 :: f 28 :: f 29 :: f 30 :: f 31 :: f 32 :: f 33 :: f 34 :: f 35 :: f 36 :: f 37 :: f 38 :: f 39 :: f 40 :: f 41 :: f 42 :: f 43 :: f 44 :: f 45 :: f 46 :: f 47 :: f 48 :: f 49 :: f 50 :: f 51 :: f 52 :: f 53 :: f 54 :: f 55 :: f 56 :: f 57 :: f 58 :: f 59 :: f 60 :: f 61 :: f 62 :: f 63 :: f 64 :: f 65 :: f 66 :: f 67 :: f 68 :: f 69 :: f 70 :: f 71 :: f 72 :: f 73 :: f 74 :: f 75 :: f 76 :: f 77 :: f 78 :: f 79 :: f 80 :: f 81 :: [])), []⟩ ∧ ∀ k, slot a k = f k := letters_on a hs.size hs.defers
  rw [hf] at e0 e1 e4
  rw [ea, e0, e1, e4]
  have HS := Lib.hid hs
  have HF := Lib.hid hf
  have E0 := Lib.hid e0
  have E1 := Lib.hid e1
  have E4 := Lib.hid e4
  clear hs ea hf hN hl h0 e0 h1 e1 h4 e4
  have HC := Lib.hid HC
  have hlt := hR.lt
  have hRK := Lib.hid hR
  clear hR
  conv => arg 2; whnf
  go_wp2_with fail
  refine HC.out.mono ?_
  rintro e w' ⟨k, tx, p, nx, ev, rfl, hpo, hb⟩
  have hR2 := hRK.out.below hb hlt
  have hRL := Lib.hid hR2
  have c0 := hR2.cell 0
  have c1 := hR2.cell 1
  have c2 := hR2.cell 2
  simp at c0 c1 c2
  have hfz := fun j => hR2.frozen j
  clear hR2
  go_wp2_with fail
  refine HN.out _ _ _ _ _ _ _ _ ?_ hpo ((((hRL.out.set_ 0 (.int .i64 k)).set_ 1 (.string tx)).set_ 2 (.int .i64 p))) ((far3 _ R _ _ _)) hb ((fun B z h hB hw => ((((h.trans (hb.mono hw)).setCell (p := ⟨R, 0, none⟩) hB _).setCell (p := ⟨R, 1, none⟩) hB _).setCell (p := ⟨R, 2, none⟩) hB _)))
  exact Sl.add (Sl.add (Sl.add (Sl.stay [] HS.out HF.out (by kernel_rfl) rfl trivial HL.out) (by kernel_rfl)) (by kernel_rfl)) (by kernel_rfl)
set_option maxHeartbeats 4000000 in
theorem on_r17 (a : Act) (w : World) (N : Act → World → Prop) (Q : Exit → Act → World → Prop) (l : List (Nat × Value)) (hs : Sl 82 a l) (hl : (l.map Prod.fst).all (fun k => [].contains k) = true)
    (s : ByteArray) (a0 : Int) (PO : World → Int → ByteArray → Int → Int → Value → Prop) (HC : Calls Tryd.prog 54 #[.string s, .int .i64 a0] w fun e w' => ∃ k tx p nx ev, e = .returned (.tuple #[.agg #[.int .i64 k, .string tx, .int .i64 p], .int .i64 nx, ev]) ∧ PO w' k tx p nx ev ∧ Below w.heap.size w w') (R : Nat) (u0 u1 u2 : Value) (hR : Blk w R 48 #[u0, u1, u2])  (h0 : slot a 0 = .string s) (h1 : slot a 1 = .int .i64 a0) (h4 : slot a 4 = .pointer (some ⟨R, 0, none⟩))
    (hN : ∀ a' w' w2 k tx p nx ev, Sl 82 a' ((6, ev) :: ((5, .int .i64 nx) :: ((4, .pointer (some ⟨R, 0, none⟩)) :: l))) → PO w2 k tx p nx ev → Blk w' R 48 #[.int .i64 k, .string tx, .int .i64 p] → (∀ x, x ≠ R → w'.heap[x]? = w2.heap[x]?) → Below w.heap.size w w2 → (∀ B z, Below B z w → B ≤ R → B ≤ w.heap.size → Below B z w') → N a' w') : (r_on 17).wp Tryd.prog (Exit.then N Q) a w := by
  have HN := Lib.hid hN
  have HL := Lib.hid hl
  have e0 := h0
  have e1 := h1
  have e4 := h4
  obtain ⟨f, ea, hf⟩ : ∃ f : Nat → Value, a = ⟨(List.toArray (f 0 :: f 1 :: f 2 :: f 3 :: f 4 :: f 5 :: f 6 :: f 7 :: f 8 :: f 9 :: f 10 :: f 11 :: f 12 :: f 13 :: f 14 :: f 15 :: f 16 :: f 17 :: f 18 :: f 19 :: f 20 :: f 21 :: f 22 :: f 23 :: f 24 :: f 25 :: f 26 :: f 27 :: f 28 :: f 29 :: f 30 :: f 31 :: f 32 :: f 33 :: f 34 :: f 35 :: f 36 :: f 37 :: f 38 :: f 39 :: f 40 :: f 41 :: f 42 :: f 43 :: f 44 :: f 45 :: f 46 :: f 47 :: f 48 :: f 49 :: f 50 :: f 51 :: f 52 :: f 53 :: f 54 :: f 55 :: f 56 :: f 57 :: f 58 :: f 59 :: f 60 :: f 61 :: f 62 :: f 63 :: f 64 :: f 65 :: f 66 :: f 67 :: f 68 :: f 69 :: f 70 :: f 71 :: f 72 :: f 73 :: f 74 :: f 75 :: f 76 :: f 77 :: f 78 :: f 79 :: f 80 :: f 81 :: [])), []⟩ ∧ ∀ k, slot a k = f k := letters_on a hs.size hs.defers
  rw [hf] at e0 e1 e4
  rw [ea, e0, e1, e4]
  have HS := Lib.hid hs
  have HF := Lib.hid hf
  have E0 := Lib.hid e0
  have E1 := Lib.hid e1
  have E4 := Lib.hid e4
  clear hs ea hf hN hl h0 e0 h1 e1 h4 e4
  have HC := Lib.hid HC
  have hlt := hR.lt
  have hRK := Lib.hid hR
  clear hR
  conv => arg 2; whnf
  go_wp2_with fail
  refine HC.out.mono ?_
  rintro e w' ⟨k, tx, p, nx, ev, rfl, hpo, hb⟩
  have hR2 := hRK.out.below hb hlt
  have hRL := Lib.hid hR2
  have c0 := hR2.cell 0
  have c1 := hR2.cell 1
  have c2 := hR2.cell 2
  simp at c0 c1 c2
  have hfz := fun j => hR2.frozen j
  clear hR2
  go_wp2_with fail
  refine HN.out _ _ _ _ _ _ _ _ ?_ hpo ((((hRL.out.set_ 0 (.int .i64 k)).set_ 1 (.string tx)).set_ 2 (.int .i64 p))) ((far3 _ R _ _ _)) hb ((fun B z h hB hw => ((((h.trans (hb.mono hw)).setCell (p := ⟨R, 0, none⟩) hB _).setCell (p := ⟨R, 1, none⟩) hB _).setCell (p := ⟨R, 2, none⟩) hB _)))
  exact Sl.add (Sl.add (Sl.add (Sl.stay [] HS.out HF.out (by kernel_rfl) rfl trivial HL.out) (by kernel_rfl)) (by kernel_rfl)) (by kernel_rfl)
set_option maxHeartbeats 4000000 in
theorem on_r10 (a : Act) (w : World) (N : Act → World → Prop) (Q : Exit → Act → World → Prop) (l : List (Nat × Value)) (hs : Sl 82 a l) (hl : (l.map Prod.fst).all (fun k => [0, 1, 4].contains k) = true)
    (s : ByteArray) (a0 : Int) (q : ByteArray) (n : Int) (hq : ∀ w, (Instr.slice 9 (.string s) (some (.int .i64 (a0))) none none).run Tryd.prog w = .ok (.string q) w) (HC : ∀ w, Calls Tryd.prog 53 #[.string q, .bool true] w fun e w' => e = .returned (.int .i64 n) ∧ Below w.heap.size w w')  (h0 : l.lookup 0 = some (.string s)) (h1 : l.lookup 1 = some (.int .i64 a0))
    (hN : ∀ a' w', Sl 82 a' ((11, .int .i64 n) :: l) → Below w.heap.size w w' → N a' w') : (r_on 10).wp Tryd.prog (Exit.then N Q) a w := by
  have HN := Lib.hid hN
  have HL := Lib.hid hl
  have e0 := hs.look 0 h0
  have e1 := hs.look 1 h1
  obtain ⟨f, ea, hf⟩ : ∃ f : Nat → Value, a = ⟨(List.toArray (f 0 :: f 1 :: f 2 :: f 3 :: f 4 :: f 5 :: f 6 :: f 7 :: f 8 :: f 9 :: f 10 :: f 11 :: f 12 :: f 13 :: f 14 :: f 15 :: f 16 :: f 17 :: f 18 :: f 19 :: f 20 :: f 21 :: f 22 :: f 23 :: f 24 :: f 25 :: f 26 :: f 27 :: f 28 :: f 29 :: f 30 :: f 31 :: f 32 :: f 33 :: f 34 :: f 35 :: f 36 :: f 37 :: f 38 :: f 39 :: f 40 :: f 41 :: f 42 :: f 43 :: f 44 :: f 45 :: f 46 :: f 47 :: f 48 :: f 49 :: f 50 :: f 51 :: f 52 :: f 53 :: f 54 :: f 55 :: f 56 :: f 57 :: f 58 :: f 59 :: f 60 :: f 61 :: f 62 :: f 63 :: f 64 :: f 65 :: f 66 :: f 67 :: f 68 :: f 69 :: f 70 :: f 71 :: f 72 :: f 73 :: f 74 :: f 75 :: f 76 :: f 77 :: f 78 :: f 79 :: f 80 :: f 81 :: [])), []⟩ ∧ ∀ k, slot a k = f k := letters_on a hs.size hs.defers
  rw [hf] at e0 e1
  rw [ea, e0, e1]
  have HS := Lib.hid hs
  have HF := Lib.hid hf
  have E0 := Lib.hid e0
  have E1 := Lib.hid e1
  clear hs ea hf hN hl h0 e0 h1 e1
  have HC := Lib.hid HC
  conv => arg 2; whnf
  go_wp2_with fail
  refine (HC.out _).mono ?_
  rintro e w' ⟨rfl, hb⟩
  go_wp2_with fail
  refine HN.out _ _ ?_ hb
  exact Sl.add (Sl.stay [0, 1, 4] HS.out HF.out (by kernel_rfl) rfl ⟨Eq.trans (by kernel_rfl) E0.out.symm, Eq.trans (by kernel_rfl) E1.out.symm, by kernel_rfl, trivial⟩ HL.out) (by kernel_rfl)
set_option maxHeartbeats 4000000 in
theorem on_r11 (a : Act) (w : World) (N : Act → World → Prop) (Q : Exit → Act → World → Prop) (l : List (Nat × Value)) (hs : Sl 82 a l) (hl : (l.map Prod.fst).all (fun k => [0, 1, 4, 11].contains k) = true)
    (s : ByteArray) (a0 : Int) (n : Int) (tx : ByteArray) (h0 : 0 ≤ a0) (h1 : 0 ≤ n) (h2 : a0 + n ≤ 140737488355328) (ht : ∀ w, (Instr.slice 9 (.string s) (some (.int .i64 (a0))) (some (.int .i64 (a0 + n))) none).run Tryd.prog w = .ok (.string tx) w)  (h0 : l.lookup 0 = some (.string s)) (h1 : l.lookup 1 = some (.int .i64 a0)) (h11 : l.lookup 11 = some (.int .i64 n))
    (hN : ∀ a', Sl 82 a' ((12, .pointer (some ⟨w.heap.size, 0, none⟩)) :: l) → N a' (w.alloc (.cells #[.int .i64 2, .string tx, .int .i64 a0] 48))) : (r_on 11).wp Tryd.prog (Exit.then N Q) a w := by
  have HN := Lib.hid hN
  have HL := Lib.hid hl
  have e0 := hs.look 0 h0
  have e1 := hs.look 1 h1
  have e11 := hs.look 11 h11
  obtain ⟨f, ea, hf⟩ : ∃ f : Nat → Value, a = ⟨(List.toArray (f 0 :: f 1 :: f 2 :: f 3 :: f 4 :: f 5 :: f 6 :: f 7 :: f 8 :: f 9 :: f 10 :: f 11 :: f 12 :: f 13 :: f 14 :: f 15 :: f 16 :: f 17 :: f 18 :: f 19 :: f 20 :: f 21 :: f 22 :: f 23 :: f 24 :: f 25 :: f 26 :: f 27 :: f 28 :: f 29 :: f 30 :: f 31 :: f 32 :: f 33 :: f 34 :: f 35 :: f 36 :: f 37 :: f 38 :: f 39 :: f 40 :: f 41 :: f 42 :: f 43 :: f 44 :: f 45 :: f 46 :: f 47 :: f 48 :: f 49 :: f 50 :: f 51 :: f 52 :: f 53 :: f 54 :: f 55 :: f 56 :: f 57 :: f 58 :: f 59 :: f 60 :: f 61 :: f 62 :: f 63 :: f 64 :: f 65 :: f 66 :: f 67 :: f 68 :: f 69 :: f 70 :: f 71 :: f 72 :: f 73 :: f 74 :: f 75 :: f 76 :: f 77 :: f 78 :: f 79 :: f 80 :: f 81 :: [])), []⟩ ∧ ∀ k, slot a k = f k := letters_on a hs.size hs.defers
  rw [hf] at e0 e1 e11
  rw [ea, e0, e1, e11]
  have HS := Lib.hid hs
  have HF := Lib.hid hf
  have E0 := Lib.hid e0
  have E1 := Lib.hid e1
  have E11 := Lib.hid e11
  clear hs ea hf hN hl h0 e0 h1 e1 h11 e11
  conv => arg 2; whnf
  go_wp2_with fail
  refine HN.out _ ?_
  exact Sl.add (Sl.stay [0, 1, 4, 11] HS.out HF.out (by kernel_rfl) rfl ⟨Eq.trans (by kernel_rfl) E0.out.symm, Eq.trans (by kernel_rfl) E1.out.symm, by kernel_rfl, Eq.trans (by kernel_rfl) E11.out.symm, trivial⟩ HL.out) (by kernel_rfl)
set_option maxHeartbeats 4000000 in
theorem on_r12 (a : Act) (w : World) (N : Act → World → Prop) (Q : Exit → Act → World → Prop) (l : List (Nat × Value)) (hs : Sl 82 a l) (hl : (l.map Prod.fst).all (fun k => [0, 1, 4, 11, 12].contains k) = true)
    (n : Int) (b : Bool) (h : decide (40 < n) = b)  (h11 : l.lookup 11 = some (.int .i64 n))
    (hN : ∀ a', Sl 82 a' ((64, .bool b) :: l) → N a' (w)) : (r_on 12).wp Tryd.prog (Exit.then N Q) a w := by
  have HN := Lib.hid hN
  have HL := Lib.hid hl
  have e11 := hs.look 11 h11
  obtain ⟨f, ea, hf⟩ : ∃ f : Nat → Value, a = ⟨(List.toArray (f 0 :: f 1 :: f 2 :: f 3 :: f 4 :: f 5 :: f 6 :: f 7 :: f 8 :: f 9 :: f 10 :: f 11 :: f 12 :: f 13 :: f 14 :: f 15 :: f 16 :: f 17 :: f 18 :: f 19 :: f 20 :: f 21 :: f 22 :: f 23 :: f 24 :: f 25 :: f 26 :: f 27 :: f 28 :: f 29 :: f 30 :: f 31 :: f 32 :: f 33 :: f 34 :: f 35 :: f 36 :: f 37 :: f 38 :: f 39 :: f 40 :: f 41 :: f 42 :: f 43 :: f 44 :: f 45 :: f 46 :: f 47 :: f 48 :: f 49 :: f 50 :: f 51 :: f 52 :: f 53 :: f 54 :: f 55 :: f 56 :: f 57 :: f 58 :: f 59 :: f 60 :: f 61 :: f 62 :: f 63 :: f 64 :: f 65 :: f 66 :: f 67 :: f 68 :: f 69 :: f 70 :: f 71 :: f 72 :: f 73 :: f 74 :: f 75 :: f 76 :: f 77 :: f 78 :: f 79 :: f 80 :: f 81 :: [])), []⟩ ∧ ∀ k, slot a k = f k := letters_on a hs.size hs.defers
  rw [hf] at e11
  rw [ea, e11]
  have HS := Lib.hid hs
  have HF := Lib.hid hf
  have E11 := Lib.hid e11
  clear hs ea hf hN hl h11 e11
  have HB := Lib.hid h
  clear h
  conv => arg 2; whnf
  go_wp2_with fail
  refine HN.out _ ?_
  exact Sl.add (Sl.stay [0, 1, 4, 11, 12] HS.out HF.out (by kernel_rfl) rfl ⟨by kernel_rfl, by kernel_rfl, by kernel_rfl, Eq.trans (by kernel_rfl) E11.out.symm, by kernel_rfl, trivial⟩ HL.out) (Eq.trans (b := .bool (decide (40 < n))) (by kernel_rfl) (by rw [HB.out]))
set_option maxHeartbeats 4000000 in
theorem on_r13 (a : Act) (w : World) (N : Act → World → Prop) (Q : Exit → Act → World → Prop) (l : List (Nat × Value)) (hs : Sl 82 a l) (hl : (l.map Prod.fst).all (fun k => [].contains k) = true)
    (a0 : Int) (g : Nat) (k0 p0 : Int) (tx : ByteArray) (hT : Blk w g 48 #[.int .i64 k0, .string tx, .int .i64 p0]) (R : Nat) (u0 u1 u2 : Value) (hR : Blk w R 48 #[u0, u1, u2]) (hgR : g ≠ R)  (h1 : slot a 1 = .int .i64 a0) (h12 : slot a 12 = .pointer (some ⟨g, 0, none⟩)) (h4 : slot a 4 = .pointer (some ⟨R, 0, none⟩))
    (hN : ∀ a' w', Sl 82 a' ((6, .pointer (some ⟨w.heap.size, 0, none⟩)) :: ((5, .int .i64 0) :: ((4, .pointer (some ⟨R, 0, none⟩)) :: l))) → Blk w' R 48 #[.int .i64 k0, .string tx, .int .i64 p0] → Blk w' w.heap.size 26 #[.int .i64 13, .int .i64 a0, .string ⟨#[]⟩] → (∀ B z, Below B z w → B ≤ R → Below B z w') → N a' w') : (r_on 13).wp Tryd.prog (Exit.then N Q) a w := by
  have HN := Lib.hid hN
  have HL := Lib.hid hl
  have e1 := h1
  have e12 := h12
  have e4 := h4
  obtain ⟨f, ea, hf⟩ : ∃ f : Nat → Value, a = ⟨(List.toArray (f 0 :: f 1 :: f 2 :: f 3 :: f 4 :: f 5 :: f 6 :: f 7 :: f 8 :: f 9 :: f 10 :: f 11 :: f 12 :: f 13 :: f 14 :: f 15 :: f 16 :: f 17 :: f 18 :: f 19 :: f 20 :: f 21 :: f 22 :: f 23 :: f 24 :: f 25 :: f 26 :: f 27 :: f 28 :: f 29 :: f 30 :: f 31 :: f 32 :: f 33 :: f 34 :: f 35 :: f 36 :: f 37 :: f 38 :: f 39 :: f 40 :: f 41 :: f 42 :: f 43 :: f 44 :: f 45 :: f 46 :: f 47 :: f 48 :: f 49 :: f 50 :: f 51 :: f 52 :: f 53 :: f 54 :: f 55 :: f 56 :: f 57 :: f 58 :: f 59 :: f 60 :: f 61 :: f 62 :: f 63 :: f 64 :: f 65 :: f 66 :: f 67 :: f 68 :: f 69 :: f 70 :: f 71 :: f 72 :: f 73 :: f 74 :: f 75 :: f 76 :: f 77 :: f 78 :: f 79 :: f 80 :: f 81 :: [])), []⟩ ∧ ∀ k, slot a k = f k := letters_on a hs.size hs.defers
  rw [hf] at e1 e12 e4
  rw [ea, e1, e12, e4]
  have HS := Lib.hid hs
  have HF := Lib.hid hf
  have E1 := Lib.hid e1
  have E12 := Lib.hid e12
  have E4 := Lib.hid e4
  clear hs ea hf hN hl h1 e1 h12 e12 h4 e4
  have hTK := Lib.hid hT
  have d0 := hT.cell 0
  have d1 := hT.cell 1
  have d2 := hT.cell 2
  simp at d0 d1 d2
  have hfg := fun j => hT.frozen j
  have hTlt := hT.lt
  clear hT
  have hRK := Lib.hid hR
  have c0 := hR.cell 0
  have c1 := hR.cell 1
  have c2 := hR.cell 2
  simp at c0 c1 c2
  have hfz := fun j => hR.frozen j
  have hRlt := hR.lt
  clear hR
  conv => arg 2; whnf
  refine wp_region_eff (fun W => W.cell? ⟨g, 0, none⟩ = some (.int .i64 k0) ∧ W.cell? ⟨g, 1, none⟩ = some (.string tx) ∧ W.cell? ⟨g, 2, none⟩ = some (.int .i64 p0)) [0, 1] [2] [_, _] [_] [_, _, _] 3 (by kernel_rfl) rfl rfl rfl rfl (by kernel_rfl) ?_
  iterate 2
    apply wpP_step _ rfl (by simp) rfl
    · rintro W ⟨e0, e1, e2⟩
      go_wp2_with fail
      exact ⟨rfl, rfl⟩
    · rfl
  refine wpP_nil ?_
  refine And.intro ⟨d0, d1, d2⟩ ?_
  go_wp2_with fail
  refine (wrong_any _ _ _).mono ?_
  rintro e w' ⟨rfl, rfl⟩
  go_wp2_with fail
  refine And.intro ⟨?_, ?_, ?_⟩ ?_
  · exact (Blk.alloc (w := { w with drawn := w.drawn + 1 }) hTK.out _).cell 0
  · exact (Blk.alloc (w := { w with drawn := w.drawn + 1 }) hTK.out _).cell 1
  · exact (Blk.alloc (w := { w with drawn := w.drawn + 1 }) hTK.out _).cell 2
  change wpList _ _ _ _ _ _
  go_wp2_with fail
  refine HN.out _ _ ?_ (((((hRK.out.set_ 0 (.int .i64 k0)).set_ 1 (.string tx)).set_ 2 (.int .i64 p0)).alloc _)) ((blk_new_of _ _ _ (by simp [World.setCell]))) ((fun B z h hB => Below.drew ((((h.setCell (p := ⟨R, 0, none⟩) hB _).setCell (p := ⟨R, 1, none⟩) hB _).setCell (p := ⟨R, 2, none⟩) hB _).alloc (by simp [World.setCell]; omega) _)))
  exact Sl.add (Sl.add (Sl.add (Sl.stay [] HS.out HF.out (by kernel_rfl) rfl trivial HL.out) (by kernel_rfl)) (by kernel_rfl)) (by kernel_rfl)
set_option maxHeartbeats 4000000 in
theorem on_r14 (a : Act) (w : World) (N : Act → World → Prop) (Q : Exit → Act → World → Prop) (l : List (Nat × Value)) (hs : Sl 82 a l) (hl : (l.map Prod.fst).all (fun k => [0, 1, 4, 11, 12].contains k) = true)
    (g : Nat) (k0 p0 : Int) (tx : ByteArray) (hT : Blk w g 48 #[.int .i64 k0, .string tx, .int .i64 p0]) (b : Bool) (HC : Calls Tryd.prog 23 #[.string tx] w fun e w' => e = .returned (.bool b) ∧ Below w.heap.size w w')  (h12 : l.lookup 12 = some (.pointer (some ⟨g, 0, none⟩)))
    (hN : ∀ a' w', Sl 82 a' ((70, .bool b) :: l) → Below w.heap.size w w' → N a' w') : (r_on 14).wp Tryd.prog (Exit.then N Q) a w := by
  have HN := Lib.hid hN
  have HL := Lib.hid hl
  have e12 := hs.look 12 h12
  obtain ⟨f, ea, hf⟩ : ∃ f : Nat → Value, a = ⟨(List.toArray (f 0 :: f 1 :: f 2 :: f 3 :: f 4 :: f 5 :: f 6 :: f 7 :: f 8 :: f 9 :: f 10 :: f 11 :: f 12 :: f 13 :: f 14 :: f 15 :: f 16 :: f 17 :: f 18 :: f 19 :: f 20 :: f 21 :: f 22 :: f 23 :: f 24 :: f 25 :: f 26 :: f 27 :: f 28 :: f 29 :: f 30 :: f 31 :: f 32 :: f 33 :: f 34 :: f 35 :: f 36 :: f 37 :: f 38 :: f 39 :: f 40 :: f 41 :: f 42 :: f 43 :: f 44 :: f 45 :: f 46 :: f 47 :: f 48 :: f 49 :: f 50 :: f 51 :: f 52 :: f 53 :: f 54 :: f 55 :: f 56 :: f 57 :: f 58 :: f 59 :: f 60 :: f 61 :: f 62 :: f 63 :: f 64 :: f 65 :: f 66 :: f 67 :: f 68 :: f 69 :: f 70 :: f 71 :: f 72 :: f 73 :: f 74 :: f 75 :: f 76 :: f 77 :: f 78 :: f 79 :: f 80 :: f 81 :: [])), []⟩ ∧ ∀ k, slot a k = f k := letters_on a hs.size hs.defers
  rw [hf] at e12
  rw [ea, e12]
  have HS := Lib.hid hs
  have HF := Lib.hid hf
  have E12 := Lib.hid e12
  clear hs ea hf hN hl h12 e12
  have HC := Lib.hid HC
  have hTK := Lib.hid hT
  have d0 := hT.cell 0
  have d1 := hT.cell 1
  have d2 := hT.cell 2
  simp at d0 d1 d2
  have hfg := fun j => hT.frozen j
  have hTlt := hT.lt
  clear hT
  conv => arg 2; whnf
  go_wp2_with fail
  refine HC.out.mono ?_
  rintro e w' ⟨rfl, hb⟩
  go_wp2_with fail
  refine HN.out _ _ ?_ hb
  exact Sl.add (Sl.stay [0, 1, 4, 11, 12] HS.out HF.out (by kernel_rfl) rfl ⟨by kernel_rfl, by kernel_rfl, by kernel_rfl, by kernel_rfl, Eq.trans (by kernel_rfl) E12.out.symm, trivial⟩ HL.out) (by kernel_rfl)
set_option maxHeartbeats 4000000 in
theorem on_r15 (a : Act) (w : World) (N : Act → World → Prop) (Q : Exit → Act → World → Prop) (l : List (Nat × Value)) (hs : Sl 82 a l) (hl : (l.map Prod.fst).all (fun k => [0, 1, 4, 11, 12].contains k) = true)
    (g : Nat) (k0 p0 : Int) (tx : ByteArray) (hT : Blk w g 48 #[.int .i64 k0, .string tx, .int .i64 p0])  (h12 : l.lookup 12 = some (.pointer (some ⟨g, 0, none⟩)))
    (hN : ∀ a', Sl 82 a' l → N a' (w.setCell ⟨g, 0, none⟩ (.int .i64 3))) : (r_on 15).wp Tryd.prog (Exit.then N Q) a w := by
  have HN := Lib.hid hN
  have HL := Lib.hid hl
  have e12 := hs.look 12 h12
  obtain ⟨f, ea, hf⟩ : ∃ f : Nat → Value, a = ⟨(List.toArray (f 0 :: f 1 :: f 2 :: f 3 :: f 4 :: f 5 :: f 6 :: f 7 :: f 8 :: f 9 :: f 10 :: f 11 :: f 12 :: f 13 :: f 14 :: f 15 :: f 16 :: f 17 :: f 18 :: f 19 :: f 20 :: f 21 :: f 22 :: f 23 :: f 24 :: f 25 :: f 26 :: f 27 :: f 28 :: f 29 :: f 30 :: f 31 :: f 32 :: f 33 :: f 34 :: f 35 :: f 36 :: f 37 :: f 38 :: f 39 :: f 40 :: f 41 :: f 42 :: f 43 :: f 44 :: f 45 :: f 46 :: f 47 :: f 48 :: f 49 :: f 50 :: f 51 :: f 52 :: f 53 :: f 54 :: f 55 :: f 56 :: f 57 :: f 58 :: f 59 :: f 60 :: f 61 :: f 62 :: f 63 :: f 64 :: f 65 :: f 66 :: f 67 :: f 68 :: f 69 :: f 70 :: f 71 :: f 72 :: f 73 :: f 74 :: f 75 :: f 76 :: f 77 :: f 78 :: f 79 :: f 80 :: f 81 :: [])), []⟩ ∧ ∀ k, slot a k = f k := letters_on a hs.size hs.defers
  rw [hf] at e12
  rw [ea, e12]
  have HS := Lib.hid hs
  have HF := Lib.hid hf
  have E12 := Lib.hid e12
  clear hs ea hf hN hl h12 e12
  have hTK := Lib.hid hT
  have d0 := hT.cell 0
  have d1 := hT.cell 1
  have d2 := hT.cell 2
  simp at d0 d1 d2
  have hfg := fun j => hT.frozen j
  have hTlt := hT.lt
  clear hT
  conv => arg 2; whnf
  go_wp2_with fail
  refine HN.out _ ?_
  exact Sl.stay [0, 1, 4, 11, 12] HS.out HF.out (by kernel_rfl) rfl ⟨by kernel_rfl, by kernel_rfl, by kernel_rfl, by kernel_rfl, Eq.trans (by kernel_rfl) E12.out.symm, trivial⟩ HL.out
set_option maxHeartbeats 4000000 in
theorem on_r16 (a : Act) (w : World) (N : Act → World → Prop) (Q : Exit → Act → World → Prop) (l : List (Nat × Value)) (hs : Sl 82 a l) (hl : (l.map Prod.fst).all (fun k => [].contains k) = true)
    (a0 n : Int) (h0 : 0 ≤ a0) (h1 : 0 ≤ n) (h2 : a0 + n ≤ 140737488355328) (g : Nat) (k0 p0 : Int) (tx : ByteArray) (hT : Blk w g 48 #[.int .i64 k0, .string tx, .int .i64 p0]) (R : Nat) (u0 u1 u2 : Value) (hR : Blk w R 48 #[u0, u1, u2]) (hgR : g ≠ R)  (h1 : slot a 1 = .int .i64 a0) (h11 : slot a 11 = .int .i64 n) (h12 : slot a 12 = .pointer (some ⟨g, 0, none⟩)) (h4 : slot a 4 = .pointer (some ⟨R, 0, none⟩))
    (hN : ∀ a' w', Sl 82 a' ((6, .pointer none) :: ((5, .int .i64 (a0 + n)) :: ((4, .pointer (some ⟨R, 0, none⟩)) :: l))) → Blk w' R 48 #[.int .i64 k0, .string tx, .int .i64 p0] → (∀ B z, Below B z w → B ≤ R → Below B z w') → N a' w') : (r_on 16).wp Tryd.prog (Exit.then N Q) a w := by
  have HN := Lib.hid hN
  have HL := Lib.hid hl
  have e1 := h1
  have e11 := h11
  have e12 := h12
  have e4 := h4
  obtain ⟨f, ea, hf⟩ : ∃ f : Nat → Value, a = ⟨(List.toArray (f 0 :: f 1 :: f 2 :: f 3 :: f 4 :: f 5 :: f 6 :: f 7 :: f 8 :: f 9 :: f 10 :: f 11 :: f 12 :: f 13 :: f 14 :: f 15 :: f 16 :: f 17 :: f 18 :: f 19 :: f 20 :: f 21 :: f 22 :: f 23 :: f 24 :: f 25 :: f 26 :: f 27 :: f 28 :: f 29 :: f 30 :: f 31 :: f 32 :: f 33 :: f 34 :: f 35 :: f 36 :: f 37 :: f 38 :: f 39 :: f 40 :: f 41 :: f 42 :: f 43 :: f 44 :: f 45 :: f 46 :: f 47 :: f 48 :: f 49 :: f 50 :: f 51 :: f 52 :: f 53 :: f 54 :: f 55 :: f 56 :: f 57 :: f 58 :: f 59 :: f 60 :: f 61 :: f 62 :: f 63 :: f 64 :: f 65 :: f 66 :: f 67 :: f 68 :: f 69 :: f 70 :: f 71 :: f 72 :: f 73 :: f 74 :: f 75 :: f 76 :: f 77 :: f 78 :: f 79 :: f 80 :: f 81 :: [])), []⟩ ∧ ∀ k, slot a k = f k := letters_on a hs.size hs.defers
  rw [hf] at e1 e11 e12 e4
  rw [ea, e1, e11, e12, e4]
  have HS := Lib.hid hs
  have HF := Lib.hid hf
  have E1 := Lib.hid e1
  have E11 := Lib.hid e11
  have E12 := Lib.hid e12
  have E4 := Lib.hid e4
  clear hs ea hf hN hl h1 e1 h11 e11 h12 e12 h4 e4
  have hTK := Lib.hid hT
  have d0 := hT.cell 0
  have d1 := hT.cell 1
  have d2 := hT.cell 2
  simp at d0 d1 d2
  have hfg := fun j => hT.frozen j
  have hTlt := hT.lt
  clear hT
  have hRK := Lib.hid hR
  have c0 := hR.cell 0
  have c1 := hR.cell 1
  have c2 := hR.cell 2
  simp at c0 c1 c2
  have hfz := fun j => hR.frozen j
  have hRlt := hR.lt
  clear hR
  conv => arg 2; whnf
  go_wp2_with fail
  refine HN.out _ _ ?_ ((((hRK.out.set_ 0 (.int .i64 k0)).set_ 1 (.string tx)).set_ 2 (.int .i64 p0))) ((fun B z h hB => ((h.setCell (p := ⟨R, 0, none⟩) hB _).setCell (p := ⟨R, 1, none⟩) hB _).setCell (p := ⟨R, 2, none⟩) hB _))
  exact Sl.add (Sl.add (Sl.add (Sl.stay [] HS.out HF.out (by kernel_rfl) rfl trivial HL.out) (by kernel_rfl)) (by kernel_rfl)) (by kernel_rfl)
end Go.Proofs.YtpggcmlddmckcaaDoor

namespace Go.Proofs.YtpggcmlddmckcaaDoor
open Go.RowKit Go.Sort
set_option maxRecDepth 100000

noncomputable def onName : Code := .seq (r_on 10) (.seq (r_on 11) (.seq (.seq (r_on 12) (.cond (.tmp 64) (.seq (r_on 13) .ret) .skip)) (.seq (.seq (r_on 14) (.cond (.tmp 70) (r_on 15) .skip)) (.seq (r_on 16) .ret))))
noncomputable def onBody : Code := .seq (r_on 0) (.seq (r_on 1) (.seq (.block 0 (.seq (r_on 2) (.cond (.tmp 17) (.seq (r_on 3) .ret) (.seq (r_on 4) (.cond (.tmp 24) (.seq (r_on 5) (.seq (r_on 6) .ret)) (.seq (r_on 7) (.cond (.tmp 39) (.seq (r_on 8) .ret) (.seq (r_on 9) (.cond (.tmp 48) onName .skip))))))))) (.seq (r_on 17) .ret)))
theorem on_body : Tryd.f37.body = some onBody := by kernel_rfl

theorem res_on {tmps : Array Value} {W : World} {R : Nat} {v0 v1 v2 v5 v6 : Value} (h4 : tmps.getD 4 undef = .pointer (some ⟨R, 0, none⟩)) (h5 : tmps.getD 5 undef = v5) (h6 : tmps.getD 6 undef = v6) (hR : Blk W R 48 #[v0, v1, v2]) :
    (results Tryd.f37 tmps).run Tryd.prog W = .ok (.tuple #[.agg #[v0, v1, v2], v5, v6]) W := by
  have c0 := hR.cell 0
  have c1 := hR.cell 1
  have c2 := hR.cell 2
  simp at c0 c1 c2
  simp only [Array.getD_eq_getD_getElem?] at h4 h5 h6
  simp [results, Tryd.results37, go_sem, h4, h5, h6, c0, c1, c2]
/-- The end of one. -/
theorem on_done {r : Ans (Tok × Nat)} {a0 R : Nat} {w w3 : World} {a4 : Act} {v0 v1 v2 v5 v6 : Value} (hd : a4.defers = []) (h4 : slot a4 4 = .pointer (some ⟨R, 0, none⟩)) (h5 : slot a4 5 = v5) (h6 : slot a4 6 = v6) (hR : Blk w3 R 48 #[v0, v1, v2])
    (hr : OneR a0 r w (.returned (.tuple #[.agg #[v0, v1, v2], v5, v6])) w3) : bodyPost Tryd.prog Tryd.f37 (OneR a0 r w) .ret a4 w3 := bodyPost_ret (res_on h4 h5 h6 hR) hd hr

/-- What is known of a token that another reader hands back. -/
def OneP (r : Ans (Tok × Nat)) (a0 : Nat) (w w' : World) (k : Int) (tx : ByteArray) (p nx : Int) (ev : Value) : Prop := match r with
  | .ok x => k = x.1.kind ∧ tx = bs x.1.text ∧ p = x.1.place ∧ nx = ((a0 + x.2 : Nat) : Int) ∧ ev = .pointer none
  | .bad b => ∃ (t : Tok) (g : Nat), k = t.kind ∧ tx = bs t.text ∧ p = t.place ∧ ev = .pointer (some ⟨g, 0, none⟩) ∧ WrongB w w' g b
theorem OneR.open {r : Ans (Tok × Nat)} {a0 : Nat} {w w' : World} {e : Ending} (h : OneR a0 r w e w') : ∃ k tx p nx ev, e = .returned (.tuple #[.agg #[.int .i64 k, .string tx, .int .i64 p], .int .i64 nx, ev]) ∧ OneP r a0 w w' k tx p nx ev ∧ Below w.heap.size w w' := by
  obtain ⟨hb, h⟩ := h
  cases r with
  | ok x => exact ⟨_, _, _, _, _, h, ⟨rfl, rfl, rfl, rfl, rfl⟩, hb⟩
  | bad b =>
    obtain ⟨t, n, g, he, hg⟩ := h
    exact ⟨_, _, _, _, _, he, ⟨t, g, rfl, rfl, rfl, rfl, hg⟩, hb⟩
theorem OneP.shut {r : Ans (Tok × Nat)} {a0 R : Nat} {w0 w w2 w' : World} {k p nx : Int} {tx : ByteArray} {ev : Value} (h : OneP r a0 w w2 k tx p nx ev) (hw : w0.heap.size ≤ w.heap.size) (hR : R < w.heap.size) (hfar : ∀ x, x ≠ R → w'.heap[x]? = w2.heap[x]?) (hb : Below w0.heap.size w0 w') :
    OneR a0 r w0 (.returned (.tuple #[.agg #[.int .i64 k, .string tx, .int .i64 p], .int .i64 nx, ev])) w' := by
  refine ⟨hb, ?_⟩
  cases r with
  | ok x =>
    obtain ⟨rfl, rfl, rfl, rfl, rfl⟩ := h
    rfl
  | bad b =>
    obtain ⟨t, g, rfl, rfl, rfl, rfl, h1, h2⟩ := h
    have hg : Blk w' g 26 #[.int .i64 b.code, .int .i64 b.place, .string ⟨#[]⟩] := (hfar g (by omega)).trans h2
    exact ⟨t, nx, g, rfl, Nat.le_trans hw h1, hg⟩

theorem one_any (s : ByteArray) (hs : s.size ≤ 140737488355320) (a0 : Nat) (ha : a0 < s.size) (w : World) (hL : LexAt w) :
    Calls Tryd.prog 37 #[.string s, .int .i64 a0] w (OneR a0 (oneL a0 (s.data.toList.drop a0)) w) := by
  have hnum := fun w => number_any s (by omega) a0 ha w
  have hsig := fun w hL => sign_any s hs a0 ha w hL
  have hlit := fun w => literal_any s (by omega) a0 ha w
  have hdr := drop_str s a0 ha
  have hix := fun w => idx_str ha (x := (a0 : Int)) rfl w
  obtain ⟨c, hc⟩ : ∃ c, s[a0]'ha = c := ⟨_, rfl⟩
  rw [hc] at hdr hix
  have hll : (s.data.toList.drop a0).length = s.size - a0 := by simp
  have hsf := fun w => sl_from (s := s) (k := a0) (by omega) (x := (a0 : Int)) rfl w
  obtain ⟨r, hr⟩ : ∃ r, s.data.toList.drop (a0 + 1) = r := ⟨_, rfl⟩
  rw [hr] at hdr hlit
  rw [hdr] at hll hsf hnum hsig ⊢
  refine calls_of_wp Tryd.func37 on_body ?_
  have h0 : Sl 82 { tmps := #[Value.string s, .int .i64 (a0 : Int)] ++ Array.replicate (Tryd.f37.ntmps - #[Value.string s, .int .i64 (a0 : Int)].size) undef, defers := [] } [(1, .int .i64 (a0 : Int)), (0, .string s)] :=
    ⟨by simp [Tryd.ntmps37], rfl, fun p hp => by
      simp only [List.mem_cons, List.not_mem_nil, or_false] at hp
      rcases hp with rfl | rfl <;> simp [slot]⟩
  generalize { tmps := #[Value.string s, .int .i64 (a0 : Int)] ++ Array.replicate (Tryd.f37.ntmps - #[Value.string s, .int .i64 (a0 : Int)].size) undef, defers := [] : Act } = b0 at h0 ⊢
  unfold onBody
  refine wp_seq (on_r0 b0 w _ _ _ h0 rfl fun a1 h1 => ?_)
  have hR1 : Blk (w.alloc (.cells #[.int .i64 0, .string ⟨#[]⟩, .int .i64 0] 48)) w.heap.size 48 #[.int .i64 0, .string ⟨#[]⟩, .int .i64 0] := Blk.new _ _ _
  have hb1 : Below w.heap.size w (w.alloc (.cells #[.int .i64 0, .string ⟨#[]⟩, .int .i64 0] 48)) := bl_alloc (Below.refl _ _) _
  generalize w.alloc (.cells #[.int .i64 0, .string ⟨#[]⟩, .int .i64 0] 48) = w1 at hR1 hb1 ⊢
  have hltR := hR1.lt
  have h1 := h1.none.add (h1.look 0 rfl) |>.add (h1.look 1 rfl) |>.add (h1.look 4 rfl)
  refine wp_seq (on_r1 a1 w1 _ _ _ h1 rfl s a0 (c.toNat : Int) (by omega) (by have := c.toNat_lt; omega) hix rfl rfl fun a2 h2 => ?_)
  have b59 : ((c.toNat : Int) == 59) = decide (c = 59) := by rw [show (59 : Int) = ((59 : UInt8).toNat : Int) from rfl, byte_eq]
  have b34 : ((c.toNat : Int) == 34) = decide (c = 34) := by rw [show (34 : Int) = ((34 : UInt8).toNat : Int) from rfl, byte_eq]
  refine wp_seq (wp_block ?_)
  refine wp_seq (on_r2 a2 w1 _ _ _ h2 rfl _ _ b59 rfl fun a3 h3 => ?_)
  by_cases h59 : c = 59
  · rw [decide_eq_true h59] at h3
    refine wp_cond_true (h3.look 17 rfl) ?_
    refine wp_seq (on_r3 a3 w1 _ _ _ h3.none rfl a0 (by omega) (by omega) w.heap.size _ _ _ hR1 (h3.look 1 rfl) (h3.look 4 rfl) fun a4 w4 h4 hR4 hb4 => wp_ret ?_)
    refine on_done h4.defers (h4.look 4 rfl) (h4.look 5 rfl) (h4.look 6 rfl) hR4 ?_
    rw [oneL, if_pos h59]
    exact OneR.ok (hb4 _ _ hb1 (Nat.le_refl _)) rfl
  rw [decide_eq_false h59] at h3
  refine wp_cond_false (h3.look 17 rfl) ?_
  refine wp_seq (on_r4 a3 w1 _ _ _ h3.tl rfl _ _ b34 rfl fun a4 h4 => ?_)
  by_cases h34 : c = 34
  · rw [decide_eq_true h34] at h4
    refine wp_cond_true (h4.look 24 rfl) ?_
    have h4' := h4.none.add (h4.look 0 rfl) |>.add (h4.look 1 rfl) |>.add (h4.look 4 rfl)
    refine wp_seq (on_r5 a4 w1 _ _ _ h4' rfl s a0 (fun w' tx nx ev => OneP ((litL a0 (a0 + 1) [] r).map fun x => (⟨6, x.1, a0⟩, x.2 - a0)) a0 w1 w' 6 tx a0 nx ev) ?_ rfl rfl fun a5 w5 tx nx ev h5 hpo hb5 => ?_)
    · refine (hlit w1).mono ?_
      rintro e w' ⟨hb, h⟩
      cases hl : litL a0 (a0 + 1) [] r with
      | ok x =>
        rw [hl] at h
        have hx := lit_len a0 _ r _ _ x (Nat.le_refl _) hl
        exact ⟨_, _, _, h, ⟨rfl, rfl, rfl, by show (x.2 : Int) = ((a0 + (x.2 - a0) : Nat) : Int); congr 1; omega, rfl⟩, hb⟩
      | bad b =>
        rw [hl] at h
        obtain ⟨g, he, hg⟩ := h
        exact ⟨_, _, _, he, ⟨⟨6, [], a0⟩, g, rfl, rfl, rfl, rfl, hg⟩, hb⟩
    have hR5 := hR1.below hb5 hltR
    refine wp_seq (on_r6 a5 w5 _ _ _ h5.none rfl a0 nx tx ev w.heap.size _ _ _ hR5 (h5.look 1 rfl) (h5.look 8 rfl) (h5.look 9 rfl) (h5.look 10 rfl) (h5.look 4 rfl) fun a6 w6 h6 hR6 hf6 hb6 => wp_ret ?_)
    refine on_done h6.defers (h6.look 4 rfl) (h6.look 5 rfl) (h6.look 6 rfl) hR6 ?_
    rw [oneL, if_neg h59, if_pos h34]
    exact hpo.shut hb1.size hltR hf6 (hb6 _ _ (bl_trans hb1 hb5) (Nat.le_refl _))
  rw [decide_eq_false h34] at h4
  refine wp_cond_false (h4.look 24 rfl) ?_
  have hD := fun w => digit_any (c.toNat : Int) w
  have hLe := fun w => letter_any (c.toNat : Int) w
  rw [digN_of] at hD
  rw [letN_of] at hLe
  refine wp_seq (on_r7 a4 w1 _ _ _ h4.tl rfl _ _ hD rfl fun a5 h5 => ?_)
  by_cases hdg : isDig c = true
  · rw [hdg] at h5
    refine wp_cond_true (h5.look 39 rfl) ?_
    refine wp_seq (on_r8 a5 w1 _ _ _ h5.none rfl s a0 _ ((hnum w1).mono fun e w' h => h.open) w.heap.size _ _ _ hR1 (h5.look 0 rfl) (h5.look 1 rfl) (h5.look 4 rfl) fun a6 w6 w7 k tx p nx ev h6 hpo hR6 hf6 hb6 hbz6 => wp_ret ?_)
    refine on_done h6.defers (h6.look 4 rfl) (h6.look 5 rfl) (h6.look 6 rfl) hR6 ?_
    rw [oneL, if_neg h59, if_neg h34, if_pos hdg]
    exact hpo.shut hb1.size hltR hf6 (hbz6 _ _ hb1 (Nat.le_refl _) hb1.size)
  have hdg' : isDig c = false := by simpa using hdg
  rw [hdg'] at h5
  refine wp_cond_false (h5.look 39 rfl) ?_
  refine wp_seq (on_r9 a5 w1 _ _ _ h5.tl rfl _ _ hLe rfl fun a6 h6 => ?_)
  cases hlt : isLet c with
  | true =>
    rw [hlt] at h6
    refine wp_cond_true (h6.look 48 rfl) ?_
    unfold onName
    have h6' := h6.none.add (h6.look 0 rfl) |>.add (h6.look 1 rfl) |>.add (h6.look 4 rfl)
    have hrun := fun w => lrun_any (bs (c :: r)) (by rw [bs_size, hll]; omega) true w
    rw [bs_list] at hrun
    obtain ⟨n, hn⟩ : ∃ n, runL true (c :: r) = n := ⟨_, rfl⟩
    have hnl := run_le true (c :: r)
    rw [hn] at hrun hnl
    have htx := fun w => sl_to (s := s) (a := a0) (b := a0 + n) (by omega) (by omega) (x := (a0 : Int)) (y := (a0 : Int) + (n : Int)) rfl (by omega) w
    rw [hdr, show a0 + n - a0 = n by omega] at htx
    refine wp_seq (on_r10 a6 w1 _ _ _ h6' rfl s a0 (bs (c :: r)) n hsf hrun rfl rfl fun a7 w7 h7 hb7 => ?_)
    have hR7 := hR1.below hb7 hltR
    have hbw7 := bl_trans hb1 hb7
    refine wp_seq (on_r11 a7 w7 _ _ _ h7 rfl s a0 n _ (by omega) (by omega) (by omega) htx rfl rfl rfl fun a8 h8 => ?_)
    have hR8 := hR7.alloc (.cells #[.int .i64 2, .string (bs ((c :: r).take n)), .int .i64 (a0 : Int)] 48)
    have hT8 : Blk (w7.alloc (.cells #[.int .i64 2, .string (bs ((c :: r).take n)), .int .i64 (a0 : Int)] 48)) w7.heap.size 48 #[.int .i64 2, .string (bs ((c :: r).take n)), .int .i64 (a0 : Int)] := Blk.new _ _ _
    have hbw8 := bl_alloc hbw7 (.cells #[.int .i64 2, .string (bs ((c :: r).take n)), .int .i64 (a0 : Int)] 48)
    have hgR := hR7.lt
    generalize w7.alloc (.cells #[.int .i64 2, .string (bs ((c :: r).take n)), .int .i64 (a0 : Int)] 48) = w8 at hR8 hT8 hbw8 ⊢
    refine wp_seq (wp_seq (on_r12 a8 w8 _ _ _ h8 rfl n _ rfl rfl fun a9 h9 => ?_))
    by_cases h40 : 40 < n
    · rw [decide_eq_true (show (40 : Int) < (n : Int) by omega)] at h9
      refine wp_cond_true (h9.look 64 rfl) ?_
      refine wp_seq (on_r13 a9 w8 _ _ _ h9.none rfl a0 w7.heap.size _ _ _ hT8 w.heap.size _ _ _ hR8 (by omega) (h9.look 1 rfl) (h9.look 12 rfl) (h9.look 4 rfl) fun a10 w10 h10 hR10 hW10 hb10 => wp_ret ?_)
      refine on_done h10.defers (h10.look 4 rfl) (h10.look 5 rfl) (h10.look 6 rfl) hR10 ?_
      rw [oneL, if_neg h59, if_neg h34, if_neg hdg, if_pos hlt, hn, if_pos h40]
      exact OneR.bad (hb10 _ _ hbw8 (Nat.le_refl _)) ⟨2, (c :: r).take n, a0⟩ _ _ rfl ⟨hbw8.size, hW10⟩
    · rw [decide_eq_false (show ¬ (40 : Int) < (n : Int) by omega)] at h9
      refine wpc_off (h9.look 64 rfl) ?_
      have hW := Word_any (bs ((c :: r).take n)) w8 (hL.below hbw8 (Nat.le_refl _))
      rw [bs_list] at hW
      refine wp_seq (wp_seq (on_r14 a9 w8 _ _ _ h9.tl rfl w7.heap.size _ _ _ hT8 _ hW rfl fun a10 w10 h10 hb10 => ?_))
      have hR10 := hR8.below hb10 hR8.lt
      have hT10 := hT8.below hb10 hT8.lt
      have hbw10 := bl_trans hbw8 hb10
      have hone : oneL a0 (c :: r) = .ok (⟨if wordB ((c :: r).take n) then 3 else 2, (c :: r).take n, a0⟩, n) := by
        rw [oneL, if_neg h59, if_neg h34, if_neg hdg, if_pos hlt, hn, if_neg h40]
      rw [hone]
      cases hwd : wordB ((c :: r).take n) with
      | true =>
        rw [hwd] at h10
        refine wp_cond_true (h10.look 70 rfl) ?_
        refine wp_then ?_
        refine on_r15 a10 w10 _ _ _ h10.tl rfl w7.heap.size _ _ _ hT10 rfl fun a11 h11 => ?_
        show Code.wp _ (Code.seq (r_on 16) .ret) _ a11 _
        refine wp_seq (on_r16 a11 _ _ _ _ h11.none rfl a0 n (by omega) (by omega) (by omega) w7.heap.size 3 _ _ (hT10.set_ 0 _) w.heap.size _ _ _ (hR10.far (p := ⟨w7.heap.size, 0, none⟩) (by show w.heap.size ≠ w7.heap.size; omega) _) (by omega) (h11.look 1 rfl) (h11.look 11 rfl) (h11.look 12 rfl) (h11.look 4 rfl) fun a12 w12 h12 hR12 hb12 => wp_ret ?_)
        refine on_done h12.defers (h12.look 4 rfl) (h12.look 5 rfl) (h12.look 6 rfl) hR12 ?_
        exact OneR.ok (hb12 _ _ (hbw10.setCell (p := ⟨w7.heap.size, 0, none⟩) (by show w.heap.size ≤ w7.heap.size; omega) _) (Nat.le_refl _)) (by simp [tokV, tokC])
      | false =>
        rw [hwd] at h10
        refine wpc_off (h10.look 70 rfl) ?_
        show Code.wp _ (Code.seq (r_on 16) .ret) _ a10 w10
        refine wp_seq (on_r16 a10 w10 _ _ _ h10.none rfl a0 n (by omega) (by omega) (by omega) w7.heap.size _ _ _ hT10 w.heap.size _ _ _ hR10 (by omega) (h10.look 1 rfl) (h10.look 11 rfl) (h10.look 12 rfl) (h10.look 4 rfl) fun a12 w12 h12 hR12 hb12 => wp_ret ?_)
        refine on_done h12.defers (h12.look 4 rfl) (h12.look 5 rfl) (h12.look 6 rfl) hR12 ?_
        exact OneR.ok (hb12 _ _ hbw10 (Nat.le_refl _)) (by simp [tokV, tokC])
  | false =>
    rw [hlt] at h6
    refine wpc_off (h6.look 48 rfl) ?_
    show Code.wp _ (Code.seq (r_on 17) .ret) _ a6 w1
    refine wp_seq (on_r17 a6 w1 _ _ _ h6.none rfl s a0 _ ((hsig w1 (hL.below hb1 (Nat.le_refl _))).mono fun e w' h => h.open) w.heap.size _ _ _ hR1 (h6.look 0 rfl) (h6.look 1 rfl) (h6.look 4 rfl) fun a7 w6 w7 k tx p nx ev h7 hpo hR7 hf7 hb7 hbz7 => wp_ret ?_)
    refine on_done h7.defers (h7.look 4 rfl) (h7.look 5 rfl) (h7.look 6 rfl) hR7 ?_
    rw [oneL, if_neg h59, if_neg h34, if_neg hdg, if_neg (by rw [hlt]; decide)]
    exact hpo.shut hb1.size hltR hf7 (hbz7 _ _ hb1 (Nat.le_refl _) hb1.size)
end Go.Proofs.YtpggcmlddmckcaaDoor
