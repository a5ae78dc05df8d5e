/-
  The regions of package lex's sign, one by one. Written by an AI agent.
-/
import Derived.Test.YtpggcmlddmckcaaDoorLi2
namespace Go.Proofs.YtpggcmlddmckcaaDoor
open Go.RowKit Go.Sort
set_option maxRecDepth 100000
theorem letters_sg (a : Act) (h1 : a.tmps.size = 31) (h2 : a.defers = []) : ∃ f : Nat → Value, a = ⟨(List.toArray (f 0 :: f 1 :: f 2 :: f 3 :: f 4 :: f 5 :: f 6 :: f 7 :: f 8 :: f 9 :: f 10 :: f 11 :: f 12 :: f 13 :: f 14 :: f 15 :: f 16 :: f 17 :: f 18 :: f 19 :: f 20 :: f 21 :: f 22 :: f 23 :: f 24 :: f 25 :: f 26 :: f 27 :: f 28 :: f 29 :: f 30 :: [])), []⟩ ∧ ∀ k, slot a k = f k :=
  ⟨slot a, (spread a 31 h1 h2).trans (by kernel_rfl), fun _ => rfl⟩
noncomputable def r_sg (n : Nat) : Code := ((Tryd.f54.body.bind (findR n)).getD .skip)
def signsB : List UInt8 := [60, 60, 61, 32, 62, 62, 61, 32, 58, 61, 32, 61, 61, 32, 33, 61, 32, 60, 61, 32, 62, 61, 32, 38, 38, 32, 124, 124, 32, 60, 60, 32, 62, 62, 32, 43, 61, 32, 45, 61, 32, 42, 61, 32, 47, 61, 32, 37, 61, 32, 38, 61, 32, 124, 61, 32, 94, 61, 32, 43, 43, 32, 45, 45, 32, 43, 32, 45, 32, 42, 32, 47, 32, 37, 32, 38, 32, 124, 32, 94, 32, 33, 32, 60, 32, 62, 32, 61, 32, 40, 32, 41, 32, 91, 32, 93, 32, 123, 32, 125, 32, 44, 32, 46, 32, 58]
def signsS : ByteArray := ⟨signsB.toArray⟩
theorem fields_signs : Lib.fields signsB = signsL := by decide +kernel
set_option maxHeartbeats 4000000 in
theorem sg_r0 (a : Act) (w : World) (N : Act → World → Prop) (Q : Exit → Act → World → Prop) (l : List (Nat × Value)) (hs : Sl 31 a l) (hl : (l.map Prod.fst).all (fun k => [0, 1].contains k) = true)
     
    (hN : ∀ a', Sl 31 a' ((6, .pointer none) :: ((5, .int .i64 0) :: ((4, .pointer (some ⟨w.heap.size, 0, none⟩)) :: l))) → N a' (w.alloc (.cells #[.int .i64 0, .string ⟨#[]⟩, .int .i64 0] 48))) : (r_sg 0).wp Tryd.prog (Exit.then N Q) a w := by
  have HN := Lib.hid hN
  have HL := Lib.hid hl
  obtain ⟨f, ea, hf⟩ : ∃ f : Nat → Value, a = ⟨(List.toArray (f 0 :: f 1 :: f 2 :: f 3 :: f 4 :: f 5 :: f 6 :: f 7 :: f 8 :: f 9 :: f 10 :: f 11 :: f 12 :: f 13 :: f 14 :: f 15 :: f 16 :: f 17 :: f 18 :: f 19 :: f 20 :: f 21 :: f 22 :: f 23 :: f 24 :: f 25 :: f 26 :: f 27 :: f 28 :: f 29 :: f 30 :: [])), []⟩ ∧ ∀ k, slot a k = f k := letters_sg a hs.size hs.defers
  rw [ea]
  have HS := Lib.hid hs
  have HF := Lib.hid hf
  clear hs ea hf hN hl 
  conv => arg 2; whnf
  go_wp2_with fail
  refine HN.out _ ?_
  exact Sl.add (Sl.add (Sl.add (Sl.stay [0, 1] HS.out HF.out (by kernel_rfl) rfl ⟨by kernel_rfl, by kernel_rfl, trivial⟩ HL.out) (by kernel_rfl)) (by kernel_rfl)) (by kernel_rfl)
set_option maxHeartbeats 4000000 in
theorem sg_r1 (a : Act) (w : World) (N : Act → World → Prop) (Q : Exit → Act → World → Prop) (l : List (Nat × Value)) (hs : Sl 31 a l) (hl : (l.map Prod.fst).all (fun k => [0, 1, 4].contains k) = true)
    (g n : Nat) (W2 : World) (HC : Calls Tryd.prog 61 #[.string signsS] w fun e w' => e = .returned (.slice (some ⟨g, 0, none⟩) n n) ∧ w' = W2)  
    (hN : ∀ a', Sl 31 a' ((11, .int .i64 0) :: ((10, .int .i64 n) :: ((9, .slice (some ⟨g, 0, none⟩) n n) :: l))) → N a' (W2)) : (r_sg 1).wp Tryd.prog (Exit.then N Q) a w := by
  have HN := Lib.hid hN
  have HL := Lib.hid hl
  obtain ⟨f, ea, hf⟩ : ∃ f : Nat → Value, a = ⟨(List.toArray (f 0 :: f 1 :: f 2 :: f 3 :: f 4 :: f 5 :: f 6 :: f 7 :: f 8 :: f 9 :: f 10 :: f 11 :: f 12 :: f 13 :: f 14 :: f 15 :: f 16 :: f 17 :: f 18 :: f 19 :: f 20 :: f 21 :: f 22 :: f 23 :: f 24 :: f 25 :: f 26 :: f 27 :: f 28 :: f 29 :: f 30 :: [])), []⟩ ∧ ∀ k, slot a k = f k := letters_sg a hs.size hs.defers
  rw [ea]
  have HS := Lib.hid hs
  have HF := Lib.hid hf
  clear hs ea hf hN hl 
  have HC := Lib.hid HC
  conv => arg 2; whnf
  go_wp2_with fail
  refine HC.out.mono ?_
  rintro e w' ⟨rfl, rfl⟩
  go_wp2_with fail
  refine HN.out _ ?_
  exact Sl.add (Sl.add (Sl.add (Sl.stay [0, 1, 4] HS.out HF.out (by kernel_rfl) rfl ⟨by kernel_rfl, by kernel_rfl, by kernel_rfl, trivial⟩ HL.out) (by kernel_rfl)) (by kernel_rfl)) (by kernel_rfl)
set_option maxHeartbeats 4000000 in
theorem sg_r2 (a : Act) (w : World) (N : Act → World → Prop) (Q : Exit → Act → World → Prop) (l : List (Nat × Value)) (hs : Sl 31 a l) (hl : (l.map Prod.fst).all (fun k => [0, 1, 4, 9, 10, 11].contains k) = true)
    (n j : Int) (b : Bool) (h : decide (j < n) = b)  (h10 : l.lookup 10 = some (.int .i64 n)) (h11 : l.lookup 11 = some (.int .i64 j))
    (hN : ∀ a', Sl 31 a' ((12, .bool b) :: l) → N a' (w)) : (r_sg 2).wp Tryd.prog (Exit.then N Q) a w := by
  have HN := Lib.hid hN
  have HL := Lib.hid hl
  have e10 := hs.look 10 h10
  have e11 := hs.look 11 h11
  obtain ⟨f, ea, hf⟩ : ∃ f : Nat → Value, a = ⟨(List.toArray (f 0 :: f 1 :: f 2 :: f 3 :: f 4 :: f 5 :: f 6 :: f 7 :: f 8 :: f 9 :: f 10 :: f 11 :: f 12 :: f 13 :: f 14 :: f 15 :: f 16 :: f 17 :: f 18 :: f 19 :: f 20 :: f 21 :: f 22 :: f 23 :: f 24 :: f 25 :: f 26 :: f 27 :: f 28 :: f 29 :: f 30 :: [])), []⟩ ∧ ∀ k, slot a k = f k := letters_sg a hs.size hs.defers
  rw [hf] at e10 e11
  rw [ea, e10, e11]
  have HS := Lib.hid hs
  have HF := Lib.hid hf
  have E10 := Lib.hid e10
  have E11 := Lib.hid e11
  clear hs ea hf hN hl h10 e10 h11 e11
  have HB := Lib.hid h
  clear h
  conv => arg 2; whnf
  go_wp2_with fail
  refine HN.out _ ?_
  exact Sl.add (Sl.stay [0, 1, 4, 9, 10, 11] HS.out HF.out (by kernel_rfl) rfl ⟨by kernel_rfl, by kernel_rfl, by kernel_rfl, by kernel_rfl, Eq.trans (by kernel_rfl) E10.out.symm, Eq.trans (by kernel_rfl) E11.out.symm, trivial⟩ HL.out) (Eq.trans (b := .bool (decide (j < n))) (by kernel_rfl) (by rw [HB.out]))
set_option maxHeartbeats 4000000 in
theorem sg_r3 (a : Act) (w : World) (N : Act → World → Prop) (Q : Exit → Act → World → Prop) (l : List (Nat × Value)) (hs : Sl 31 a l) (hl : (l.map Prod.fst).all (fun k => [0, 1, 4, 9, 10, 11].contains k) = true)
    (g n j : Nat) (hj : j < n) (x : ByteArray) (hc : w.cell? ⟨g, j, none⟩ = some (.string x))  (h9 : l.lookup 9 = some (.slice (some ⟨g, 0, none⟩) n n)) (h11 : l.lookup 11 = some (.int .i64 (j : Nat)))
    (hN : ∀ a', Sl 31 a' ((8, .string x) :: l) → N a' (w)) : (r_sg 3).wp Tryd.prog (Exit.then N Q) a w := by
  have HN := Lib.hid hN
  have HL := Lib.hid hl
  have e9 := hs.look 9 h9
  have e11 := hs.look 11 h11
  obtain ⟨f, ea, hf⟩ : ∃ f : Nat → Value, a = ⟨(List.toArray (f 0 :: f 1 :: f 2 :: f 3 :: f 4 :: f 5 :: f 6 :: f 7 :: f 8 :: f 9 :: f 10 :: f 11 :: f 12 :: f 13 :: f 14 :: f 15 :: f 16 :: f 17 :: f 18 :: f 19 :: f 20 :: f 21 :: f 22 :: f 23 :: f 24 :: f 25 :: f 26 :: f 27 :: f 28 :: f 29 :: f 30 :: [])), []⟩ ∧ ∀ k, slot a k = f k := letters_sg a hs.size hs.defers
  rw [hf] at e9 e11
  rw [ea, e9, e11]
  have HS := Lib.hid hs
  have HF := Lib.hid hf
  have E9 := Lib.hid e9
  have E11 := Lib.hid e11
  clear hs ea hf hN hl h9 e9 h11 e11
  have hj0 : (0 : Int) ≤ (j : Int) := by omega
  have hj1 : (j : Int) < (n : Int) := by omega
  conv => arg 2; whnf
  go_wp2_with fail
  refine HN.out _ ?_
  exact Sl.add (Sl.stay [0, 1, 4, 9, 10, 11] HS.out HF.out (by kernel_rfl) rfl ⟨by kernel_rfl, by kernel_rfl, by kernel_rfl, Eq.trans (by kernel_rfl) E9.out.symm, by kernel_rfl, Eq.trans (by kernel_rfl) E11.out.symm, trivial⟩ HL.out) (by kernel_rfl)
set_option maxHeartbeats 4000000 in
theorem sg_r4 (a : Act) (w : World) (N : Act → World → Prop) (Q : Exit → Act → World → Prop) (l : List (Nat × Value)) (hs : Sl 31 a l) (hl : (l.map Prod.fst).all (fun k => [0, 1, 4, 8, 9, 10, 11].contains k) = true)
    (s : ByteArray) (a0 : Int) (q x : ByteArray) (b : Bool) (hq : ∀ w, (Instr.slice 9 (.string s) (some (.int .i64 (a0))) none none).run Tryd.prog w = .ok (.string q) w) (HC : ∀ w, Calls Tryd.prog 35 #[.string q, .string x] w fun e w' => e = .returned (.bool b) ∧ w' = w)  (h0 : l.lookup 0 = some (.string s)) (h1 : l.lookup 1 = some (.int .i64 a0)) (h8 : l.lookup 8 = some (.string x))
    (hN : ∀ a', Sl 31 a' ((19, .bool b) :: l) → N a' (w)) : (r_sg 4).wp Tryd.prog (Exit.then N Q) a w := by
  have HN := Lib.hid hN
  have HL := Lib.hid hl
  have e0 := hs.look 0 h0
  have e1 := hs.look 1 h1
  have e8 := hs.look 8 h8
  obtain ⟨f, ea, hf⟩ : ∃ f : Nat → Value, a = ⟨(List.toArray (f 0 :: f 1 :: f 2 :: f 3 :: f 4 :: f 5 :: f 6 :: f 7 :: f 8 :: f 9 :: f 10 :: f 11 :: f 12 :: f 13 :: f 14 :: f 15 :: f 16 :: f 17 :: f 18 :: f 19 :: f 20 :: f 21 :: f 22 :: f 23 :: f 24 :: f 25 :: f 26 :: f 27 :: f 28 :: f 29 :: f 30 :: [])), []⟩ ∧ ∀ k, slot a k = f k := letters_sg a hs.size hs.defers
  rw [hf] at e0 e1 e8
  rw [ea, e0, e1, e8]
  have HS := Lib.hid hs
  have HF := Lib.hid hf
  have E0 := Lib.hid e0
  have E1 := Lib.hid e1
  have E8 := Lib.hid e8
  clear hs ea hf hN hl h0 e0 h1 e1 h8 e8
  have HC := Lib.hid HC
  conv => arg 2; whnf
  go_wp2_with fail
  refine (HC.out _).mono ?_
  rintro e w' ⟨rfl, rfl⟩
  go_wp2_with fail
  refine HN.out _ ?_
  exact Sl.add (Sl.stay [0, 1, 4, 8, 9, 10, 11] HS.out HF.out (by kernel_rfl) rfl ⟨Eq.trans (by kernel_rfl) E0.out.symm, Eq.trans (by kernel_rfl) E1.out.symm, by kernel_rfl, Eq.trans (by kernel_rfl) E8.out.symm, by kernel_rfl, by kernel_rfl, by kernel_rfl, trivial⟩ HL.out) (by kernel_rfl)
set_option maxHeartbeats 4000000 in
theorem sg_r5 (a : Act) (w : World) (N : Act → World → Prop) (Q : Exit → Act → World → Prop) (l : List (Nat × Value)) (hs : Sl 31 a l) (hl : (l.map Prod.fst).all (fun k => [].contains k) = true)
    (a0 : Int) (x : ByteArray) (h0 : 0 ≤ a0) (h1 : a0 + (x.size : Int) ≤ 140737488355328) (R : Nat) (u0 u1 u2 : Value) (hR : Blk w R 48 #[u0, u1, u2])  (h1 : slot a 1 = .int .i64 a0) (h8 : slot a 8 = .string x) (h4 : slot a 4 = .pointer (some ⟨R, 0, none⟩))
    (hN : ∀ a' w', Sl 31 a' ((6, .pointer none) :: ((5, .int .i64 (a0 + (x.size : Int))) :: ((4, .pointer (some ⟨R, 0, none⟩)) :: l))) → Blk w' R 48 #[.int .i64 7, .string x, .int .i64 a0] → (∀ B z, Below B z w → B ≤ R → Below B z w') → N a' w') : (r_sg 5).wp Tryd.prog (Exit.then N Q) a w := by
  have HN := Lib.hid hN
  have HL := Lib.hid hl
  have e1 := h1
  have e8 := h8
  have e4 := h4
  obtain ⟨f, ea, hf⟩ : ∃ f : Nat → Value, a = ⟨(List.toArray (f 0 :: f 1 :: f 2 :: f 3 :: f 4 :: f 5 :: f 6 :: f 7 :: f 8 :: f 9 :: f 10 :: f 11 :: f 12 :: f 13 :: f 14 :: f 15 :: f 16 :: f 17 :: f 18 :: f 19 :: f 20 :: f 21 :: f 22 :: f 23 :: f 24 :: f 25 :: f 26 :: f 27 :: f 28 :: f 29 :: f 30 :: [])), []⟩ ∧ ∀ k, slot a k = f k := letters_sg a hs.size hs.defers
  rw [hf] at e1 e8 e4
  rw [ea, e1, e8, e4]
  have HS := Lib.hid hs
  have HF := Lib.hid hf
  have E1 := Lib.hid e1
  have E8 := Lib.hid e8
  have E4 := Lib.hid e4
  clear hs ea hf hN hl h1 e1 h8 e8 h4 e4
  have hRK := Lib.hid hR
  have c0 := hR.cell 0
  have c1 := hR.cell 1
  have c2 := hR.cell 2
  simp at c0 c1 c2
  have hfz := fun j => hR.frozen j
  have hRlt := hR.lt
  clear hR
  conv => arg 2; whnf
  go_wp2_with fail
  refine HN.out _ _ ?_ ((((hRK.out.set_ 0 (.int .i64 7)).set_ 1 (.string x)).set_ 2 (.int .i64 a0))) ((fun B z h hB => ((h.setCell (p := ⟨R, 0, none⟩) hB _).setCell (p := ⟨R, 1, none⟩) hB _).setCell (p := ⟨R, 2, none⟩) hB _))
  exact Sl.add (Sl.add (Sl.add (Sl.stay [] HS.out HF.out (by kernel_rfl) rfl trivial HL.out) (by kernel_rfl)) (by kernel_rfl)) (by kernel_rfl)
set_option maxHeartbeats 4000000 in
theorem sg_r6 (a : Act) (w : World) (N : Act → World → Prop) (Q : Exit → Act → World → Prop) (l : List (Nat × Value)) (hs : Sl 31 a l) (hl : (l.map Prod.fst).all (fun k => [0, 1, 4, 9, 10].contains k) = true)
    (j : Nat) (hj : j < 1000)  (h11 : slot a 11 = .int .i64 (j : Nat))
    (hN : ∀ a', Sl 31 a' ((11, .int .i64 (j + 1 : Nat)) :: l) → N a' (w)) : (r_sg 6).wp Tryd.prog (Exit.then N Q) a w := by
  have HN := Lib.hid hN
  have HL := Lib.hid hl
  have e11 := h11
  obtain ⟨f, ea, hf⟩ : ∃ f : Nat → Value, a = ⟨(List.toArray (f 0 :: f 1 :: f 2 :: f 3 :: f 4 :: f 5 :: f 6 :: f 7 :: f 8 :: f 9 :: f 10 :: f 11 :: f 12 :: f 13 :: f 14 :: f 15 :: f 16 :: f 17 :: f 18 :: f 19 :: f 20 :: f 21 :: f 22 :: f 23 :: f 24 :: f 25 :: f 26 :: f 27 :: f 28 :: f 29 :: f 30 :: [])), []⟩ ∧ ∀ k, slot a k = f k := letters_sg a hs.size hs.defers
  rw [hf] at e11
  rw [ea, e11]
  have HS := Lib.hid hs
  have HF := Lib.hid hf
  have E11 := Lib.hid e11
  clear hs ea hf hN hl h11 e11
  conv => arg 2; whnf
  go_wp2_with fail
  refine HN.out _ ?_
  exact Sl.add (Sl.stay [0, 1, 4, 9, 10] HS.out HF.out (by kernel_rfl) rfl ⟨by kernel_rfl, by kernel_rfl, by kernel_rfl, by kernel_rfl, by kernel_rfl, trivial⟩ HL.out) (Eq.trans (b := .int .i64 ((j : Int) + 1)) (by kernel_rfl) (by go_num))
set_option maxHeartbeats 4000000 in
theorem sg_r7 (a : Act) (w : World) (N : Act → World → Prop) (Q : Exit → Act → World → Prop) (l : List (Nat × Value)) (hs : Sl 31 a l) (hl : (l.map Prod.fst).all (fun k => [].contains k) = true)
    (a0 : Int) (R : Nat) (u0 u1 u2 : Value) (hR : Blk w R 48 #[u0, u1, u2])  (h1 : slot a 1 = .int .i64 a0) (h4 : slot a 4 = .pointer (some ⟨R, 0, none⟩))
    (hN : ∀ a' w', Sl 31 a' ((6, .pointer (some ⟨w.heap.size, 0, none⟩)) :: ((5, .int .i64 0) :: ((4, .pointer (some ⟨R, 0, none⟩)) :: l))) → Blk w' R 48 #[.int .i64 0, .string ⟨#[]⟩, .int .i64 0] → Blk w' w.heap.size 26 #[.int .i64 10, .int .i64 a0, .string ⟨#[]⟩] → (∀ B z, Below B z w → B ≤ R → Below B z w') → N a' w') : (r_sg 7).wp Tryd.prog (Exit.then N Q) a w := by
  have HN := Lib.hid hN
  have HL := Lib.hid hl
  have e1 := h1
  have e4 := h4
  obtain ⟨f, ea, hf⟩ : ∃ f : Nat → Value, a = ⟨(List.toArray (f 0 :: f 1 :: f 2 :: f 3 :: f 4 :: f 5 :: f 6 :: f 7 :: f 8 :: f 9 :: f 10 :: f 11 :: f 12 :: f 13 :: f 14 :: f 15 :: f 16 :: f 17 :: f 18 :: f 19 :: f 20 :: f 21 :: f 22 :: f 23 :: f 24 :: f 25 :: f 26 :: f 27 :: f 28 :: f 29 :: f 30 :: [])), []⟩ ∧ ∀ k, slot a k = f k := letters_sg a hs.size hs.defers
  rw [hf] at e1 e4
  rw [ea, e1, e4]
  have HS := Lib.hid hs
  have HF := Lib.hid hf
  have E1 := Lib.hid e1
  have E4 := Lib.hid e4
  clear hs ea hf hN hl h1 e1 h4 e4
  have hRK := Lib.hid hR
  have c0 := hR.cell 0
  have c1 := hR.cell 1
  have c2 := hR.cell 2
  simp at c0 c1 c2
  have hfz := fun j => hR.frozen j
  have hRlt := hR.lt
  clear hR
  have HC := Lib.hid (wrong_any 10 a0 w)
  conv => arg 2; whnf
  go_wp2_with fail
  refine HC.out.mono ?_
  rintro e w' ⟨rfl, rfl⟩
  go_wp2_with fail
  refine HN.out _ _ ?_ (((((hRK.out.set_ 0 (.int .i64 0)).set_ 1 (.string ⟨#[]⟩)).set_ 2 (.int .i64 0)).alloc _)) ((blk_new_of _ _ _ (by simp [World.setCell]))) ((fun B z h hB => ((((h.setCell (p := ⟨R, 0, none⟩) hB _).setCell (p := ⟨R, 1, none⟩) hB _).setCell (p := ⟨R, 2, none⟩) hB _).alloc (by simp [World.setCell]; omega) _)))
  exact Sl.add (Sl.add (Sl.add (Sl.stay [] HS.out HF.out (by kernel_rfl) rfl trivial HL.out) (by kernel_rfl)) (by kernel_rfl)) (by kernel_rfl)
end Go.Proofs.YtpggcmlddmckcaaDoor
