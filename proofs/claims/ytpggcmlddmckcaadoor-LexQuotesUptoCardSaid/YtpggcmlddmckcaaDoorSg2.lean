/-
  The regions of package lex's sign, one by one. Contract of sign in package lex. Written by an AI agent.
-/
import Derived.Test.YtpggcmlddmckcaaDoorLi2
namespace Go.Proofs.YtpggcmlddmckcaaDoor
open Go.RowKit Go.Sort
set_option maxRecDepth 100000
theorem letters_sg (a : Act) (h1 : a.tmps.size = 31) (h2 : a.defers = []) : ∃ f : Nat → Value, a = ⟨(List.toArray (f 0 :: f 1 :: f 2 :: f 3 :: f 4 :: f 5 :: f 6 :: f 7 :: f 8 :: f 9 :: f 10 :: f 11 :: f 12 :: f 13 :: f 14 :: f 15 :: f 16 :: f 17 :: f 18 :: f 19 :: f 20 :: f 21 :: f 22 :: f 23 :: f 24 :: f 25 :: f 26 :: f 27 :: f 28 :: f 29 :: f 30 :: [])), []⟩ ∧ ∀ k, slot a k = f k :=
  ⟨slot a, (spread a 31 h1 h2).trans (by kernel_rfl), fun _ => rfl⟩
noncomputable def r_sg (n : Nat) : Code := ((Tryd.f54.body.bind (findR n)).getD .skip)
def signsB : List UInt8 := [60, 60, 61, 32, 62, 62, 61, 32, 58, 61, 32, 61, 61, 32, 33, 61, 32, 60, 61, 32, 62, 61, 32, 38, 38, 32, 124, 124, 32, 60, 60, 32, 62, 62, 32, 43, 61, 32, 45, 61, 32, 42, 61, 32, 47, 61, 32, 37, 61, 32, 38, 61, 32, 124, 61, 32, 94, 61, 32, 43, 43, 32, 45, 45, 32, 43, 32, 45, 32, 42, 32, 47, 32, 37, 32, 38, 32, 124, 32, 94, 32, 33, 32, 60, 32, 62, 32, 61, 32, 40, 32, 41, 32, 91, 32, 93, 32, 123, 32, 125, 32, 44, 32, 46, 32, 58]
def signsS : ByteArray := ⟨signsB.toArray⟩
theorem fields_signs : Lib.fields signsB = signsL := by decide +kernel
set_option maxHeartbeats 4000000 in
theorem sg_r0 (a : Act) (w : World) (N : Act → World → Prop) (Q : Exit → Act → World → Prop) (l : List (Nat × Value)) (hs : Sl 31 a l) (hl : (l.map Prod.fst).all (fun k => [0, 1].contains k) = true)
     
    (hN : ∀ a', Sl 31 a' ((6, .pointer none) :: ((5, .int .i64 0) :: ((4, .pointer (some ⟨w.heap.size, 0, none⟩)) :: l))) → N a' (w.alloc (.cells #[.int .i64 0, .string ⟨#[]⟩, .int .i64 0] 48))) : (r_sg 0).wp Tryd.prog (Exit.then N Q) a w := by
  have HN := Lib.hid hN
  have HL := Lib.hid hl
  obtain ⟨f, ea, hf⟩ : ∃ f : Nat → Value, a = ⟨(List.toArray (f 0 :: f 1 :: f 2 :: f 3 :: f 4 :: f 5 :: f 6 :: f 7 :: f 8 :: f 9 :: f 10 :: f 11 :: f 12 :: f 13 :: f 14 :: f 15 :: f 16 :: f 17 :: f 18 :: f 19 :: f 20 :: f 21 :: f 22 :: f 23 :: f 24 :: f 25 :: f 26 :: f 27 :: f 28 :: f 29 :: f 30 :: [])), []⟩ ∧ ∀ k, slot a k = f k := letters_sg a hs.size hs.defers
  rw [ea]
  have HS := Lib.hid hs
  have HF := Lib.hid hf
  clear hs ea hf hN hl 
  conv => arg 2; whnf
  go_wp2_with fail
  refine HN.out _ ?_
  exact Sl.add (Sl.add (Sl.add (Sl.stay [0, 1] HS.out HF.out (by kernel_rfl) rfl ⟨by kernel_rfl, by kernel_rfl, trivial⟩ HL.out) (by kernel_rfl)) (by kernel_rfl)) (by kernel_rfl)
set_option maxHeartbeats 4000000 in
theorem sg_r1 (a : Act) (w : World) (N : Act → World → Prop) (Q : Exit → Act → World → Prop) (l : List (Nat × Value)) (hs : Sl 31 a l) (hl : (l.map Prod.fst).all (fun k => [0, 1, 4].contains k) = true)
    (g n : Nat) (W2 : World) (HC : Calls Tryd.prog 61 #[.string signsS] w fun e w' => e = .returned (.slice (some ⟨g, 0, none⟩) n n) ∧ w' = W2)  
    (hN : ∀ a', Sl 31 a' ((11, .int .i64 0) :: ((10, .int .i64 n) :: ((9, .slice (some ⟨g, 0, none⟩) n n) :: l))) → N a' (W2)) : (r_sg 1).wp Tryd.prog (Exit.then N Q) a w := by
  have HN := Lib.hid hN
  have HL := Lib.hid hl
  obtain ⟨f, ea, hf⟩ : ∃ f : Nat → Value, a = ⟨(List.toArray (f 0 :: f 1 :: f 2 :: f 3 :: f 4 :: f 5 :: f 6 :: f 7 :: f 8 :: f 9 :: f 10 :: f 11 :: f 12 :: f 13 :: f 14 :: f 15 :: f 16 :: f 17 :: f 18 :: f 19 :: f 20 :: f 21 :: f 22 :: f 23 :: f 24 :: f 25 :: f 26 :: f 27 :: f 28 :: f 29 :: f 30 :: [])), []⟩ ∧ ∀ k, slot a k = f k := letters_sg a hs.size hs.defers
  rw [ea]
  have HS := Lib.hid hs
  have HF := Lib.hid hf
  clear hs ea hf hN hl 
  have HC := Lib.hid HC
  conv => arg 2; whnf
  go_wp2_with fail
  refine HC.out.mono ?_
  rintro e w' ⟨rfl, rfl⟩
  go_wp2_with fail
  refine HN.out _ ?_
  exact Sl.add (Sl.add (Sl.add (Sl.stay [0, 1, 4] HS.out HF.out (by kernel_rfl) rfl ⟨by kernel_rfl, by kernel_rfl, by kernel_rfl, trivial⟩ HL.out) (by kernel_rfl)) (by kernel_rfl)) (by kernel_rfl)
set_option maxHeartbeats 4000000 in
theorem sg_r2 (a : Act) (w : World) (N : Act → World → Prop) (Q : Exit → Act → World → Prop) (l : List (Nat × Value)) (hs : Sl 31 a l) (hl : (l.map Prod.fst).all (fun k => [0, 1, 4, 9, 10, 11].contains k) = true)
    (n j : Int) (b : Bool) (h : decide (j < n) = b)  (h10 : l.lookup 10 = some (.int .i64 n)) (h11 : l.lookup 11 = some (.int .i64 j))
    (hN : ∀ a', Sl 31 a' ((12, .bool b) :: l) → N a' (w)) : (r_sg 2).wp Tryd.prog (Exit.then N Q) a w := by
  have HN := Lib.hid hN
  have HL := Lib.hid hl
  have e10 := hs.look 10 h10
  have e11 := hs.look 11 h11
  obtain ⟨f, ea, hf⟩ : ∃ f : Nat → Value, a = ⟨(List.toArray (f 0 :: f 1 :: f 2 :: f 3 :: f 4 :: f 5 :: f 6 :: f 7 :: f 8 :: f 9 :: f 10 :: f 11 :: f 12 :: f 13 :: f 14 :: f 15 :: f 16 :: f 17 :: f 18 :: f 19 :: f 20 :: f 21 :: f 22 :: f 23 :: f 24 :: f 25 :: f 26 :: f 27 :: f 28 :: f 29 :: f 30 :: [])), []⟩ ∧ ∀ k, slot a k = f k := letters_sg a hs.size hs.defers
  rw [hf] at e10 e11
  rw [ea, e10, e11]
  have HS := Lib.hid hs
  have HF := Lib.hid hf
  have E10 := Lib.hid e10
  have E11 := Lib.hid e11
  clear hs ea hf hN hl h10 e10 h11 e11
  have HB := Lib.hid h
  clear h
  conv => arg 2; whnf
  go_wp2_with fail
  refine HN.out _ ?_
  exact Sl.add (Sl.stay [0, 1, 4, 9, 10, 11] HS.out HF.out (by kernel_rfl) rfl ⟨by kernel_rfl, by kernel_rfl, by kernel_rfl, by kernel_rfl, Eq.trans (by kernel_rfl) E10.out.symm, Eq.trans (by kernel_rfl) E11.out.symm, trivial⟩ HL.out) (Eq.trans (b := .bool (decide (j < n))) (by kernel_rfl) (by rw [HB.out]))
set_option maxHeartbeats 4000000 in
theorem sg_r3 (a : Act) (w : World) (N : Act → World → Prop) (Q : Exit → Act → World → Prop) (l : List (Nat × Value)) (hs : Sl 31 a l) (hl : (l.map Prod.fst).all (fun k => [0, 1, 4, 9, 10, 11].contains k) = true)
    (g n j : Nat) (hj : j < n) (x : ByteArray) (hc : w.cell? ⟨g, j, none⟩ = some (.string x))  (h9 : l.lookup 9 = some (.slice (some ⟨g, 0, none⟩) n n)) (h11 : l.lookup 11 = some (.int .i64 (j : Nat)))
    (hN : ∀ a', Sl 31 a' ((8, .string x) :: l) → N a' (w)) : (r_sg 3).wp Tryd.prog (Exit.then N Q) a w := by
  have HN := Lib.hid hN
  have HL := Lib.hid hl
  have e9 := hs.look 9 h9
  have e11 := hs.look 11 h11
  obtain ⟨f, ea, hf⟩ : ∃ f : Nat → Value, a = ⟨(List.toArray (f 0 :: f 1 :: f 2 :: f 3 :: f 4 :: f 5 :: f 6 :: f 7 :: f 8 :: f 9 :: f 10 :: f 11 :: f 12 :: f 13 :: f 14 :: f 15 :: f 16 :: f 17 :: f 18 :: f 19 :: f 20 :: f 21 :: f 22 :: f 23 :: f 24 :: f 25 :: f 26 :: f 27 :: f 28 :: f 29 :: f 30 :: [])), []⟩ ∧ ∀ k, slot a k = f k := letters_sg a hs.size hs.defers
  rw [hf] at e9 e11
  rw [ea, e9, e11]
  have HS := Lib.hid hs
  have HF := Lib.hid hf
  have E9 := Lib.hid e9
  have E11 := Lib.hid e11
  clear hs ea hf hN hl h9 e9 h11 e11
  have hj0 : (0 : Int) ≤ (j : Int) := by omega
  have hj1 : (j : Int) < (n : Int) := by omega
  conv => arg 2; whnf
  go_wp2_with fail
  refine HN.out _ ?_
  exact Sl.add (Sl.stay [0, 1, 4, 9, 10, 11] HS.out HF.out (by kernel_rfl) rfl ⟨by kernel_rfl, by kernel_rfl, by kernel_rfl, Eq.trans (by kernel_rfl) E9.out.symm, by kernel_rfl, Eq.trans (by kernel_rfl) E11.out.symm, trivial⟩ HL.out) (by kernel_rfl)
set_option maxHeartbeats 4000000 in
theorem sg_r4 (a : Act) (w : World) (N : Act → World → Prop) (Q : Exit → Act → World → Prop) (l : List (Nat × Value)) (hs : Sl 31 a l) (hl : (l.map Prod.fst).all (fun k => [0, 1, 4, 8, 9, 10, 11].contains k) = true)
    (s : ByteArray) (a0 : Int) (q x : ByteArray) (b : Bool) (hq : ∀ w, (Instr.slice 9 (.string s) (some (.int .i64 (a0))) none none).run Tryd.prog w = .ok (.string q) w) (HC : ∀ w, Calls Tryd.prog 35 #[.string q, .string x] w fun e w' => e = .returned (.bool b) ∧ w' = w)  (h0 : l.lookup 0 = some (.string s)) (h1 : l.lookup 1 = some (.int .i64 a0)) (h8 : l.lookup 8 = some (.string x))
    (hN : ∀ a', Sl 31 a' ((19, .bool b) :: l) → N a' (w)) : (r_sg 4).wp Tryd.prog (Exit.then N Q) a w := by
  have HN := Lib.hid hN
  have HL := Lib.hid hl
  have e0 := hs.look 0 h0
  have e1 := hs.look 1 h1
  have e8 := hs.look 8 h8
  obtain ⟨f, ea, hf⟩ : ∃ f : Nat → Value, a = ⟨(List.toArray (f 0 :: f 1 :: f 2 :: f 3 :: f 4 :: f 5 :: f 6 :: f 7 :: f 8 :: f 9 :: f 10 :: f 11 :: f 12 :: f 13 :: f 14 :: f 15 :: f 16 :: f 17 :: f 18 :: f 19 :: f 20 :: f 21 :: f 22 :: f 23 :: f 24 :: f 25 :: f 26 :: f 27 :: f 28 :: f 29 :: f 30 :: [])), []⟩ ∧ ∀ k, slot a k = f k := letters_sg a hs.size hs.defers
  rw [hf] at e0 e1 e8
  rw [ea, e0, e1, e8]
  have HS := Lib.hid hs
  have HF := Lib.hid hf
  have E0 := Lib.hid e0
  have E1 := Lib.hid e1
  have E8 := Lib.hid e8
  clear hs ea hf hN hl h0 e0 h1 e1 h8 e8
  have HC := Lib.hid HC
  conv => arg 2; whnf
  go_wp2_with fail
  refine (HC.out _).mono ?_
  rintro e w' ⟨rfl, rfl⟩
  go_wp2_with fail
  refine HN.out _ ?_
  exact Sl.add (Sl.stay [0, 1, 4, 8, 9, 10, 11] HS.out HF.out (by kernel_rfl) rfl ⟨Eq.trans (by kernel_rfl) E0.out.symm, Eq.trans (by kernel_rfl) E1.out.symm, by kernel_rfl, Eq.trans (by kernel_rfl) E8.out.symm, by kernel_rfl, by kernel_rfl, by kernel_rfl, trivial⟩ HL.out) (by kernel_rfl)
set_option maxHeartbeats 4000000 in
theorem sg_r5 (a : Act) (w : World) (N : Act → World → Prop) (Q : Exit → Act → World → Prop) (l : List (Nat × Value)) (hs : Sl 31 a l) (hl : (l.map Prod.fst).all (fun k => [].contains k) = true)
    (a0 : Int) (x : ByteArray) (h0 : 0 ≤ a0) (h1 : a0 + (x.size : Int) ≤ 140737488355328) (R : Nat) (u0 u1 u2 : Value) (hR : Blk w R 48 #[u0, u1, u2])  (h1 : slot a 1 = .int .i64 a0) (h8 : slot a 8 = .string x) (h4 : slot a 4 = .pointer (some ⟨R, 0, none⟩))
    (hN : ∀ a' w', Sl 31 a' ((6, .pointer none) :: ((5, .int .i64 (a0 + (x.size : Int))) :: ((4, .pointer (some ⟨R, 0, none⟩)) :: l))) → Blk w' R 48 #[.int .i64 7, .string x, .int .i64 a0] → (∀ B z, Below B z w → B ≤ R → Below B z w') → N a' w') : (r_sg 5).wp Tryd.prog (Exit.then N Q) a w := by
  have HN := Lib.hid hN
  have HL := Lib.hid hl
  have e1 := h1
  have e8 := h8
  have e4 := h4
  obtain ⟨f, ea, hf⟩ : ∃ f : Nat → Value, a = ⟨(List.toArray (f 0 :: f 1 :: f 2 :: f 3 :: f 4 :: f 5 :: f 6 :: f 7 :: f 8 :: f 9 :: f 10 :: f 11 :: f 12 :: f 13 :: f 14 :: f 15 :: f 16 :: f 17 :: f 18 :: f 19 :: f 20 :: f 21 :: f 22 :: f 23 :: f 24 :: f 25 :: f 26 :: f 27 :: f 28 :: f 29 :: f 30 :: [])), []⟩ ∧ ∀ k, slot a k = f k := letters_sg a hs.size hs.defers
  rw [hf] at e1 e8 e4
  rw [ea, e1, e8, e4]
  have HS := Lib.hid hs
  have HF := Lib.hid hf
  have E1 := Lib.hid e1
  have E8 := Lib.hid e8
  have E4 := Lib.hid e4
  clear hs ea hf hN hl h1 e1 h8 e8 h4 e4
  have hRK := Lib.hid hR
  have c0 := hR.cell 0
  have c1 := hR.cell 1
  have c2 := hR.cell 2
  simp at c0 c1 c2
  have hfz := fun j => hR.frozen j
  have hRlt := hR.lt
  clear hR
  conv => arg 2; whnf
  go_wp2_with fail
  refine HN.out _ _ ?_ ((((hRK.out.set_ 0 (.int .i64 7)).set_ 1 (.string x)).set_ 2 (.int .i64 a0))) ((fun B z h hB => ((h.setCell (p := ⟨R, 0, none⟩) hB _).setCell (p := ⟨R, 1, none⟩) hB _).setCell (p := ⟨R, 2, none⟩) hB _))
  exact Sl.add (Sl.add (Sl.add (Sl.stay [] HS.out HF.out (by kernel_rfl) rfl trivial HL.out) (by kernel_rfl)) (by kernel_rfl)) (by kernel_rfl)
set_option maxHeartbeats 4000000 in
theorem sg_r6 (a : Act) (w : World) (N : Act → World → Prop) (Q : Exit → Act → World → Prop) (l : List (Nat × Value)) (hs : Sl 31 a l) (hl : (l.map Prod.fst).all (fun k => [0, 1, 4, 9, 10].contains k) = true)
    (j : Nat) (hj : j < 1000)  (h11 : slot a 11 = .int .i64 (j : Nat))
    (hN : ∀ a', Sl 31 a' ((11, .int .i64 (j + 1 : Nat)) :: l) → N a' (w)) : (r_sg 6).wp Tryd.prog (Exit.then N Q) a w := by
  have HN := Lib.hid hN
  have HL := Lib.hid hl
  have e11 := h11
  obtain ⟨f, ea, hf⟩ : ∃ f : Nat → Value, a = ⟨(List.toArray (f 0 :: f 1 :: f 2 :: f 3 :: f 4 :: f 5 :: f 6 :: f 7 :: f 8 :: f 9 :: f 10 :: f 11 :: f 12 :: f 13 :: f 14 :: f 15 :: f 16 :: f 17 :: f 18 :: f 19 :: f 20 :: f 21 :: f 22 :: f 23 :: f 24 :: f 25 :: f 26 :: f 27 :: f 28 :: f 29 :: f 30 :: [])), []⟩ ∧ ∀ k, slot a k = f k := letters_sg a hs.size hs.defers
  rw [hf] at e11
  rw [ea, e11]
  have HS := Lib.hid hs
  have HF := Lib.hid hf
  have E11 := Lib.hid e11
  clear hs ea hf hN hl h11 e11
  conv => arg 2; whnf
  go_wp2_with fail
  refine HN.out _ ?_
  exact Sl.add (Sl.stay [0, 1, 4, 9, 10] HS.out HF.out (by kernel_rfl) rfl ⟨by kernel_rfl, by kernel_rfl, by kernel_rfl, by kernel_rfl, by kernel_rfl, trivial⟩ HL.out) (Eq.trans (b := .int .i64 ((j : Int) + 1)) (by kernel_rfl) (by go_num))
set_option maxHeartbeats 4000000 in
theorem sg_r7 (a : Act) (w : World) (N : Act → World → Prop) (Q : Exit → Act → World → Prop) (l : List (Nat × Value)) (hs : Sl 31 a l) (hl : (l.map Prod.fst).all (fun k => [].contains k) = true)
    (a0 : Int) (R : Nat) (u0 u1 u2 : Value) (hR : Blk w R 48 #[u0, u1, u2])  (h1 : slot a 1 = .int .i64 a0) (h4 : slot a 4 = .pointer (some ⟨R, 0, none⟩))
    (hN : ∀ a' w', Sl 31 a' ((6, .pointer (some ⟨w.heap.size, 0, none⟩)) :: ((5, .int .i64 0) :: ((4, .pointer (some ⟨R, 0, none⟩)) :: l))) → Blk w' R 48 #[.int .i64 0, .string ⟨#[]⟩, .int .i64 0] → Blk w' w.heap.size 26 #[.int .i64 10, .int .i64 a0, .string ⟨#[]⟩] → (∀ B z, Below B z w → B ≤ R → Below B z w') → N a' w') : (r_sg 7).wp Tryd.prog (Exit.then N Q) a w := by
  have HN := Lib.hid hN
  have HL := Lib.hid hl
  have e1 := h1
  have e4 := h4
  obtain ⟨f, ea, hf⟩ : ∃ f : Nat → Value, a = ⟨(List.toArray (f 0 :: f 1 :: f 2 :: f 3 :: f 4 :: f 5 :: f 6 :: f 7 :: f 8 :: f 9 :: f 10 :: f 11 :: f 12 :: f 13 :: f 14 :: f 15 :: f 16 :: f 17 :: f 18 :: f 19 :: f 20 :: f 21 :: f 22 :: f 23 :: f 24 :: f 25 :: f 26 :: f 27 :: f 28 :: f 29 :: f 30 :: [])), []⟩ ∧ ∀ k, slot a k = f k := letters_sg a hs.size hs.defers
  rw [hf] at e1 e4
  rw [ea, e1, e4]
  have HS := Lib.hid hs
  have HF := Lib.hid hf
  have E1 := Lib.hid e1
  have E4 := Lib.hid e4
  clear hs ea hf hN hl h1 e1 h4 e4
  have hRK := Lib.hid hR
  have c0 := hR.cell 0
  have c1 := hR.cell 1
  have c2 := hR.cell 2
  simp at c0 c1 c2
  have hfz := fun j => hR.frozen j
  have hRlt := hR.lt
  clear hR
  have HC := Lib.hid (wrong_any 10 a0 w)
  conv => arg 2; whnf
  go_wp2_with fail
  refine HC.out.mono ?_
  rintro e w' ⟨rfl, rfl⟩
  go_wp2_with fail
  refine HN.out _ _ ?_ (((((hRK.out.set_ 0 (.int .i64 0)).set_ 1 (.string ⟨#[]⟩)).set_ 2 (.int .i64 0)).alloc _)) ((blk_new_of _ _ _ (by simp [World.setCell]))) ((fun B z h hB => ((((h.setCell (p := ⟨R, 0, none⟩) hB _).setCell (p := ⟨R, 1, none⟩) hB _).setCell (p := ⟨R, 2, none⟩) hB _).alloc (by simp [World.setCell]; omega) _)))
  exact Sl.add (Sl.add (Sl.add (Sl.stay [] HS.out HF.out (by kernel_rfl) rfl trivial HL.out) (by kernel_rfl)) (by kernel_rfl)) (by kernel_rfl)
end Go.Proofs.YtpggcmlddmckcaaDoor

namespace Go.Proofs.YtpggcmlddmckcaaDoor
open Go.RowKit Go.Sort
set_option maxRecDepth 100000

noncomputable def sgTurn : Code := .seq (r_sg 3) (.seq (r_sg 4) (.cond (.tmp 19) (.seq (r_sg 5) .ret) .skip))
noncomputable def sgLoop : Code := .seq (r_sg 2) (.seq (.cond (.tmp 12) .skip (.exit 0)) (.seq (.block 1 sgTurn) (r_sg 6)))
noncomputable def sgBody : Code := .seq (r_sg 0) (.seq (.seq (r_sg 1) (.block 0 (.loop sgLoop))) (.seq (r_sg 7) .ret))
theorem sg_body : Tryd.f54.body = some sgBody := by kernel_rfl

theorem res_sg {tmps : Array Value} {W : World} {R : Nat} {v5 v6 : Value} {t : Tok} (h4 : tmps.getD 4 undef = .pointer (some ⟨R, 0, none⟩)) (h5 : tmps.getD 5 undef = v5) (h6 : tmps.getD 6 undef = v6) (hR : Blk W R 48 (tokC t)) :
    (results Tryd.f54 tmps).run Tryd.prog W = .ok (.tuple #[tokV t, v5, v6]) W := by
  have c0 : W.cell? ⟨R, 0, none⟩ = some (.int .i64 t.kind) := hR.cell 0
  have c1 : W.cell? ⟨R, 1, none⟩ = some (.string (bs t.text)) := hR.cell 1
  have c2 : W.cell? ⟨R, 2, none⟩ = some (.int .i64 t.place) := hR.cell 2
  simp only [Array.getD_eq_getD_getElem?] at h4 h5 h6
  simp [results, Tryd.results54, go_sem, h4, h5, h6, c0, c1, c2, tokV, tokC]

def signR (a0 : Nat) (l : List UInt8) : Ans (Tok × Nat) := match signsL.find? (fun x => x.isPrefixOf l) with
  | some x => .ok (⟨7, x, a0⟩, x.length)
  | none => .bad ⟨10, a0⟩
theorem signs_count : signsL.length = 42 := rfl
theorem sign_short : ∀ x ∈ signsL, x.length ≤ 3 := by decide
theorem signs_ascii : ∀ b ∈ signsB, b.toNat < 128 := by decide +kernel
theorem find_at {p : List UInt8 → Bool} {x : List UInt8} : ∀ (L : List (List UInt8)) (j : Nat), L[j]? = some x → p x = true → (∀ i y, i < j → L[i]? = some y → p y = false) → L.find? p = some x
  | [], j, h, _, _ => by simp at h
  | y :: L, 0, h, hp, _ => by
    simp at h
    subst h
    rw [List.find?_cons, hp]
  | y :: L, j + 1, h, hp, hn => by
    have := hn 0 y (by omega) rfl
    rw [List.find?_cons, this]
    exact find_at L j (by simpa using h) hp (fun i z hi hz => hn (i + 1) z (by omega) (by simpa using hz))
theorem find_not {p : List UInt8 → Bool} (L : List (List UInt8)) (h : ∀ i y, i < L.length → L[i]? = some y → p y = false) : L.find? p = none := by
  rw [List.find?_eq_none]
  intro x hx
  obtain ⟨j, hj, e⟩ := List.mem_iff_getElem.1 hx
  rw [h j x hj (by rw [List.getElem?_eq_getElem hj, e])]
  decide

theorem sg_loopEnd (a : Act) (w : World) (j : Nat) (hj : j < 42) {v0 v1 v4 v9 v10 : Value} (hs : Sl 31 a [(10, v10), (9, v9), (4, v4), (1, v1), (0, v0)]) (h11 : slot a 11 = .int .i64 (j : Int)) (Q : Exit → Act → World → Prop)
    (hN : ∀ a', Sl 31 a' [(11, .int .i64 ((j + 1 : Nat) : Int)), (10, v10), (9, v9), (4, v4), (1, v1), (0, v0)] → Q .normal a' w) : (r_sg 6).wp Tryd.prog Q a w :=
  wp_then (sg_r6 a w _ _ _ hs rfl j (by omega) h11 hN)

theorem sign_any (s : ByteArray) (hs : s.size ≤ 140737488355320) (a0 : Nat) (ha : a0 < s.size) (w : World) (hL : LexAt w) :
    Calls Tryd.prog 54 #[.string s, .int .i64 a0] w (OneR a0 (signR a0 (s.data.toList.drop a0)) w) := by
  obtain ⟨l, hl⟩ : ∃ l, s.data.toList.drop a0 = l := ⟨_, rfl⟩
  rw [hl]
  have hq := fun w => sl_from (s := s) (k := a0) (by omega) (x := (a0 : Int)) rfl w
  rw [hl] at hq
  refine calls_of_wp Tryd.func54 sg_body ?_
  have h0 : Sl 31 { tmps := #[Value.string s, .int .i64 (a0 : Int)] ++ Array.replicate (Tryd.f54.ntmps - #[Value.string s, .int .i64 (a0 : Int)].size) undef, defers := [] } [(1, .int .i64 (a0 : Int)), (0, .string s)] :=
    ⟨by simp [Tryd.ntmps54], rfl, fun p hp => by
      simp only [List.mem_cons, List.not_mem_nil, or_false] at hp
      rcases hp with rfl | rfl <;> simp [slot]⟩
  generalize { tmps := #[Value.string s, .int .i64 (a0 : Int)] ++ Array.replicate (Tryd.f54.ntmps - #[Value.string s, .int .i64 (a0 : Int)].size) undef, defers := [] : Act } = b0 at h0 ⊢
  unfold sgBody
  refine wp_seq (sg_r0 b0 w _ _ _ h0 rfl fun a1 h1 => ?_)
  have hR1 : Blk (w.alloc (.cells #[.int .i64 0, .string ⟨#[]⟩, .int .i64 0] 48)) w.heap.size 48 #[.int .i64 0, .string ⟨#[]⟩, .int .i64 0] := Blk.new _ _ _
  have hb1 : Below w.heap.size w (w.alloc (.cells #[.int .i64 0, .string ⟨#[]⟩, .int .i64 0] 48)) := bl_alloc (Below.refl _ _) _
  generalize w.alloc (.cells #[.int .i64 0, .string ⟨#[]⟩, .int .i64 0] 48) = w1 at hR1 hb1 ⊢
  have h1 := h1.none.add (h1.look 0 rfl) |>.add (h1.look 1 rfl) |>.add (h1.look 4 rfl)
  have hF := Tryd.strings_Fields_laid signsS w1 (by decide) (fun j b hj => signs_ascii b (List.mem_of_getElem? hj)) (hL.below hb1 (Nat.le_refl _)).blanks
  rw [show Lib.fields signsS.data.toList = signsL from fields_signs] at hF
  refine wp_seq (wp_seq (sg_r1 a1 w1 _ _ _ h1 rfl w1.heap.size 42 _ hF fun a2 h2 => ?_))
  have hrow : StrsAt (w1.alloc (.cells (signsL.map fun l => Value.string ⟨l.toArray⟩).toArray 9)) (some ⟨w1.heap.size, 0, none⟩) (signsL.map bs) := strs_block (heap_alloc_new w1 _) _ (by rw [List.map_map]; rfl)
  have hR2 := hR1.alloc (.cells (signsL.map fun l => Value.string ⟨l.toArray⟩).toArray 9)
  have hb2 := bl_alloc hb1 (.cells (signsL.map fun l => Value.string ⟨l.toArray⟩).toArray 9)
  generalize w1.alloc (.cells (signsL.map fun l => Value.string ⟨l.toArray⟩).toArray 9) = w2 at hrow hR2 hb2 ⊢
  have hz2 := hb2.size
  refine wp_block ?_
  refine wp_loop (fun a' wr => ∃ j : Nat, j ≤ 42 ∧ wr = w2 ∧ Sl 31 a' [(11, .int .i64 (j : Int)), (10, .int .i64 (42 : Nat)), (9, .slice (some ⟨w1.heap.size, 0, none⟩) 42 42), (4, .pointer (some ⟨w.heap.size, 0, none⟩)), (1, .int .i64 (a0 : Int)), (0, .string s)] ∧
    ∀ i y, i < j → signsL[i]? = some y → y.isPrefixOf l = false) (fun a' _ => muTo 42 (slot a' 11)) ⟨0, by omega, rfl, h2, fun i _ h => absurd h (by omega)⟩ ?_
  rintro a3 wr ⟨j, hj, rfl, h3, hno⟩
  rw [h3.look 11 rfl, muTo_int]
  unfold sgLoop
  by_cases hlt : j < 42
  · refine wp_seq (sg_r2 a3 wr _ _ _ h3 rfl 42 j true (decide_eq_true (by omega)) rfl rfl fun a4 h4 => ?_)
    refine wp_seq (wpc_on (h4.look 12 rfl) ?_)
    refine wp_seq (wp_block ?_)
    obtain ⟨x, hx⟩ : ∃ x, signsL[j]? = some x := ⟨_, List.getElem?_eq_getElem (by rw [signs_count]; exact hlt)⟩
    obtain ⟨b, o, eb, hc⟩ := hrow.get (j := j) (x := bs x) (by rw [List.getElem?_map, hx]; rfl)
    injection eb with eb
    injection eb with eb1 eb2
    subst eb1 eb2
    rw [Nat.zero_add] at hc
    unfold sgTurn
    refine wp_seq (sg_r3 a4 wr _ _ _ h4.tl rfl _ 42 j hlt _ hc rfl rfl fun a5 h5 => ?_)
    have h5 := h5.none.add (h5.look 0 rfl) |>.add (h5.look 1 rfl) |>.add (h5.look 4 rfl) |>.add (h5.look 8 rfl) |>.add (h5.look 9 rfl) |>.add (h5.look 10 rfl) |>.add (h5.look 11 rfl)
    have hH := fun w => Tryd.strings_HasPrefix (bs l) (bs x) w
    simp only [bs_list, Lib.hasPrefix] at hH
    refine wp_seq (sg_r4 a5 wr _ _ _ h5 rfl s a0 (bs l) (bs x) _ hq hH rfl rfl rfl fun a6 h6 => ?_)
    cases hp : x.isPrefixOf l with
    | true =>
      rw [hp] at h6
      refine wp_cond_true (h6.look 19 rfl) ?_
      have hx3 := sign_short x (List.mem_of_getElem? hx)
      have hfind := find_at (p := fun x => x.isPrefixOf l) signsL j hx hp hno
      refine wp_seq (sg_r5 a6 wr _ _ _ h6.none rfl a0 (bs x) (by omega) (by rw [bs_size]; omega) w.heap.size _ _ _ hR2 (h6.look 1 rfl) (h6.look 8 rfl) (h6.look 4 rfl) fun a7 w7 h7 hR7 hb7 => wp_ret ?_)
      show bodyPost Tryd.prog Tryd.f54 _ .ret a7 w7
      refine bodyPost_ret (v := .tuple #[tokV ⟨7, x, a0⟩, .int .i64 ((a0 : Int) + ((bs x).size : Int)), .pointer none]) (res_sg (h7.look 4 rfl) (h7.look 5 rfl) (h7.look 6 rfl) hR7) h7.defers ?_
      unfold signR
      rw [hfind]
      exact OneR.ok (hb7 _ _ hb2 (Nat.le_refl _)) (by rw [bs_size]; simp)
    | false =>
      rw [hp] at h6
      refine wpc_off (h6.look 19 rfl) ?_
      show Code.wp _ (r_sg 6) _ a6 wr
      have h6' := h6.none.add (h6.look 0 rfl) |>.add (h6.look 1 rfl) |>.add (h6.look 4 rfl) |>.add (h6.look 9 rfl) |>.add (h6.look 10 rfl)
      refine sg_loopEnd a6 wr j hlt h6' (h6.look 11 rfl) _ fun a7 h7 => ?_
      refine ⟨⟨j + 1, by omega, rfl, ?_, fun i y hi hy => ?_⟩, ?_⟩
      · exact h7.none.add (h7.look 0 rfl) |>.add (h7.look 1 rfl) |>.add (h7.look 4 rfl) |>.add (h7.look 9 rfl) |>.add (h7.look 10 rfl) |>.add (h7.look 11 rfl)
      · by_cases hij : i = j
        · subst hij; rw [hx] at hy; injection hy with hy; subst hy; exact hp
        · exact hno i y (by omega) hy
      · rw [h7.look 11 rfl, muTo_int]; omega
  · refine wp_seq (sg_r2 a3 wr _ _ _ h3 rfl 42 j false (decide_eq_false (by omega)) rfl rfl fun a4 h4 => ?_)
    refine wp_seq (wpc_exit (h4.look 12 rfl) ?_)
    first | refine in_block' ?_ | refine then_exit (then_exit (in_block' ?_)) | refine then_exit (then_exit (then_exit (in_block' ?_)))
    show Code.wp _ (Code.seq (r_sg 7) .ret) _ a4 wr
    refine wp_seq (sg_r7 a4 wr _ _ _ h4.none rfl a0 w.heap.size _ _ _ hR2 (h4.look 1 rfl) (h4.look 4 rfl) fun a7 w7 h7 hR7 hW7 hb7 => wp_ret ?_)
    show bodyPost Tryd.prog Tryd.f54 _ .ret a7 w7
    refine bodyPost_ret (v := .tuple #[tokV ⟨0, [], 0⟩, .int .i64 0, .pointer (some ⟨wr.heap.size, 0, none⟩)]) (res_sg (h7.look 4 rfl) (h7.look 5 rfl) (h7.look 6 rfl) hR7) h7.defers ?_
    have hnone := find_not (p := fun x => x.isPrefixOf l) signsL (fun i y hi hy => hno i y (by rw [signs_count] at hi; omega) hy)
    unfold signR
    rw [hnone]
    exact OneR.bad (hb7 _ _ hb2 (Nat.le_refl _)) _ _ _ rfl ⟨hz2, hW7⟩
end Go.Proofs.YtpggcmlddmckcaaDoor
