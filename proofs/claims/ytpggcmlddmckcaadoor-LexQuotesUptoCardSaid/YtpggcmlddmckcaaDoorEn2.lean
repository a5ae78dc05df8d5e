/-
  The regions of package lex's ending, one by one. Contract of ending in package lex; tokens in a row. Written by an AI agent.
-/
import Derived.Test.YtpggcmlddmckcaaDoorOn2
namespace Go.Proofs.YtpggcmlddmckcaaDoor
open Go.RowKit Go.Sort
set_option maxRecDepth 100000
theorem letters_en (a : Act) (h1 : a.tmps.size = 28) (h2 : a.defers = []) : ∃ f : Nat → Value, a = ⟨(List.toArray (f 0 :: f 1 :: f 2 :: f 3 :: f 4 :: f 5 :: f 6 :: f 7 :: f 8 :: f 9 :: f 10 :: f 11 :: f 12 :: f 13 :: f 14 :: f 15 :: f 16 :: f 17 :: f 18 :: f 19 :: f 20 :: f 21 :: f 22 :: f 23 :: f 24 :: f 25 :: f 26 :: f 27 :: [])), []⟩ ∧ ∀ k, slot a k = f k :=
  ⟨slot a, (spread a 28 h1 h2).trans (by kernel_rfl), fun _ => rfl⟩
noncomputable def r_en (n : Nat) : Code := ((Tryd.f34.body.bind (findR n)).getD .skip)
def endsB : List UInt8 := [32, 97, 110, 121, 32, 98, 114, 101, 97, 107, 32, 99, 111, 110, 116, 105, 110, 117, 101, 32, 102, 97, 108, 108, 116, 104, 114, 111, 117, 103, 104, 32, 102, 97, 108, 115, 101, 32, 102, 117, 110, 99, 32, 109, 97, 112, 32, 110, 105, 108, 32, 114, 101, 116, 117, 114, 110, 32, 116, 114, 117, 101, 32, 41, 32, 93, 32, 125, 32, 43, 43, 32, 45, 45, 32]
def endsS : ByteArray := ⟨endsB.toArray⟩
theorem ends_law : ∀ x ∈ wordsL ++ signsL, Lib.contains endsB (32 :: x ++ [32]) = endsL.contains x := by decide +kernel
set_option maxHeartbeats 4000000 in
theorem en_r0 (a : Act) (w : World) (N : Act → World → Prop) (Q : Exit → Act → World → Prop) (l : List (Nat × Value)) (hs : Sl 28 a l) (hl : (l.map Prod.fst).all (fun k => [0].contains k) = true)
     
    (hN : ∀ a', Sl 28 a' ((2, .bool false) :: l) → N a' (w)) : (r_en 0).wp Tryd.prog (Exit.then N Q) a w := by
  have HN := Lib.hid hN
  have HL := Lib.hid hl
  obtain ⟨f, ea, hf⟩ : ∃ f : Nat → Value, a = ⟨(List.toArray (f 0 :: f 1 :: f 2 :: f 3 :: f 4 :: f 5 :: f 6 :: f 7 :: f 8 :: f 9 :: f 10 :: f 11 :: f 12 :: f 13 :: f 14 :: f 15 :: f 16 :: f 17 :: f 18 :: f 19 :: f 20 :: f 21 :: f 22 :: f 23 :: f 24 :: f 25 :: f 26 :: f 27 :: [])), []⟩ ∧ ∀ k, slot a k = f k := letters_en a hs.size hs.defers
  rw [ea]
  have HS := Lib.hid hs
  have HF := Lib.hid hf
  clear hs ea hf hN hl 
  conv => arg 2; whnf
  go_wp2_with fail
  refine HN.out _ ?_
  exact Sl.add (Sl.stay [0] HS.out HF.out (by kernel_rfl) rfl ⟨by kernel_rfl, trivial⟩ HL.out) (by kernel_rfl)
set_option maxHeartbeats 4000000 in
theorem en_r1n (a : Act) (w : World) (N : Act → World → Prop) (Q : Exit → Act → World → Prop) (l : List (Nat × Value)) (hs : Sl 28 a l) (hl : (l.map Prod.fst).all (fun k => [0].contains k) = true)
     (h0 : l.lookup 0 = some (.slice none 0 0))
    (hN : ∀ a', Sl 28 a' ((6, .bool true) :: l) → N a' (w)) : (r_en 1).wp Tryd.prog (Exit.then N Q) a w := by
  have HN := Lib.hid hN
  have HL := Lib.hid hl
  have e0 := hs.look 0 h0
  obtain ⟨f, ea, hf⟩ : ∃ f : Nat → Value, a = ⟨(List.toArray (f 0 :: f 1 :: f 2 :: f 3 :: f 4 :: f 5 :: f 6 :: f 7 :: f 8 :: f 9 :: f 10 :: f 11 :: f 12 :: f 13 :: f 14 :: f 15 :: f 16 :: f 17 :: f 18 :: f 19 :: f 20 :: f 21 :: f 22 :: f 23 :: f 24 :: f 25 :: f 26 :: f 27 :: [])), []⟩ ∧ ∀ k, slot a k = f k := letters_en a hs.size hs.defers
  rw [hf] at e0
  rw [ea, e0]
  have HS := Lib.hid hs
  have HF := Lib.hid hf
  have E0 := Lib.hid e0
  clear hs ea hf hN hl h0 e0
  conv => arg 2; whnf
  go_wp2_with fail
  refine HN.out _ ?_
  exact Sl.add (Sl.stay [0] HS.out HF.out (by kernel_rfl) rfl ⟨Eq.trans (by kernel_rfl) E0.out.symm, trivial⟩ HL.out) (by kernel_rfl)
set_option maxHeartbeats 4000000 in
theorem en_r1z (a : Act) (w : World) (N : Act → World → Prop) (Q : Exit → Act → World → Prop) (l : List (Nat × Value)) (hs : Sl 28 a l) (hl : (l.map Prod.fst).all (fun k => [0].contains k) = true)
    (g pc : Nat)  (h0 : l.lookup 0 = some (.slice (some ⟨g, 0, none⟩) 0 pc))
    (hN : ∀ a', Sl 28 a' ((6, .bool true) :: l) → N a' (w)) : (r_en 1).wp Tryd.prog (Exit.then N Q) a w := by
  have HN := Lib.hid hN
  have HL := Lib.hid hl
  have e0 := hs.look 0 h0
  obtain ⟨f, ea, hf⟩ : ∃ f : Nat → Value, a = ⟨(List.toArray (f 0 :: f 1 :: f 2 :: f 3 :: f 4 :: f 5 :: f 6 :: f 7 :: f 8 :: f 9 :: f 10 :: f 11 :: f 12 :: f 13 :: f 14 :: f 15 :: f 16 :: f 17 :: f 18 :: f 19 :: f 20 :: f 21 :: f 22 :: f 23 :: f 24 :: f 25 :: f 26 :: f 27 :: [])), []⟩ ∧ ∀ k, slot a k = f k := letters_en a hs.size hs.defers
  rw [hf] at e0
  rw [ea, e0]
  have HS := Lib.hid hs
  have HF := Lib.hid hf
  have E0 := Lib.hid e0
  clear hs ea hf hN hl h0 e0
  conv => arg 2; whnf
  go_wp2_with fail
  refine HN.out _ ?_
  exact Sl.add (Sl.stay [0] HS.out HF.out (by kernel_rfl) rfl ⟨Eq.trans (by kernel_rfl) E0.out.symm, trivial⟩ HL.out) (by kernel_rfl)
set_option maxHeartbeats 4000000 in
theorem en_r1s (a : Act) (w : World) (N : Act → World → Prop) (Q : Exit → Act → World → Prop) (l : List (Nat × Value)) (hs : Sl 28 a l) (hl : (l.map Prod.fst).all (fun k => [0].contains k) = true)
    (g m pc : Nat) (hm : m ≤ 140737488355328)  (h0 : l.lookup 0 = some (.slice (some ⟨g, 0, none⟩) (m + 1) pc))
    (hN : ∀ a', Sl 28 a' ((6, .bool false) :: l) → N a' (w)) : (r_en 1).wp Tryd.prog (Exit.then N Q) a w := by
  have HN := Lib.hid hN
  have HL := Lib.hid hl
  have e0 := hs.look 0 h0
  obtain ⟨f, ea, hf⟩ : ∃ f : Nat → Value, a = ⟨(List.toArray (f 0 :: f 1 :: f 2 :: f 3 :: f 4 :: f 5 :: f 6 :: f 7 :: f 8 :: f 9 :: f 10 :: f 11 :: f 12 :: f 13 :: f 14 :: f 15 :: f 16 :: f 17 :: f 18 :: f 19 :: f 20 :: f 21 :: f 22 :: f 23 :: f 24 :: f 25 :: f 26 :: f 27 :: [])), []⟩ ∧ ∀ k, slot a k = f k := letters_en a hs.size hs.defers
  rw [hf] at e0
  rw [ea, e0]
  have HS := Lib.hid hs
  have HF := Lib.hid hf
  have E0 := Lib.hid e0
  clear hs ea hf hN hl h0 e0
  have hz : (((m : Int) + 1) == 0) = false := by rw [beq_eq_false_iff_ne]; omega
  conv => arg 2; whnf
  go_wp2_with fail
  refine HN.out _ ?_
  exact Sl.add (Sl.stay [0] HS.out HF.out (by kernel_rfl) rfl ⟨Eq.trans (by kernel_rfl) E0.out.symm, trivial⟩ HL.out) (by kernel_rfl)
set_option maxHeartbeats 4000000 in
theorem en_r2 (a : Act) (w : World) (N : Act → World → Prop) (Q : Exit → Act → World → Prop) (l : List (Nat × Value)) (hs : Sl 28 a l) (hl : (l.map Prod.fst).all (fun k => [].contains k) = true)
     
    (hN : ∀ a', Sl 28 a' ((2, .bool false) :: l) → N a' (w)) : (r_en 2).wp Tryd.prog (Exit.then N Q) a w := by
  have HN := Lib.hid hN
  have HL := Lib.hid hl
  obtain ⟨f, ea, hf⟩ : ∃ f : Nat → Value, a = ⟨(List.toArray (f 0 :: f 1 :: f 2 :: f 3 :: f 4 :: f 5 :: f 6 :: f 7 :: f 8 :: f 9 :: f 10 :: f 11 :: f 12 :: f 13 :: f 14 :: f 15 :: f 16 :: f 17 :: f 18 :: f 19 :: f 20 :: f 21 :: f 22 :: f 23 :: f 24 :: f 25 :: f 26 :: f 27 :: [])), []⟩ ∧ ∀ k, slot a k = f k := letters_en a hs.size hs.defers
  rw [ea]
  have HS := Lib.hid hs
  have HF := Lib.hid hf
  clear hs ea hf hN hl 
  conv => arg 2; whnf
  go_wp2_with fail
  refine HN.out _ ?_
  exact Sl.add (Sl.stay [] HS.out HF.out (by kernel_rfl) rfl trivial HL.out) (by kernel_rfl)
set_option maxHeartbeats 4000000 in
theorem en_r3 (a : Act) (w : World) (N : Act → World → Prop) (Q : Exit → Act → World → Prop) (l : List (Nat × Value)) (hs : Sl 28 a l) (hl : (l.map Prod.fst).all (fun k => [0].contains k) = true)
    (g m pc : Nat) (hm : m ≤ 140737488355328) (k p : Int) (tx : ByteArray) (c0 : w.cell? ⟨g, m * 3, none⟩ = some (.int .i64 k)) (c1 : w.cell? ⟨g, m * 3 + 1, none⟩ = some (.string tx)) (c2 : w.cell? ⟨g, m * 3 + 2, none⟩ = some (.int .i64 p))  (h0 : l.lookup 0 = some (.slice (some ⟨g, 0, none⟩) (m + 1) pc))
    (hN : ∀ a', Sl 28 a' ((3, .pointer (some ⟨w.heap.size, 0, none⟩)) :: l) → N a' (w.alloc (.cells #[.int .i64 k, .string tx, .int .i64 p] 48))) : (r_en 3).wp Tryd.prog (Exit.then N Q) a w := by
  have HN := Lib.hid hN
  have HL := Lib.hid hl
  have e0 := hs.look 0 h0
  obtain ⟨f, ea, hf⟩ : ∃ f : Nat → Value, a = ⟨(List.toArray (f 0 :: f 1 :: f 2 :: f 3 :: f 4 :: f 5 :: f 6 :: f 7 :: f 8 :: f 9 :: f 10 :: f 11 :: f 12 :: f 13 :: f 14 :: f 15 :: f 16 :: f 17 :: f 18 :: f 19 :: f 20 :: f 21 :: f 22 :: f 23 :: f 24 :: f 25 :: f 26 :: f 27 :: [])), []⟩ ∧ ∀ k, slot a k = f k := letters_en a hs.size hs.defers
  rw [hf] at e0
  rw [ea, e0]
  have HS := Lib.hid hs
  have HF := Lib.hid hf
  have E0 := Lib.hid e0
  clear hs ea hf hN hl h0 e0
  have h1 : (m : Int) < (m : Int) + 1 := by omega
  have h2 : (0 : Int) ≤ (m : Int) := by omega
  conv => arg 2; whnf
  go_wp2_with fail
  refine HN.out _ ?_
  exact Sl.add (Sl.stay [0] HS.out HF.out (by kernel_rfl) rfl ⟨Eq.trans (by kernel_rfl) E0.out.symm, trivial⟩ HL.out) (by kernel_rfl)
set_option maxHeartbeats 4000000 in
theorem en_r4 (a : Act) (w : World) (N : Act → World → Prop) (Q : Exit → Act → World → Prop) (l : List (Nat × Value)) (hs : Sl 28 a l) (hl : (l.map Prod.fst).all (fun k => [3].contains k) = true)
    (g : Nat) (k p : Int) (tx : ByteArray) (hT : Blk w g 48 #[.int .i64 k, .string tx, .int .i64 p])  (h3 : l.lookup 3 = some (.pointer (some ⟨g, 0, none⟩)))
    (hN : ∀ a', Sl 28 a' ((14, .int .i64 k) :: l) → N a' (w)) : (r_en 4).wp Tryd.prog (Exit.then N Q) a w := by
  have HN := Lib.hid hN
  have HL := Lib.hid hl
  have e3 := hs.look 3 h3
  obtain ⟨f, ea, hf⟩ : ∃ f : Nat → Value, a = ⟨(List.toArray (f 0 :: f 1 :: f 2 :: f 3 :: f 4 :: f 5 :: f 6 :: f 7 :: f 8 :: f 9 :: f 10 :: f 11 :: f 12 :: f 13 :: f 14 :: f 15 :: f 16 :: f 17 :: f 18 :: f 19 :: f 20 :: f 21 :: f 22 :: f 23 :: f 24 :: f 25 :: f 26 :: f 27 :: [])), []⟩ ∧ ∀ k, slot a k = f k := letters_en a hs.size hs.defers
  rw [hf] at e3
  rw [ea, e3]
  have HS := Lib.hid hs
  have HF := Lib.hid hf
  have E3 := Lib.hid e3
  clear hs ea hf hN hl h3 e3
  have hTK := Lib.hid hT
  have c0 := hT.cell 0
  have c1 := hT.cell 1
  have c2 := hT.cell 2
  simp at c0 c1 c2
  have hfz := fun j => hT.frozen j
  have hTlt := hT.lt
  clear hT
  conv => arg 2; whnf
  go_wp2_with fail
  refine HN.out _ ?_
  exact Sl.add (Sl.stay [3] HS.out HF.out (by kernel_rfl) rfl ⟨Eq.trans (by kernel_rfl) E3.out.symm, trivial⟩ HL.out) (by kernel_rfl)
set_option maxHeartbeats 4000000 in
theorem en_r5 (a : Act) (w : World) (N : Act → World → Prop) (Q : Exit → Act → World → Prop) (l : List (Nat × Value)) (hs : Sl 28 a l) (hl : (l.map Prod.fst).all (fun k => [3, 14].contains k) = true)
    (k : Int) (b : Bool) (hb : (k == 2) = b)  (h14 : l.lookup 14 = some (.int .i64 k))
    (hN : ∀ a', Sl 28 a' ((15, .bool b) :: l) → N a' (w)) : (r_en 5).wp Tryd.prog (Exit.then N Q) a w := by
  have HN := Lib.hid hN
  have HL := Lib.hid hl
  have e14 := hs.look 14 h14
  obtain ⟨f, ea, hf⟩ : ∃ f : Nat → Value, a = ⟨(List.toArray (f 0 :: f 1 :: f 2 :: f 3 :: f 4 :: f 5 :: f 6 :: f 7 :: f 8 :: f 9 :: f 10 :: f 11 :: f 12 :: f 13 :: f 14 :: f 15 :: f 16 :: f 17 :: f 18 :: f 19 :: f 20 :: f 21 :: f 22 :: f 23 :: f 24 :: f 25 :: f 26 :: f 27 :: [])), []⟩ ∧ ∀ k, slot a k = f k := letters_en a hs.size hs.defers
  rw [hf] at e14
  rw [ea, e14]
  have HS := Lib.hid hs
  have HF := Lib.hid hf
  have E14 := Lib.hid e14
  clear hs ea hf hN hl h14 e14
  conv => arg 2; whnf
  go_wp2_with fail
  refine HN.out _ ?_
  exact Sl.add (Sl.stay [3, 14] HS.out HF.out (by kernel_rfl) rfl ⟨by kernel_rfl, Eq.trans (by kernel_rfl) E14.out.symm, trivial⟩ HL.out) (by kernel_rfl)
set_option maxHeartbeats 4000000 in
theorem en_r6 (a : Act) (w : World) (N : Act → World → Prop) (Q : Exit → Act → World → Prop) (l : List (Nat × Value)) (hs : Sl 28 a l) (hl : (l.map Prod.fst).all (fun k => [3, 14].contains k) = true)
    (k : Int) (b : Bool) (hb : (k == 4) = b)  (h14 : l.lookup 14 = some (.int .i64 k))
    (hN : ∀ a', Sl 28 a' ((15, .bool b) :: l) → N a' (w)) : (r_en 6).wp Tryd.prog (Exit.then N Q) a w := by
  have HN := Lib.hid hN
  have HL := Lib.hid hl
  have e14 := hs.look 14 h14
  obtain ⟨f, ea, hf⟩ : ∃ f : Nat → Value, a = ⟨(List.toArray (f 0 :: f 1 :: f 2 :: f 3 :: f 4 :: f 5 :: f 6 :: f 7 :: f 8 :: f 9 :: f 10 :: f 11 :: f 12 :: f 13 :: f 14 :: f 15 :: f 16 :: f 17 :: f 18 :: f 19 :: f 20 :: f 21 :: f 22 :: f 23 :: f 24 :: f 25 :: f 26 :: f 27 :: [])), []⟩ ∧ ∀ k, slot a k = f k := letters_en a hs.size hs.defers
  rw [hf] at e14
  rw [ea, e14]
  have HS := Lib.hid hs
  have HF := Lib.hid hf
  have E14 := Lib.hid e14
  clear hs ea hf hN hl h14 e14
  conv => arg 2; whnf
  go_wp2_with fail
  refine HN.out _ ?_
  exact Sl.add (Sl.stay [3, 14] HS.out HF.out (by kernel_rfl) rfl ⟨by kernel_rfl, Eq.trans (by kernel_rfl) E14.out.symm, trivial⟩ HL.out) (by kernel_rfl)
set_option maxHeartbeats 4000000 in
theorem en_r7 (a : Act) (w : World) (N : Act → World → Prop) (Q : Exit → Act → World → Prop) (l : List (Nat × Value)) (hs : Sl 28 a l) (hl : (l.map Prod.fst).all (fun k => [3, 14].contains k) = true)
    (k : Int) (b : Bool) (hb : (k == 5) = b)  (h14 : l.lookup 14 = some (.int .i64 k))
    (hN : ∀ a', Sl 28 a' ((15, .bool b) :: l) → N a' (w)) : (r_en 7).wp Tryd.prog (Exit.then N Q) a w := by
  have HN := Lib.hid hN
  have HL := Lib.hid hl
  have e14 := hs.look 14 h14
  obtain ⟨f, ea, hf⟩ : ∃ f : Nat → Value, a = ⟨(List.toArray (f 0 :: f 1 :: f 2 :: f 3 :: f 4 :: f 5 :: f 6 :: f 7 :: f 8 :: f 9 :: f 10 :: f 11 :: f 12 :: f 13 :: f 14 :: f 15 :: f 16 :: f 17 :: f 18 :: f 19 :: f 20 :: f 21 :: f 22 :: f 23 :: f 24 :: f 25 :: f 26 :: f 27 :: [])), []⟩ ∧ ∀ k, slot a k = f k := letters_en a hs.size hs.defers
  rw [hf] at e14
  rw [ea, e14]
  have HS := Lib.hid hs
  have HF := Lib.hid hf
  have E14 := Lib.hid e14
  clear hs ea hf hN hl h14 e14
  conv => arg 2; whnf
  go_wp2_with fail
  refine HN.out _ ?_
  exact Sl.add (Sl.stay [3, 14] HS.out HF.out (by kernel_rfl) rfl ⟨by kernel_rfl, Eq.trans (by kernel_rfl) E14.out.symm, trivial⟩ HL.out) (by kernel_rfl)
set_option maxHeartbeats 4000000 in
theorem en_r8 (a : Act) (w : World) (N : Act → World → Prop) (Q : Exit → Act → World → Prop) (l : List (Nat × Value)) (hs : Sl 28 a l) (hl : (l.map Prod.fst).all (fun k => [3, 14].contains k) = true)
    (k : Int) (b : Bool) (hb : (k == 6) = b)  (h14 : l.lookup 14 = some (.int .i64 k))
    (hN : ∀ a', Sl 28 a' ((15, .bool b) :: l) → N a' (w)) : (r_en 8).wp Tryd.prog (Exit.then N Q) a w := by
  have HN := Lib.hid hN
  have HL := Lib.hid hl
  have e14 := hs.look 14 h14
  obtain ⟨f, ea, hf⟩ : ∃ f : Nat → Value, a = ⟨(List.toArray (f 0 :: f 1 :: f 2 :: f 3 :: f 4 :: f 5 :: f 6 :: f 7 :: f 8 :: f 9 :: f 10 :: f 11 :: f 12 :: f 13 :: f 14 :: f 15 :: f 16 :: f 17 :: f 18 :: f 19 :: f 20 :: f 21 :: f 22 :: f 23 :: f 24 :: f 25 :: f 26 :: f 27 :: [])), []⟩ ∧ ∀ k, slot a k = f k := letters_en a hs.size hs.defers
  rw [hf] at e14
  rw [ea, e14]
  have HS := Lib.hid hs
  have HF := Lib.hid hf
  have E14 := Lib.hid e14
  clear hs ea hf hN hl h14 e14
  conv => arg 2; whnf
  go_wp2_with fail
  refine HN.out _ ?_
  exact Sl.add (Sl.stay [3, 14] HS.out HF.out (by kernel_rfl) rfl ⟨by kernel_rfl, Eq.trans (by kernel_rfl) E14.out.symm, trivial⟩ HL.out) (by kernel_rfl)
set_option maxHeartbeats 4000000 in
theorem en_r10 (a : Act) (w : World) (N : Act → World → Prop) (Q : Exit → Act → World → Prop) (l : List (Nat × Value)) (hs : Sl 28 a l) (hl : (l.map Prod.fst).all (fun k => [3, 14].contains k) = true)
    (k : Int) (b : Bool) (hb : (k == 3) = b)  (h14 : l.lookup 14 = some (.int .i64 k))
    (hN : ∀ a', Sl 28 a' ((20, .bool b) :: l) → N a' (w)) : (r_en 10).wp Tryd.prog (Exit.then N Q) a w := by
  have HN := Lib.hid hN
  have HL := Lib.hid hl
  have e14 := hs.look 14 h14
  obtain ⟨f, ea, hf⟩ : ∃ f : Nat → Value, a = ⟨(List.toArray (f 0 :: f 1 :: f 2 :: f 3 :: f 4 :: f 5 :: f 6 :: f 7 :: f 8 :: f 9 :: f 10 :: f 11 :: f 12 :: f 13 :: f 14 :: f 15 :: f 16 :: f 17 :: f 18 :: f 19 :: f 20 :: f 21 :: f 22 :: f 23 :: f 24 :: f 25 :: f 26 :: f 27 :: [])), []⟩ ∧ ∀ k, slot a k = f k := letters_en a hs.size hs.defers
  rw [hf] at e14
  rw [ea, e14]
  have HS := Lib.hid hs
  have HF := Lib.hid hf
  have E14 := Lib.hid e14
  clear hs ea hf hN hl h14 e14
  conv => arg 2; whnf
  go_wp2_with fail
  refine HN.out _ ?_
  exact Sl.add (Sl.stay [3, 14] HS.out HF.out (by kernel_rfl) rfl ⟨by kernel_rfl, Eq.trans (by kernel_rfl) E14.out.symm, trivial⟩ HL.out) (by kernel_rfl)
set_option maxHeartbeats 4000000 in
theorem en_r11 (a : Act) (w : World) (N : Act → World → Prop) (Q : Exit → Act → World → Prop) (l : List (Nat × Value)) (hs : Sl 28 a l) (hl : (l.map Prod.fst).all (fun k => [3, 14].contains k) = true)
    (k : Int) (b : Bool) (hb : (k == 7) = b)  (h14 : l.lookup 14 = some (.int .i64 k))
    (hN : ∀ a', Sl 28 a' ((20, .bool b) :: l) → N a' (w)) : (r_en 11).wp Tryd.prog (Exit.then N Q) a w := by
  have HN := Lib.hid hN
  have HL := Lib.hid hl
  have e14 := hs.look 14 h14
  obtain ⟨f, ea, hf⟩ : ∃ f : Nat → Value, a = ⟨(List.toArray (f 0 :: f 1 :: f 2 :: f 3 :: f 4 :: f 5 :: f 6 :: f 7 :: f 8 :: f 9 :: f 10 :: f 11 :: f 12 :: f 13 :: f 14 :: f 15 :: f 16 :: f 17 :: f 18 :: f 19 :: f 20 :: f 21 :: f 22 :: f 23 :: f 24 :: f 25 :: f 26 :: f 27 :: [])), []⟩ ∧ ∀ k, slot a k = f k := letters_en a hs.size hs.defers
  rw [hf] at e14
  rw [ea, e14]
  have HS := Lib.hid hs
  have HF := Lib.hid hf
  have E14 := Lib.hid e14
  clear hs ea hf hN hl h14 e14
  conv => arg 2; whnf
  go_wp2_with fail
  refine HN.out _ ?_
  exact Sl.add (Sl.stay [3, 14] HS.out HF.out (by kernel_rfl) rfl ⟨by kernel_rfl, Eq.trans (by kernel_rfl) E14.out.symm, trivial⟩ HL.out) (by kernel_rfl)
set_option maxHeartbeats 4000000 in
theorem en_r9 (a : Act) (w : World) (N : Act → World → Prop) (Q : Exit → Act → World → Prop) (l : List (Nat × Value)) (hs : Sl 28 a l) (hl : (l.map Prod.fst).all (fun k => [].contains k) = true)
     
    (hN : ∀ a', Sl 28 a' ((2, .bool true) :: l) → N a' (w)) : (r_en 9).wp Tryd.prog (Exit.then N Q) a w := by
  have HN := Lib.hid hN
  have HL := Lib.hid hl
  obtain ⟨f, ea, hf⟩ : ∃ f : Nat → Value, a = ⟨(List.toArray (f 0 :: f 1 :: f 2 :: f 3 :: f 4 :: f 5 :: f 6 :: f 7 :: f 8 :: f 9 :: f 10 :: f 11 :: f 12 :: f 13 :: f 14 :: f 15 :: f 16 :: f 17 :: f 18 :: f 19 :: f 20 :: f 21 :: f 22 :: f 23 :: f 24 :: f 25 :: f 26 :: f 27 :: [])), []⟩ ∧ ∀ k, slot a k = f k := letters_en a hs.size hs.defers
  rw [ea]
  have HS := Lib.hid hs
  have HF := Lib.hid hf
  clear hs ea hf hN hl 
  conv => arg 2; whnf
  go_wp2_with fail
  refine HN.out _ ?_
  exact Sl.add (Sl.stay [] HS.out HF.out (by kernel_rfl) rfl trivial HL.out) (by kernel_rfl)
set_option maxHeartbeats 4000000 in
theorem en_r12 (a : Act) (w : World) (N : Act → World → Prop) (Q : Exit → Act → World → Prop) (l : List (Nat × Value)) (hs : Sl 28 a l) (hl : (l.map Prod.fst).all (fun k => [].contains k) = true)
    (g : Nat) (k p : Int) (tx : ByteArray) (hT : Blk w g 48 #[.int .i64 k, .string tx, .int .i64 p]) (b : Bool) (q : ByteArray) (hq : ⟨#[32]⟩ ++ tx ++ ⟨#[32]⟩ = q) (hz : tx.size ≤ 1000) (HC : Calls Tryd.prog 49 #[.string endsS, .string q] w fun e w' => e = .returned (.bool b) ∧ w' = w)  (h3 : slot a 3 = .pointer (some ⟨g, 0, none⟩))
    (hN : ∀ a', Sl 28 a' ((2, .bool b) :: l) → N a' (w)) : (r_en 12).wp Tryd.prog (Exit.then N Q) a w := by
  have HN := Lib.hid hN
  have HL := Lib.hid hl
  have e3 := h3
  obtain ⟨f, ea, hf⟩ : ∃ f : Nat → Value, a = ⟨(List.toArray (f 0 :: f 1 :: f 2 :: f 3 :: f 4 :: f 5 :: f 6 :: f 7 :: f 8 :: f 9 :: f 10 :: f 11 :: f 12 :: f 13 :: f 14 :: f 15 :: f 16 :: f 17 :: f 18 :: f 19 :: f 20 :: f 21 :: f 22 :: f 23 :: f 24 :: f 25 :: f 26 :: f 27 :: [])), []⟩ ∧ ∀ k, slot a k = f k := letters_en a hs.size hs.defers
  rw [hf] at e3
  rw [ea, e3]
  have HS := Lib.hid hs
  have HF := Lib.hid hf
  have E3 := Lib.hid e3
  clear hs ea hf hN hl h3 e3
  have HC := Lib.hid HC
  have hTK := Lib.hid hT
  have c0 := hT.cell 0
  have c1 := hT.cell 1
  have c2 := hT.cell 2
  simp at c0 c1 c2
  have hfz := fun j => hT.frozen j
  have hTlt := hT.lt
  clear hT
  conv => arg 2; whnf
  go_wp2_with fail
  refine HC.out.mono ?_
  rintro e w' ⟨rfl, rfl⟩
  go_wp2_with fail
  refine HN.out _ ?_
  exact Sl.add (Sl.stay [] HS.out HF.out (by kernel_rfl) rfl trivial HL.out) (by kernel_rfl)
set_option maxHeartbeats 4000000 in
theorem en_r13 (a : Act) (w : World) (N : Act → World → Prop) (Q : Exit → Act → World → Prop) (l : List (Nat × Value)) (hs : Sl 28 a l) (hl : (l.map Prod.fst).all (fun k => [].contains k) = true)
     
    (hN : ∀ a', Sl 28 a' ((2, .bool false) :: l) → N a' (w)) : (r_en 13).wp Tryd.prog (Exit.then N Q) a w := by
  have HN := Lib.hid hN
  have HL := Lib.hid hl
  obtain ⟨f, ea, hf⟩ : ∃ f : Nat → Value, a = ⟨(List.toArray (f 0 :: f 1 :: f 2 :: f 3 :: f 4 :: f 5 :: f 6 :: f 7 :: f 8 :: f 9 :: f 10 :: f 11 :: f 12 :: f 13 :: f 14 :: f 15 :: f 16 :: f 17 :: f 18 :: f 19 :: f 20 :: f 21 :: f 22 :: f 23 :: f 24 :: f 25 :: f 26 :: f 27 :: [])), []⟩ ∧ ∀ k, slot a k = f k := letters_en a hs.size hs.defers
  rw [ea]
  have HS := Lib.hid hs
  have HF := Lib.hid hf
  clear hs ea hf hN hl 
  conv => arg 2; whnf
  go_wp2_with fail
  refine HN.out _ ?_
  exact Sl.add (Sl.stay [] HS.out HF.out (by kernel_rfl) rfl trivial HL.out) (by kernel_rfl)
end Go.Proofs.YtpggcmlddmckcaaDoor

namespace Go.Proofs.YtpggcmlddmckcaaDoor
open Go.RowKit Go.Sort
set_option maxRecDepth 100000

noncomputable def enBody : Code := .seq (r_en 0) (.seq (.seq (r_en 1) (.cond (.tmp 6) (.seq (r_en 2) .ret) .skip)) (.seq (r_en 3) (.seq (.seq (r_en 4) (.block 0 (.seq (.seq (r_en 5) (.cond (.tmp 15) .skip (.seq (r_en 6) (.cond (.tmp 15) .skip (.seq (r_en 7) (.cond (.tmp 15) .skip (r_en 8))))))) (.cond (.tmp 15) (.seq (r_en 9) .ret) (.seq (.seq (r_en 10) (.cond (.tmp 20) .skip (r_en 11))) (.cond (.tmp 20) (.seq (r_en 12) .ret) .skip)))))) (.seq (r_en 13) .ret))))
theorem en_body : Tryd.f34.body = some enBody := by kernel_rfl

/-- The cells of a row of tokens. -/
def toksC (ts : List Tok) : List Value := ts.flatMap fun t => (tokC t).toList
theorem toksC_len (ts : List Tok) : (toksC ts).length = ts.length * 3 := by
  induction ts with
  | nil => rfl
  | cons t ts ih =>
    unfold toksC at ih ⊢
    rw [List.flatMap_cons, List.length_append, ih, List.length_cons]
    simp [tokC]
    omega
theorem toksC_snoc (ts : List Tok) (t : Tok) : toksC (ts ++ [t]) = toksC ts ++ (tokC t).toList := by simp [toksC]
/-- A slice value that holds a row of tokens. -/
def Toks (w : World) (B : Nat) (v : Value) (ts : List Tok) : Prop := w.ownsRow B 48 3 v ts.length (toksC ts)
def TokGood (t : Tok) : Prop := (t.kind = 3 → t.text ∈ wordsL) ∧ (t.kind = 7 → t.text ∈ signsL)
def lastE (ts : List Tok) : Bool := match ts.getLast? with
  | none => false
  | some t => endT t
theorem lastE_snoc (ts : List Tok) (t : Tok) : lastE (ts ++ [t]) = endT t := by simp [lastE]
theorem Toks.last {w : World} {B : Nat} {v : Value} {ts : List Tok} {t : Tok} (h : Toks w B v (ts ++ [t])) : ∃ g cap, v = .slice (some ⟨g, 0, none⟩) (ts.length + 1) cap ∧
    w.cell? ⟨g, ts.length * 3, none⟩ = some (.int .i64 t.kind) ∧ w.cell? ⟨g, ts.length * 3 + 1, none⟩ = some (.string (bs t.text)) ∧ w.cell? ⟨g, ts.length * 3 + 2, none⟩ = some (.int .i64 t.place) := by
  have hl : (ts ++ [t]).length = ts.length + 1 := by simp
  unfold Toks at h
  rw [hl] at h
  rcases h.2 with ⟨_, h0⟩ | ⟨g, cap, cur, rfl, hg, hh, hc, hm, hs, ht⟩
  · omega
  · have key : ∀ j v, (tokC t)[j]? = some v → w.cell? ⟨g, ts.length * 3 + j, none⟩ = some v := fun j v hj => by
      have hj3 : j < 3 := by
        have := (Array.getElem?_eq_some_iff.1 hj).1
        simpa [tokC] using this
      rw [cell_of_row w g _ cur _ _ hh]
      have h1 : (cur.toList.take ((ts.length + 1) * 3))[ts.length * 3 + j]? = (toksC (ts ++ [t]))[ts.length * 3 + j]? := by rw [ht]
      rw [List.getElem?_take, if_pos (by omega), toksC_snoc, List.getElem?_append_right (by rw [toksC_len]; omega), toksC_len, show ts.length * 3 + j - ts.length * 3 = j by omega] at h1
      rw [Array.getElem?_toList] at h1
      rw [h1]
      simpa using hj
    exact ⟨g, cap, rfl, key 0 _ rfl, key 1 _ rfl, key 2 _ rfl⟩
theorem Toks.nil_of {w : World} {B : Nat} {v : Value} (h : Toks w B v []) : v = .slice none 0 0 ∨ ∃ g cap, v = .slice (some ⟨g, 0, none⟩) 0 cap := by
  rcases h.2 with ⟨e, _⟩ | ⟨g, cap, cur, e, _⟩
  · exact .inl e
  · exact .inr ⟨g, cap, e⟩
theorem snoc_of {A : Type} (l : List A) : l = [] ∨ ∃ m x, l = m ++ [x] := by
  rcases List.eq_nil_or_concat l with h | ⟨m, x, h⟩
  · exact .inl h
  · exact .inr ⟨m, x, by simpa using h⟩
theorem en_done {w w3 : World} {a4 : Act} {b b' : Bool} (hd : a4.defers = []) (h : slot a4 2 = .bool b) (e : b = b') (hb : Below w.heap.size w w3) : bodyPost Tryd.prog Tryd.f34 (fun e w' => e = .returned (.bool b') ∧ Below w.heap.size w w') .ret a4 w3 :=
  bodyPost_ret (results_tmp rfl _ _ _) hd ⟨congrArg Ending.returned (h.trans (by rw [e])), hb⟩

theorem ending_any (ts : List Tok) (hn : ts.length ≤ 140737488355328) (hg : ∀ t ∈ ts, TokGood t) (B : Nat) (v : Value) (w : World) (hL : LexAt w) (hv : Toks w B v ts) :
    Calls Tryd.prog 34 #[v] w fun e w' => e = .returned (.bool (lastE ts)) ∧ Below w.heap.size w w' := by
  refine calls_of_wp Tryd.func34 en_body ?_
  have h0 : Sl 28 { tmps := #[v] ++ Array.replicate (Tryd.f34.ntmps - #[v].size) undef, defers := [] } [(0, v)] :=
    ⟨by simp [Tryd.ntmps34], rfl, fun p hp => by
      simp only [List.mem_cons, List.not_mem_nil, or_false] at hp
      subst hp
      simp [slot]⟩
  generalize { tmps := #[v] ++ Array.replicate (Tryd.f34.ntmps - #[v].size) undef, defers := [] : Act } = b0 at h0 ⊢
  unfold enBody
  refine wp_seq (en_r0 b0 w _ _ _ h0 rfl fun a1 h1 => ?_)
  have h1 := h1.none.add (h1.look 0 rfl)
  rcases snoc_of ts with rfl | ⟨ts, t, rfl⟩
  · have hz : ∀ (N : Act → World → Prop) (Q : Exit → Act → World → Prop), (∀ a', Sl 28 a' [(6, .bool true), (0, v)] → N a' w) → (r_en 1).wp Tryd.prog (Exit.then N Q) a1 w := fun N Q hN => by
      rcases hv.nil_of with rfl | ⟨g, cap, rfl⟩
      · exact en_r1n a1 w _ _ _ h1 rfl rfl hN
      · exact en_r1z a1 w _ _ _ h1 rfl g cap rfl hN
    refine wp_seq (wp_seq (hz _ _ fun a2 h2 => ?_))
    refine wp_cond_true (h2.look 6 rfl) ?_
    refine wp_seq (en_r2 a2 w _ _ _ h2.none rfl fun a3 h3 => wp_ret ?_)
    exact en_done h3.defers (h3.look 2 rfl) rfl (Below.refl _ _)
  · obtain ⟨g, cap, rfl, c0, c1, c2⟩ := hv.last
    rw [lastE_snoc]
    have hgt := hg t (by simp)
    have hn' : ts.length ≤ 140737488355328 := by simp at hn; omega
    refine wp_seq (wp_seq (en_r1s a1 w _ _ _ h1 rfl g ts.length cap hn' rfl fun a2 h2 => ?_))
    refine wpc_off (h2.look 6 rfl) ?_
    refine wp_seq (en_r3 a2 w _ _ _ h2.tl rfl g ts.length cap hn' _ _ _ c0 c1 c2 rfl fun a3 h3 => ?_)
    have hT : Blk (w.alloc (.cells #[.int .i64 t.kind, .string (bs t.text), .int .i64 t.place] 48)) w.heap.size 48 #[.int .i64 t.kind, .string (bs t.text), .int .i64 t.place] := Blk.new _ _ _
    have hb : Below w.heap.size w (w.alloc (.cells #[.int .i64 t.kind, .string (bs t.text), .int .i64 t.place] 48)) := bl_alloc (Below.refl _ _) _
    generalize w.alloc (.cells #[.int .i64 t.kind, .string (bs t.text), .int .i64 t.place] 48) = w2 at hT hb ⊢
    have h3 := h3.none.add (h3.look 3 rfl)
    refine wp_seq (wp_seq (en_r4 a3 w2 _ _ _ h3 rfl _ _ _ _ hT rfl fun a4 h4 => ?_))
    have h4 := h4.none.add (h4.look 3 rfl) |>.add (h4.look 14 rfl)
    have bk : ∀ n : Nat, ((t.kind : Int) == (n : Int)) = decide (t.kind = n) := fun n => by rw [Bool.eq_iff_iff]; simp; omega
    refine wp_block ?_
    -- the first four kinds
    have hfour : ∀ (Q : Exit → Act → World → Prop), (∀ a', Sl 28 a' [(15, .bool (decide (t.kind = 2 ∨ t.kind = 4 ∨ t.kind = 5 ∨ t.kind = 6))), (14, .int .i64 (t.kind : Int)), (3, .pointer (some ⟨w.heap.size, 0, none⟩))] → Q .normal a' w2) →
        (Code.seq (r_en 5) (.cond (.tmp 15) .skip (.seq (r_en 6) (.cond (.tmp 15) .skip (.seq (r_en 7) (.cond (.tmp 15) .skip (r_en 8))))))).wp Tryd.prog Q a4 w2 := by
      intro Q hQ
      refine wp_seq (en_r5 a4 w2 _ _ _ h4 rfl _ _ (bk 2) rfl fun a5 h5 => ?_)
      by_cases k2 : t.kind = 2
      · rw [decide_eq_true k2] at h5
        rw [decide_eq_true (by omega)] at hQ
        exact wp_cond_true (h5.look 15 rfl) (wp_skip (hQ a5 h5))
      rw [decide_eq_false k2] at h5
      refine wp_cond_false (h5.look 15 rfl) ?_
      refine wp_seq (en_r6 a5 w2 _ _ _ h5.tl rfl _ _ (bk 4) rfl fun a6 h6 => ?_)
      by_cases k4 : t.kind = 4
      · rw [decide_eq_true k4] at h6
        rw [decide_eq_true (by omega)] at hQ
        exact wp_cond_true (h6.look 15 rfl) (wp_skip (hQ a6 h6))
      rw [decide_eq_false k4] at h6
      refine wp_cond_false (h6.look 15 rfl) ?_
      refine wp_seq (en_r7 a6 w2 _ _ _ h6.tl rfl _ _ (bk 5) rfl fun a7 h7 => ?_)
      by_cases k5 : t.kind = 5
      · rw [decide_eq_true k5] at h7
        rw [decide_eq_true (by omega)] at hQ
        exact wp_cond_true (h7.look 15 rfl) (wp_skip (hQ a7 h7))
      rw [decide_eq_false k5] at h7
      refine wp_cond_false (h7.look 15 rfl) ?_
      refine wp_then (en_r8 a7 w2 _ _ _ h7.tl rfl _ _ (bk 6) rfl fun a8 h8 => hQ a8 ?_)
      rwa [show decide (t.kind = 6) = decide (t.kind = 2 ∨ t.kind = 4 ∨ t.kind = 5 ∨ t.kind = 6) by rw [decide_eq_decide]; omega] at h8
    refine wp_seq (hfour _ fun a5 h5 => ?_)
    clear hfour
    by_cases hf : t.kind = 2 ∨ t.kind = 4 ∨ t.kind = 5 ∨ t.kind = 6
    · rw [decide_eq_true hf] at h5
      refine wp_cond_true (h5.look 15 rfl) ?_
      refine wp_seq (en_r9 a5 w2 _ _ _ h5.none rfl fun a6 h6 => wp_ret ?_)
      exact en_done h6.defers (h6.look 2 rfl) (by unfold endT; rw [decide_eq_true hf]; rfl) hb
    rw [decide_eq_false hf] at h5
    refine wp_cond_false (h5.look 15 rfl) ?_
    have htwo : ∀ (Q : Exit → Act → World → Prop), (∀ a', Sl 28 a' [(20, .bool (decide (t.kind = 3 ∨ t.kind = 7))), (14, .int .i64 (t.kind : Int)), (3, .pointer (some ⟨w.heap.size, 0, none⟩))] → Q .normal a' w2) →
        (Code.seq (r_en 10) (.cond (.tmp 20) .skip (r_en 11))).wp Tryd.prog Q a5 w2 := by
      intro Q hQ
      refine wp_seq (en_r10 a5 w2 _ _ _ h5.tl rfl _ _ (bk 3) rfl fun a6 h6 => ?_)
      by_cases k3 : t.kind = 3
      · rw [decide_eq_true k3] at h6
        rw [decide_eq_true (by omega)] at hQ
        exact wp_cond_true (h6.look 20 rfl) (wp_skip (hQ a6 h6))
      rw [decide_eq_false k3] at h6
      refine wp_cond_false (h6.look 20 rfl) ?_
      refine wp_then (en_r11 a6 w2 _ _ _ h6.tl rfl _ _ (bk 7) rfl fun a8 h8 => hQ a8 ?_)
      rwa [show decide (t.kind = 7) = decide (t.kind = 3 ∨ t.kind = 7) by rw [decide_eq_decide]; omega] at h8
    refine wp_seq (htwo _ fun a6 h6 => ?_)
    clear htwo
    by_cases hs : t.kind = 3 ∨ t.kind = 7
    · rw [decide_eq_true hs] at h6
      refine wp_cond_true (h6.look 20 rfl) ?_
      have hmem : t.text ∈ wordsL ++ signsL := by
        rw [List.mem_append]
        rcases hs with hs | hs
        · exact .inl (hgt.1 hs)
        · exact .inr (hgt.2 hs)
      obtain ⟨m, hm⟩ := (hL.below hb (Nat.le_refl _)).room
      have hC := Tryd.strings_Contains endsS (⟨#[32]⟩ ++ bs t.text ++ ⟨#[32]⟩) m w2 (by decide) hm
      rw [show (⟨#[32]⟩ ++ bs t.text ++ ⟨#[32]⟩ : ByteArray).data.toList = 32 :: t.text ++ [32] by simp [bs], show endsS.data.toList = endsB from rfl, ends_law t.text hmem] at hC
      have hlen : t.text.length ≤ 1000 := by
        have : ∀ x ∈ wordsL ++ signsL, x.length ≤ 1000 := by decide
        exact this _ hmem
      refine wp_seq (en_r12 a6 w2 _ _ _ h6.none rfl _ _ _ _ hT _ _ rfl (by rw [bs_size]; exact hlen) hC (h6.look 3 rfl) fun a7 h7 => wp_ret ?_)
      exact en_done h7.defers (h7.look 2 rfl) (by unfold endT; rw [decide_eq_false hf, decide_eq_true hs]; rfl) hb
    · rw [decide_eq_false hs] at h6
      refine wpc_off (h6.look 20 rfl) ?_
      show Code.wp _ (Code.seq (r_en 13) .ret) _ a6 w2
      refine wp_seq (en_r13 a6 w2 _ _ _ h6.none rfl fun a7 h7 => wp_ret ?_)
      exact en_done h7.defers (h7.look 2 rfl) (by unfold endT; rw [decide_eq_false hf, decide_eq_false hs]; rfl) hb
end Go.Proofs.YtpggcmlddmckcaaDoor
