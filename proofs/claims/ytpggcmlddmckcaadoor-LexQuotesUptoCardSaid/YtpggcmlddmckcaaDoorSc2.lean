/-
  The regions of package lex's Scan, one by one. Contract of Scan in package lex. Written by an AI agent.
-/
import Derived.Test.YtpggcmlddmckcaaDoorEn2
import Derived.Test.YtpggcmlddmckcaaDoorLs
namespace Go.Proofs.YtpggcmlddmckcaaDoor
open Go.RowKit Go.Sort
set_option maxRecDepth 100000
theorem letters_sc (a : Act) (h1 : a.tmps.size = 85) (h2 : a.defers = []) : ∃ f : Nat → Value, a = ⟨(List.toArray (f 0 :: f 1 :: f 2 :: f 3 :: f 4 :: f 5 :: f 6 :: f 7 :: f 8 :: f 9 :: f 10 :: f 11 :: f 12 :: f 13 :: f 14 :: f 15 :: f 16 :: f 17 :: f 18 :: f 19 :: f 20 :: f 21 :: f 22 :: f 23 :: f 24 :: f 25 :: f 26 :: f 27 :: f 28 :: f 29 :: f 30 :: f 31 :: f 32 :: f 33 :: f 34 :: f 35 :: f 36 :: f 37 :: f 38 :: f 39 :: f 40 :: f 41 :: f 42 :: f 43 :: f 44 :: f 45 :: f 46 :: f 47 :: f 48 :: f 49 :: f 50 :: f 51 :: f 52 :: f 53 :: f 54 :: f 55 :: f 56 :: f 57 :: f 58 :: f 59 :: f 60 :: f 61 :: f 62 :: f 63 :: f 64 :: f 65 :: f 66 :: f 67 :: f 68 :: f 69 :: f 70 :: f 71 :: f 72 :: f 73 :: f 74 :: f 75 :: f 76 :: f 77 :: f 78 :: f 79 :: f 80 :: f 81 :: f 82 :: f 83 :: f 84 :: [])), []⟩ ∧ ∀ k, slot a k = f k :=
  ⟨slot a, (spread a 85 h1 h2).trans (by kernel_rfl), fun _ => rfl⟩
noncomputable def r_sc (n : Nat) : Code := ((Tryd.f12.body.bind (findR n)).getD .skip)
theorem info_tok : (Tryd.prog.info? 48).map (fun i => (i.zero, i.size, i.bytes)) = some (some (.agg #[.int .i64 0, .string ⟨#[]⟩, .int .i64 0]), 3, 32) := by kernel_rfl
theorem news_three (w : World) (t : TypeId) (x y z : Value) : ∀ (q : Nat) (u : Value), [x, y, z][q]? = some u → (w.alloc (.cells #[x, y, z] t)).cell? ((⟨w.heap.size, 0, none⟩ : Addr).add q) = some u
  | 0, u, h => by simp at h; subst h; exact ((Blk.new w t #[x, y, z]).cell 0).trans rfl
  | 1, u, h => by simp at h; subst h; exact ((Blk.new w t #[x, y, z]).cell 1).trans rfl
  | 2, u, h => by simp at h; subst h; exact ((Blk.new w t #[x, y, z]).cell 2).trans rfl
  | q + 3, u, h => by simp at h
set_option maxHeartbeats 4000000 in
theorem sc_r0 (a : Act) (w : World) (N : Act → World → Prop) (Q : Exit → Act → World → Prop) (l : List (Nat × Value)) (hs : Sl 85 a l) (hl : (l.map Prod.fst).all (fun k => [0].contains k) = true)
     
    (hN : ∀ a', Sl 85 a' ((3, .nilIface) :: ((2, .slice none 0 0) :: l)) → N a' (w)) : (r_sc 0).wp Tryd.prog (Exit.then N Q) a w := by
  have HN := Lib.hid hN
  have HL := Lib.hid hl
  obtain ⟨f, ea, hf⟩ : ∃ f : Nat → Value, a = ⟨(List.toArray (f 0 :: f 1 :: f 2 :: f 3 :: f 4 :: f 5 :: f 6 :: f 7 :: f 8 :: f 9 :: f 10 :: f 11 :: f 12 :: f 13 :: f 14 :: f 15 :: f 16 :: f 17 :: f 18 :: f 19 :: f 20 :: f 21 :: f 22 :: f 23 :: f 24 :: f 25 :: f 26 :: f 27 :: f 28 :: f 29 :: f 30 :: f 31 :: f 32 :: f 33 :: f 34 :: f 35 :: f 36 :: f 37 :: f 38 :: f 39 :: f 40 :: f 41 :: f 42 :: f 43 :: f 44 :: f 45 :: f 46 :: f 47 :: f 48 :: f 49 :: f 50 :: f 51 :: f 52 :: f 53 :: f 54 :: f 55 :: f 56 :: f 57 :: f 58 :: f 59 :: f 60 :: f 61 :: f 62 :: f 63 :: f 64 :: f 65 :: f 66 :: f 67 :: f 68 :: f 69 :: f 70 :: f 71 :: f 72 :: f 73 :: f 74 :: f 75 :: f 76 :: f 77 :: f 78 :: f 79 :: f 80 :: f 81 :: f 82 :: f 83 :: f 84 :: [])), []⟩ ∧ ∀ k, slot a k = f k := letters_sc a hs.size hs.defers
  rw [ea]
  have HS := Lib.hid hs
  have HF := Lib.hid hf
  clear hs ea hf hN hl 
  conv => arg 2; whnf
  go_wp2_with fail
  refine HN.out _ ?_
  exact Sl.add (Sl.add (Sl.stay [0] HS.out HF.out (by kernel_rfl) rfl ⟨by kernel_rfl, trivial⟩ HL.out) (by kernel_rfl)) (by kernel_rfl)
set_option maxHeartbeats 4000000 in
theorem sc_r1 (a : Act) (w : World) (N : Act → World → Prop) (Q : Exit → Act → World → Prop) (l : List (Nat × Value)) (hs : Sl 85 a l) (hl : (l.map Prod.fst).all (fun k => [0].contains k) = true)
    (s : ByteArray) (b : Bool) (h : decide ((60000 : Int) < (s.size : Int)) = b)  (h0 : l.lookup 0 = some (.string s))
    (hN : ∀ a', Sl 85 a' ((12, .bool b) :: l) → N a' (w)) : (r_sc 1).wp Tryd.prog (Exit.then N Q) a w := by
  have HN := Lib.hid hN
  have HL := Lib.hid hl
  have e0 := hs.look 0 h0
  obtain ⟨f, ea, hf⟩ : ∃ f : Nat → Value, a = ⟨(List.toArray (f 0 :: f 1 :: f 2 :: f 3 :: f 4 :: f 5 :: f 6 :: f 7 :: f 8 :: f 9 :: f 10 :: f 11 :: f 12 :: f 13 :: f 14 :: f 15 :: f 16 :: f 17 :: f 18 :: f 19 :: f 20 :: f 21 :: f 22 :: f 23 :: f 24 :: f 25 :: f 26 :: f 27 :: f 28 :: f 29 :: f 30 :: f 31 :: f 32 :: f 33 :: f 34 :: f 35 :: f 36 :: f 37 :: f 38 :: f 39 :: f 40 :: f 41 :: f 42 :: f 43 :: f 44 :: f 45 :: f 46 :: f 47 :: f 48 :: f 49 :: f 50 :: f 51 :: f 52 :: f 53 :: f 54 :: f 55 :: f 56 :: f 57 :: f 58 :: f 59 :: f 60 :: f 61 :: f 62 :: f 63 :: f 64 :: f 65 :: f 66 :: f 67 :: f 68 :: f 69 :: f 70 :: f 71 :: f 72 :: f 73 :: f 74 :: f 75 :: f 76 :: f 77 :: f 78 :: f 79 :: f 80 :: f 81 :: f 82 :: f 83 :: f 84 :: [])), []⟩ ∧ ∀ k, slot a k = f k := letters_sc a hs.size hs.defers
  rw [hf] at e0
  rw [ea, e0]
  have HS := Lib.hid hs
  have HF := Lib.hid hf
  have E0 := Lib.hid e0
  clear hs ea hf hN hl h0 e0
  have HB := Lib.hid h
  clear h
  conv => arg 2; whnf
  go_wp2_with fail
  refine HN.out _ ?_
  exact Sl.add (Sl.stay [0] HS.out HF.out (by kernel_rfl) rfl ⟨Eq.trans (by kernel_rfl) E0.out.symm, trivial⟩ HL.out) (Eq.trans (b := .bool (decide ((60000 : Int) < (s.size : Int)))) (by kernel_rfl) (by rw [HB.out]))
set_option maxHeartbeats 4000000 in
theorem sc_r2 (a : Act) (w : World) (N : Act → World → Prop) (Q : Exit → Act → World → Prop) (l : List (Nat × Value)) (hs : Sl 85 a l) (hl : (l.map Prod.fst).all (fun k => [].contains k) = true)
     
    (hN : ∀ a', Sl 85 a' ((3, .iface 58 (.pointer (some ⟨w.heap.size, 0, none⟩))) :: ((2, .slice none 0 0) :: l)) → N a' (w.alloc (.cells #[.int .i64 13, .int .i64 0, .string ⟨#[]⟩] 26))) : (r_sc 2).wp Tryd.prog (Exit.then N Q) a w := by
  have HN := Lib.hid hN
  have HL := Lib.hid hl
  obtain ⟨f, ea, hf⟩ : ∃ f : Nat → Value, a = ⟨(List.toArray (f 0 :: f 1 :: f 2 :: f 3 :: f 4 :: f 5 :: f 6 :: f 7 :: f 8 :: f 9 :: f 10 :: f 11 :: f 12 :: f 13 :: f 14 :: f 15 :: f 16 :: f 17 :: f 18 :: f 19 :: f 20 :: f 21 :: f 22 :: f 23 :: f 24 :: f 25 :: f 26 :: f 27 :: f 28 :: f 29 :: f 30 :: f 31 :: f 32 :: f 33 :: f 34 :: f 35 :: f 36 :: f 37 :: f 38 :: f 39 :: f 40 :: f 41 :: f 42 :: f 43 :: f 44 :: f 45 :: f 46 :: f 47 :: f 48 :: f 49 :: f 50 :: f 51 :: f 52 :: f 53 :: f 54 :: f 55 :: f 56 :: f 57 :: f 58 :: f 59 :: f 60 :: f 61 :: f 62 :: f 63 :: f 64 :: f 65 :: f 66 :: f 67 :: f 68 :: f 69 :: f 70 :: f 71 :: f 72 :: f 73 :: f 74 :: f 75 :: f 76 :: f 77 :: f 78 :: f 79 :: f 80 :: f 81 :: f 82 :: f 83 :: f 84 :: [])), []⟩ ∧ ∀ k, slot a k = f k := letters_sc a hs.size hs.defers
  rw [ea]
  have HS := Lib.hid hs
  have HF := Lib.hid hf
  clear hs ea hf hN hl 
  have HC := Lib.hid (wrong_any 13 0 w)
  conv => arg 2; whnf
  go_wp2_with fail
  refine HC.out.mono ?_
  rintro e w' ⟨rfl, rfl⟩
  go_wp2_with fail
  refine HN.out _ ?_
  exact Sl.add (Sl.add (Sl.stay [] HS.out HF.out (by kernel_rfl) rfl trivial HL.out) (by kernel_rfl)) (by kernel_rfl)
set_option maxHeartbeats 4000000 in
theorem sc_r3 (a : Act) (w : World) (N : Act → World → Prop) (Q : Exit → Act → World → Prop) (l : List (Nat × Value)) (hs : Sl 85 a l) (hl : (l.map Prod.fst).all (fun k => [0].contains k) = true)
     
    (hN : ∀ a', Sl 85 a' ((4, .slice none 0 0) :: l) → N a' (w)) : (r_sc 3).wp Tryd.prog (Exit.then N Q) a w := by
  have HN := Lib.hid hN
  have HL := Lib.hid hl
  obtain ⟨f, ea, hf⟩ : ∃ f : Nat → Value, a = ⟨(List.toArray (f 0 :: f 1 :: f 2 :: f 3 :: f 4 :: f 5 :: f 6 :: f 7 :: f 8 :: f 9 :: f 10 :: f 11 :: f 12 :: f 13 :: f 14 :: f 15 :: f 16 :: f 17 :: f 18 :: f 19 :: f 20 :: f 21 :: f 22 :: f 23 :: f 24 :: f 25 :: f 26 :: f 27 :: f 28 :: f 29 :: f 30 :: f 31 :: f 32 :: f 33 :: f 34 :: f 35 :: f 36 :: f 37 :: f 38 :: f 39 :: f 40 :: f 41 :: f 42 :: f 43 :: f 44 :: f 45 :: f 46 :: f 47 :: f 48 :: f 49 :: f 50 :: f 51 :: f 52 :: f 53 :: f 54 :: f 55 :: f 56 :: f 57 :: f 58 :: f 59 :: f 60 :: f 61 :: f 62 :: f 63 :: f 64 :: f 65 :: f 66 :: f 67 :: f 68 :: f 69 :: f 70 :: f 71 :: f 72 :: f 73 :: f 74 :: f 75 :: f 76 :: f 77 :: f 78 :: f 79 :: f 80 :: f 81 :: f 82 :: f 83 :: f 84 :: [])), []⟩ ∧ ∀ k, slot a k = f k := letters_sc a hs.size hs.defers
  rw [ea]
  have HS := Lib.hid hs
  have HF := Lib.hid hf
  clear hs ea hf hN hl 
  conv => arg 2; whnf
  go_wp2_with fail
  refine HN.out _ ?_
  exact Sl.add (Sl.stay [0] HS.out HF.out (by kernel_rfl) rfl ⟨by kernel_rfl, trivial⟩ HL.out) (by kernel_rfl)
set_option maxHeartbeats 4000000 in
theorem sc_r4 (a : Act) (w : World) (N : Act → World → Prop) (Q : Exit → Act → World → Prop) (l : List (Nat × Value)) (hs : Sl 85 a l) (hl : (l.map Prod.fst).all (fun k => [0, 4].contains k) = true)
     
    (hN : ∀ a', Sl 85 a' ((5, .int .i64 0) :: l) → N a' (w)) : (r_sc 4).wp Tryd.prog (Exit.then N Q) a w := by
  have HN := Lib.hid hN
  have HL := Lib.hid hl
  obtain ⟨f, ea, hf⟩ : ∃ f : Nat → Value, a = ⟨(List.toArray (f 0 :: f 1 :: f 2 :: f 3 :: f 4 :: f 5 :: f 6 :: f 7 :: f 8 :: f 9 :: f 10 :: f 11 :: f 12 :: f 13 :: f 14 :: f 15 :: f 16 :: f 17 :: f 18 :: f 19 :: f 20 :: f 21 :: f 22 :: f 23 :: f 24 :: f 25 :: f 26 :: f 27 :: f 28 :: f 29 :: f 30 :: f 31 :: f 32 :: f 33 :: f 34 :: f 35 :: f 36 :: f 37 :: f 38 :: f 39 :: f 40 :: f 41 :: f 42 :: f 43 :: f 44 :: f 45 :: f 46 :: f 47 :: f 48 :: f 49 :: f 50 :: f 51 :: f 52 :: f 53 :: f 54 :: f 55 :: f 56 :: f 57 :: f 58 :: f 59 :: f 60 :: f 61 :: f 62 :: f 63 :: f 64 :: f 65 :: f 66 :: f 67 :: f 68 :: f 69 :: f 70 :: f 71 :: f 72 :: f 73 :: f 74 :: f 75 :: f 76 :: f 77 :: f 78 :: f 79 :: f 80 :: f 81 :: f 82 :: f 83 :: f 84 :: [])), []⟩ ∧ ∀ k, slot a k = f k := letters_sc a hs.size hs.defers
  rw [ea]
  have HS := Lib.hid hs
  have HF := Lib.hid hf
  clear hs ea hf hN hl 
  conv => arg 2; whnf
  go_wp2_with fail
  refine HN.out _ ?_
  exact Sl.add (Sl.stay [0, 4] HS.out HF.out (by kernel_rfl) rfl ⟨by kernel_rfl, by kernel_rfl, trivial⟩ HL.out) (by kernel_rfl)
set_option maxHeartbeats 4000000 in
theorem sc_r5T (a : Act) (w : World) (N : Act → World → Prop) (Q : Exit → Act → World → Prop) (l : List (Nat × Value)) (hs : Sl 85 a l) (hl : (l.map Prod.fst).all (fun k => [0, 4, 5].contains k) = true)
    (s : ByteArray) (i : Int) (h : i ≤ (s.size : Int))  (h0 : l.lookup 0 = some (.string s)) (h5 : l.lookup 5 = some (.int .i64 i))
    (hN : ∀ a', Sl 85 a' ((18, .bool true) :: l) → N a' (w)) : (r_sc 5).wp Tryd.prog (Exit.then N Q) a w := by
  have HN := Lib.hid hN
  have HL := Lib.hid hl
  have e0 := hs.look 0 h0
  have e5 := hs.look 5 h5
  obtain ⟨f, ea, hf⟩ : ∃ f : Nat → Value, a = ⟨(List.toArray (f 0 :: f 1 :: f 2 :: f 3 :: f 4 :: f 5 :: f 6 :: f 7 :: f 8 :: f 9 :: f 10 :: f 11 :: f 12 :: f 13 :: f 14 :: f 15 :: f 16 :: f 17 :: f 18 :: f 19 :: f 20 :: f 21 :: f 22 :: f 23 :: f 24 :: f 25 :: f 26 :: f 27 :: f 28 :: f 29 :: f 30 :: f 31 :: f 32 :: f 33 :: f 34 :: f 35 :: f 36 :: f 37 :: f 38 :: f 39 :: f 40 :: f 41 :: f 42 :: f 43 :: f 44 :: f 45 :: f 46 :: f 47 :: f 48 :: f 49 :: f 50 :: f 51 :: f 52 :: f 53 :: f 54 :: f 55 :: f 56 :: f 57 :: f 58 :: f 59 :: f 60 :: f 61 :: f 62 :: f 63 :: f 64 :: f 65 :: f 66 :: f 67 :: f 68 :: f 69 :: f 70 :: f 71 :: f 72 :: f 73 :: f 74 :: f 75 :: f 76 :: f 77 :: f 78 :: f 79 :: f 80 :: f 81 :: f 82 :: f 83 :: f 84 :: [])), []⟩ ∧ ∀ k, slot a k = f k := letters_sc a hs.size hs.defers
  rw [hf] at e0 e5
  rw [ea, e0, e5]
  have HS := Lib.hid hs
  have HF := Lib.hid hf
  have E0 := Lib.hid e0
  have E5 := Lib.hid e5
  clear hs ea hf hN hl h0 e0 h5 e5
  conv => arg 2; whnf
  go_wp2_with fail
  refine HN.out _ ?_
  exact Sl.add (Sl.stay [0, 4, 5] HS.out HF.out (by kernel_rfl) rfl ⟨Eq.trans (by kernel_rfl) E0.out.symm, by kernel_rfl, Eq.trans (by kernel_rfl) E5.out.symm, trivial⟩ HL.out) (by kernel_rfl)
set_option maxHeartbeats 4000000 in
theorem sc_r5F (a : Act) (w : World) (N : Act → World → Prop) (Q : Exit → Act → World → Prop) (l : List (Nat × Value)) (hs : Sl 85 a l) (hl : (l.map Prod.fst).all (fun k => [0, 4, 5].contains k) = true)
    (s : ByteArray) (i : Int) (h : decide (i ≤ (s.size : Int)) = false)  (h0 : l.lookup 0 = some (.string s)) (h5 : l.lookup 5 = some (.int .i64 i))
    (hN : ∀ a', Sl 85 a' ((18, .bool false) :: l) → N a' (w)) : (r_sc 5).wp Tryd.prog (Exit.then N Q) a w := by
  have HN := Lib.hid hN
  have HL := Lib.hid hl
  have e0 := hs.look 0 h0
  have e5 := hs.look 5 h5
  obtain ⟨f, ea, hf⟩ : ∃ f : Nat → Value, a = ⟨(List.toArray (f 0 :: f 1 :: f 2 :: f 3 :: f 4 :: f 5 :: f 6 :: f 7 :: f 8 :: f 9 :: f 10 :: f 11 :: f 12 :: f 13 :: f 14 :: f 15 :: f 16 :: f 17 :: f 18 :: f 19 :: f 20 :: f 21 :: f 22 :: f 23 :: f 24 :: f 25 :: f 26 :: f 27 :: f 28 :: f 29 :: f 30 :: f 31 :: f 32 :: f 33 :: f 34 :: f 35 :: f 36 :: f 37 :: f 38 :: f 39 :: f 40 :: f 41 :: f 42 :: f 43 :: f 44 :: f 45 :: f 46 :: f 47 :: f 48 :: f 49 :: f 50 :: f 51 :: f 52 :: f 53 :: f 54 :: f 55 :: f 56 :: f 57 :: f 58 :: f 59 :: f 60 :: f 61 :: f 62 :: f 63 :: f 64 :: f 65 :: f 66 :: f 67 :: f 68 :: f 69 :: f 70 :: f 71 :: f 72 :: f 73 :: f 74 :: f 75 :: f 76 :: f 77 :: f 78 :: f 79 :: f 80 :: f 81 :: f 82 :: f 83 :: f 84 :: [])), []⟩ ∧ ∀ k, slot a k = f k := letters_sc a hs.size hs.defers
  rw [hf] at e0 e5
  rw [ea, e0, e5]
  have HS := Lib.hid hs
  have HF := Lib.hid hf
  have E0 := Lib.hid e0
  have E5 := Lib.hid e5
  clear hs ea hf hN hl h0 e0 h5 e5
  conv => arg 2; whnf
  go_wp2_with fail
  refine HN.out _ ?_
  exact Sl.add (Sl.stay [0, 4, 5] HS.out HF.out (by kernel_rfl) rfl ⟨Eq.trans (by kernel_rfl) E0.out.symm, by kernel_rfl, Eq.trans (by kernel_rfl) E5.out.symm, trivial⟩ HL.out) (by kernel_rfl)
set_option maxHeartbeats 4000000 in
theorem sc_r11e (a : Act) (w : World) (N : Act → World → Prop) (Q : Exit → Act → World → Prop) (l : List (Nat × Value)) (hs : Sl 85 a l) (hl : (l.map Prod.fst).all (fun k => [0, 4, 5].contains k) = true)
    (s : ByteArray) (i : Int) (h : (i == (s.size : Int)) = true)  (h0 : l.lookup 0 = some (.string s)) (h5 : l.lookup 5 = some (.int .i64 i))
    (hN : ∀ a', Sl 85 a' ((35, .bool true) :: l) → N a' (w)) : (r_sc 11).wp Tryd.prog (Exit.then N Q) a w := by
  have HN := Lib.hid hN
  have HL := Lib.hid hl
  have e0 := hs.look 0 h0
  have e5 := hs.look 5 h5
  obtain ⟨f, ea, hf⟩ : ∃ f : Nat → Value, a = ⟨(List.toArray (f 0 :: f 1 :: f 2 :: f 3 :: f 4 :: f 5 :: f 6 :: f 7 :: f 8 :: f 9 :: f 10 :: f 11 :: f 12 :: f 13 :: f 14 :: f 15 :: f 16 :: f 17 :: f 18 :: f 19 :: f 20 :: f 21 :: f 22 :: f 23 :: f 24 :: f 25 :: f 26 :: f 27 :: f 28 :: f 29 :: f 30 :: f 31 :: f 32 :: f 33 :: f 34 :: f 35 :: f 36 :: f 37 :: f 38 :: f 39 :: f 40 :: f 41 :: f 42 :: f 43 :: f 44 :: f 45 :: f 46 :: f 47 :: f 48 :: f 49 :: f 50 :: f 51 :: f 52 :: f 53 :: f 54 :: f 55 :: f 56 :: f 57 :: f 58 :: f 59 :: f 60 :: f 61 :: f 62 :: f 63 :: f 64 :: f 65 :: f 66 :: f 67 :: f 68 :: f 69 :: f 70 :: f 71 :: f 72 :: f 73 :: f 74 :: f 75 :: f 76 :: f 77 :: f 78 :: f 79 :: f 80 :: f 81 :: f 82 :: f 83 :: f 84 :: [])), []⟩ ∧ ∀ k, slot a k = f k := letters_sc a hs.size hs.defers
  rw [hf] at e0 e5
  rw [ea, e0, e5]
  have HS := Lib.hid hs
  have HF := Lib.hid hf
  have E0 := Lib.hid e0
  have E5 := Lib.hid e5
  clear hs ea hf hN hl h0 e0 h5 e5
  conv => arg 2; whnf
  go_wp2_with fail
  refine HN.out _ ?_
  exact Sl.add (Sl.stay [0, 4, 5] HS.out HF.out (by kernel_rfl) rfl ⟨Eq.trans (by kernel_rfl) E0.out.symm, by kernel_rfl, Eq.trans (by kernel_rfl) E5.out.symm, trivial⟩ HL.out) (by kernel_rfl)
set_option maxHeartbeats 4000000 in
theorem sc_r11 (a : Act) (w : World) (N : Act → World → Prop) (Q : Exit → Act → World → Prop) (l : List (Nat × Value)) (hs : Sl 85 a l) (hl : (l.map Prod.fst).all (fun k => [0, 4, 5].contains k) = true)
    (s : ByteArray) (i : Int) (c : Int) (b : Bool) (h : (i == (s.size : Int)) = false) (hb : (c == 10) = b) (hi : ∀ w, (Instr.index 9 (.string s) (.int .i64 (i))).run Tryd.prog w = .ok (.int .u8 c) w)  (h0 : l.lookup 0 = some (.string s)) (h5 : l.lookup 5 = some (.int .i64 i))
    (hN : ∀ a', Sl 85 a' ((35, .bool b) :: l) → N a' (w)) : (r_sc 11).wp Tryd.prog (Exit.then N Q) a w := by
  have HN := Lib.hid hN
  have HL := Lib.hid hl
  have e0 := hs.look 0 h0
  have e5 := hs.look 5 h5
  obtain ⟨f, ea, hf⟩ : ∃ f : Nat → Value, a = ⟨(List.toArray (f 0 :: f 1 :: f 2 :: f 3 :: f 4 :: f 5 :: f 6 :: f 7 :: f 8 :: f 9 :: f 10 :: f 11 :: f 12 :: f 13 :: f 14 :: f 15 :: f 16 :: f 17 :: f 18 :: f 19 :: f 20 :: f 21 :: f 22 :: f 23 :: f 24 :: f 25 :: f 26 :: f 27 :: f 28 :: f 29 :: f 30 :: f 31 :: f 32 :: f 33 :: f 34 :: f 35 :: f 36 :: f 37 :: f 38 :: f 39 :: f 40 :: f 41 :: f 42 :: f 43 :: f 44 :: f 45 :: f 46 :: f 47 :: f 48 :: f 49 :: f 50 :: f 51 :: f 52 :: f 53 :: f 54 :: f 55 :: f 56 :: f 57 :: f 58 :: f 59 :: f 60 :: f 61 :: f 62 :: f 63 :: f 64 :: f 65 :: f 66 :: f 67 :: f 68 :: f 69 :: f 70 :: f 71 :: f 72 :: f 73 :: f 74 :: f 75 :: f 76 :: f 77 :: f 78 :: f 79 :: f 80 :: f 81 :: f 82 :: f 83 :: f 84 :: [])), []⟩ ∧ ∀ k, slot a k = f k := letters_sc a hs.size hs.defers
  rw [hf] at e0 e5
  rw [ea, e0, e5]
  have HS := Lib.hid hs
  have HF := Lib.hid hf
  have E0 := Lib.hid e0
  have E5 := Lib.hid e5
  clear hs ea hf hN hl h0 e0 h5 e5
  conv => arg 2; whnf
  go_wp2_with fail
  refine HN.out _ ?_
  exact Sl.add (Sl.stay [0, 4, 5] HS.out HF.out (by kernel_rfl) rfl ⟨Eq.trans (by kernel_rfl) E0.out.symm, by kernel_rfl, Eq.trans (by kernel_rfl) E5.out.symm, trivial⟩ HL.out) (by kernel_rfl)
set_option maxHeartbeats 4000000 in
theorem sc_r12 (a : Act) (w : World) (N : Act → World → Prop) (Q : Exit → Act → World → Prop) (l : List (Nat × Value)) (hs : Sl 85 a l) (hl : (l.map Prod.fst).all (fun k => [0, 4, 5].contains k) = true)
    (v : Value) (b : Bool) (HC : Calls Tryd.prog 34 #[v] w fun e w' => e = .returned (.bool b) ∧ Below w.heap.size w w')  (h4 : l.lookup 4 = some (v))
    (hN : ∀ a' w', Sl 85 a' ((47, .bool b) :: l) → Below w.heap.size w w' → N a' w') : (r_sc 12).wp Tryd.prog (Exit.then N Q) a w := by
  have HN := Lib.hid hN
  have HL := Lib.hid hl
  have e4 := hs.look 4 h4
  obtain ⟨f, ea, hf⟩ : ∃ f : Nat → Value, a = ⟨(List.toArray (f 0 :: f 1 :: f 2 :: f 3 :: f 4 :: f 5 :: f 6 :: f 7 :: f 8 :: f 9 :: f 10 :: f 11 :: f 12 :: f 13 :: f 14 :: f 15 :: f 16 :: f 17 :: f 18 :: f 19 :: f 20 :: f 21 :: f 22 :: f 23 :: f 24 :: f 25 :: f 26 :: f 27 :: f 28 :: f 29 :: f 30 :: f 31 :: f 32 :: f 33 :: f 34 :: f 35 :: f 36 :: f 37 :: f 38 :: f 39 :: f 40 :: f 41 :: f 42 :: f 43 :: f 44 :: f 45 :: f 46 :: f 47 :: f 48 :: f 49 :: f 50 :: f 51 :: f 52 :: f 53 :: f 54 :: f 55 :: f 56 :: f 57 :: f 58 :: f 59 :: f 60 :: f 61 :: f 62 :: f 63 :: f 64 :: f 65 :: f 66 :: f 67 :: f 68 :: f 69 :: f 70 :: f 71 :: f 72 :: f 73 :: f 74 :: f 75 :: f 76 :: f 77 :: f 78 :: f 79 :: f 80 :: f 81 :: f 82 :: f 83 :: f 84 :: [])), []⟩ ∧ ∀ k, slot a k = f k := letters_sc a hs.size hs.defers
  rw [hf] at e4
  rw [ea, e4]
  have HS := Lib.hid hs
  have HF := Lib.hid hf
  have E4 := Lib.hid e4
  clear hs ea hf hN hl h4 e4
  have HC := Lib.hid HC
  conv => arg 2; whnf
  go_wp2_with fail
  refine HC.out.mono ?_
  rintro e w' ⟨rfl, hb⟩
  go_wp2_with fail
  refine HN.out _ _ ?_ hb
  exact Sl.add (Sl.stay [0, 4, 5] HS.out HF.out (by kernel_rfl) rfl ⟨by kernel_rfl, Eq.trans (by kernel_rfl) E4.out.symm, by kernel_rfl, trivial⟩ HL.out) (by kernel_rfl)
set_option maxHeartbeats 4000000 in
theorem sc_r13 (a : Act) (w : World) (N : Act → World → Prop) (Q : Exit → Act → World → Prop) (l : List (Nat × Value)) (hs : Sl 85 a l) (hl : (l.map Prod.fst).all (fun k => [0, 5].contains k) = true)
    (i : Int) (v : Value) (B n : Nat) (xs : List Value) (hown : w.ownsRow B 48 3 v n xs) (hn : n ≤ 1000000) (hB : B ≤ w.heap.size)  (h4 : slot a 4 = v) (h5 : l.lookup 5 = some (.int .i64 i))
    (hN : ∀ a' w' v', Sl 85 a' ((4, v') :: l) → w'.ownsRow B 48 3 v' (n + 1) (xs ++ [.int .i64 1, .string ⟨#[]⟩, .int .i64 i]) → Below B w w' → N a' w') : (r_sc 13).wp Tryd.prog (Exit.then N Q) a w := by
  have HN := Lib.hid hN
  have HL := Lib.hid hl
  have e4 := h4
  have e5 := hs.look 5 h5
  obtain ⟨f, ea, hf⟩ : ∃ f : Nat → Value, a = ⟨(List.toArray (f 0 :: f 1 :: f 2 :: f 3 :: f 4 :: f 5 :: f 6 :: f 7 :: f 8 :: f 9 :: f 10 :: f 11 :: f 12 :: f 13 :: f 14 :: f 15 :: f 16 :: f 17 :: f 18 :: f 19 :: f 20 :: f 21 :: f 22 :: f 23 :: f 24 :: f 25 :: f 26 :: f 27 :: f 28 :: f 29 :: f 30 :: f 31 :: f 32 :: f 33 :: f 34 :: f 35 :: f 36 :: f 37 :: f 38 :: f 39 :: f 40 :: f 41 :: f 42 :: f 43 :: f 44 :: f 45 :: f 46 :: f 47 :: f 48 :: f 49 :: f 50 :: f 51 :: f 52 :: f 53 :: f 54 :: f 55 :: f 56 :: f 57 :: f 58 :: f 59 :: f 60 :: f 61 :: f 62 :: f 63 :: f 64 :: f 65 :: f 66 :: f 67 :: f 68 :: f 69 :: f 70 :: f 71 :: f 72 :: f 73 :: f 74 :: f 75 :: f 76 :: f 77 :: f 78 :: f 79 :: f 80 :: f 81 :: f 82 :: f 83 :: f 84 :: [])), []⟩ ∧ ∀ k, slot a k = f k := letters_sc a hs.size hs.defers
  rw [hf] at e4 e5
  rw [ea, e4, e5]
  have HS := Lib.hid hs
  have HF := Lib.hid hf
  have E4 := Lib.hid e4
  have E5 := Lib.hid e5
  clear hs ea hf hN hl h4 e4 h5 e5
  obtain ⟨i0, hi0, hz0, hz1, hz2⟩ := info_parts info_tok
  have HO := Lib.hid (hown.alloc (.cells #[.int .i64 1, .string ⟨#[]⟩, .int .i64 i] 48))
  have HN2 := Lib.hid (news_three w 48 (.int .i64 1) (.string ⟨#[]⟩) (.int .i64 i))
  clear hown
  conv => arg 2; whnf
  go_wp2_with (at_builtin; refine wpList_append_own _ rfl (.tmp 48) (.tmp 51) 23 rfl B 48 i0 _ 3 32 Tryd.underlying23 hi0 hz0 hz1 hz2 rfl (by decide) v n xs rfl HO.out ⟨w.heap.size, 0, none⟩ 1 1 [.int .i64 1, .string ⟨#[]⟩, .int .i64 i] rfl rfl HN2.out (by simp [Value.oneCell']) (by unfold maxLen; omega) (by omega) (by simp; omega) ?_; intro v' w' hown' hgrow _)
  refine HN.out _ _ _ ?_ hown' ((app_below HO.out hB hgrow))
  exact Sl.add (Sl.stay [0, 5] HS.out HF.out (by kernel_rfl) rfl ⟨by kernel_rfl, Eq.trans (by kernel_rfl) E5.out.symm, trivial⟩ HL.out) (by kernel_rfl)
set_option maxHeartbeats 4000000 in
theorem sc_r14 (a : Act) (w : World) (N : Act → World → Prop) (Q : Exit → Act → World → Prop) (l : List (Nat × Value)) (hs : Sl 85 a l) (hl : (l.map Prod.fst).all (fun k => [0, 4].contains k) = true)
    (i : Int) (i0 : 0 ≤ i) (i1 : i ≤ 1000000)  (h5 : slot a 5 = .int .i64 i)
    (hN : ∀ a', Sl 85 a' ((5, .int .i64 (i + 1)) :: l) → N a' (w)) : (r_sc 14).wp Tryd.prog (Exit.then N Q) a w := by
  have HN := Lib.hid hN
  have HL := Lib.hid hl
  have e5 := h5
  obtain ⟨f, ea, hf⟩ : ∃ f : Nat → Value, a = ⟨(List.toArray (f 0 :: f 1 :: f 2 :: f 3 :: f 4 :: f 5 :: f 6 :: f 7 :: f 8 :: f 9 :: f 10 :: f 11 :: f 12 :: f 13 :: f 14 :: f 15 :: f 16 :: f 17 :: f 18 :: f 19 :: f 20 :: f 21 :: f 22 :: f 23 :: f 24 :: f 25 :: f 26 :: f 27 :: f 28 :: f 29 :: f 30 :: f 31 :: f 32 :: f 33 :: f 34 :: f 35 :: f 36 :: f 37 :: f 38 :: f 39 :: f 40 :: f 41 :: f 42 :: f 43 :: f 44 :: f 45 :: f 46 :: f 47 :: f 48 :: f 49 :: f 50 :: f 51 :: f 52 :: f 53 :: f 54 :: f 55 :: f 56 :: f 57 :: f 58 :: f 59 :: f 60 :: f 61 :: f 62 :: f 63 :: f 64 :: f 65 :: f 66 :: f 67 :: f 68 :: f 69 :: f 70 :: f 71 :: f 72 :: f 73 :: f 74 :: f 75 :: f 76 :: f 77 :: f 78 :: f 79 :: f 80 :: f 81 :: f 82 :: f 83 :: f 84 :: [])), []⟩ ∧ ∀ k, slot a k = f k := letters_sc a hs.size hs.defers
  rw [hf] at e5
  rw [ea, e5]
  have HS := Lib.hid hs
  have HF := Lib.hid hf
  have E5 := Lib.hid e5
  clear hs ea hf hN hl h5 e5
  conv => arg 2; whnf
  go_wp2_with fail
  refine HN.out _ ?_
  exact Sl.add (Sl.stay [0, 4] HS.out HF.out (by kernel_rfl) rfl ⟨by kernel_rfl, by kernel_rfl, trivial⟩ HL.out) (by kernel_rfl)
set_option maxHeartbeats 4000000 in
theorem sc_r16 (a : Act) (w : World) (N : Act → World → Prop) (Q : Exit → Act → World → Prop) (l : List (Nat × Value)) (hs : Sl 85 a l) (hl : (l.map Prod.fst).all (fun k => [0, 4].contains k) = true)
    (i : Int) (i0 : 0 ≤ i) (i1 : i ≤ 1000000)  (h5 : slot a 5 = .int .i64 i)
    (hN : ∀ a', Sl 85 a' ((5, .int .i64 (i + 1)) :: l) → N a' (w)) : (r_sc 16).wp Tryd.prog (Exit.then N Q) a w := by
  have HN := Lib.hid hN
  have HL := Lib.hid hl
  have e5 := h5
  obtain ⟨f, ea, hf⟩ : ∃ f : Nat → Value, a = ⟨(List.toArray (f 0 :: f 1 :: f 2 :: f 3 :: f 4 :: f 5 :: f 6 :: f 7 :: f 8 :: f 9 :: f 10 :: f 11 :: f 12 :: f 13 :: f 14 :: f 15 :: f 16 :: f 17 :: f 18 :: f 19 :: f 20 :: f 21 :: f 22 :: f 23 :: f 24 :: f 25 :: f 26 :: f 27 :: f 28 :: f 29 :: f 30 :: f 31 :: f 32 :: f 33 :: f 34 :: f 35 :: f 36 :: f 37 :: f 38 :: f 39 :: f 40 :: f 41 :: f 42 :: f 43 :: f 44 :: f 45 :: f 46 :: f 47 :: f 48 :: f 49 :: f 50 :: f 51 :: f 52 :: f 53 :: f 54 :: f 55 :: f 56 :: f 57 :: f 58 :: f 59 :: f 60 :: f 61 :: f 62 :: f 63 :: f 64 :: f 65 :: f 66 :: f 67 :: f 68 :: f 69 :: f 70 :: f 71 :: f 72 :: f 73 :: f 74 :: f 75 :: f 76 :: f 77 :: f 78 :: f 79 :: f 80 :: f 81 :: f 82 :: f 83 :: f 84 :: [])), []⟩ ∧ ∀ k, slot a k = f k := letters_sc a hs.size hs.defers
  rw [hf] at e5
  rw [ea, e5]
  have HS := Lib.hid hs
  have HF := Lib.hid hf
  have E5 := Lib.hid e5
  clear hs ea hf hN hl h5 e5
  conv => arg 2; whnf
  go_wp2_with fail
  refine HN.out _ ?_
  exact Sl.add (Sl.stay [0, 4] HS.out HF.out (by kernel_rfl) rfl ⟨by kernel_rfl, by kernel_rfl, trivial⟩ HL.out) (by kernel_rfl)
set_option maxHeartbeats 4000000 in
theorem sc_r15a (a : Act) (w : World) (N : Act → World → Prop) (Q : Exit → Act → World → Prop) (l : List (Nat × Value)) (hs : Sl 85 a l) (hl : (l.map Prod.fst).all (fun k => [0, 4, 5].contains k) = true)
    (s : ByteArray) (i : Int) (c : Int) (hb : (c == 32) = true) (hi : ∀ w, (Instr.index 9 (.string s) (.int .i64 (i))).run Tryd.prog w = .ok (.int .u8 c) w)  (h0 : l.lookup 0 = some (.string s)) (h5 : l.lookup 5 = some (.int .i64 i))
    (hN : ∀ a', Sl 85 a' ((55, .bool true) :: l) → N a' (w)) : (r_sc 15).wp Tryd.prog (Exit.then N Q) a w := by
  have HN := Lib.hid hN
  have HL := Lib.hid hl
  have e0 := hs.look 0 h0
  have e5 := hs.look 5 h5
  obtain ⟨f, ea, hf⟩ : ∃ f : Nat → Value, a = ⟨(List.toArray (f 0 :: f 1 :: f 2 :: f 3 :: f 4 :: f 5 :: f 6 :: f 7 :: f 8 :: f 9 :: f 10 :: f 11 :: f 12 :: f 13 :: f 14 :: f 15 :: f 16 :: f 17 :: f 18 :: f 19 :: f 20 :: f 21 :: f 22 :: f 23 :: f 24 :: f 25 :: f 26 :: f 27 :: f 28 :: f 29 :: f 30 :: f 31 :: f 32 :: f 33 :: f 34 :: f 35 :: f 36 :: f 37 :: f 38 :: f 39 :: f 40 :: f 41 :: f 42 :: f 43 :: f 44 :: f 45 :: f 46 :: f 47 :: f 48 :: f 49 :: f 50 :: f 51 :: f 52 :: f 53 :: f 54 :: f 55 :: f 56 :: f 57 :: f 58 :: f 59 :: f 60 :: f 61 :: f 62 :: f 63 :: f 64 :: f 65 :: f 66 :: f 67 :: f 68 :: f 69 :: f 70 :: f 71 :: f 72 :: f 73 :: f 74 :: f 75 :: f 76 :: f 77 :: f 78 :: f 79 :: f 80 :: f 81 :: f 82 :: f 83 :: f 84 :: [])), []⟩ ∧ ∀ k, slot a k = f k := letters_sc a hs.size hs.defers
  rw [hf] at e0 e5
  rw [ea, e0, e5]
  have HS := Lib.hid hs
  have HF := Lib.hid hf
  have E0 := Lib.hid e0
  have E5 := Lib.hid e5
  clear hs ea hf hN hl h0 e0 h5 e5
  conv => arg 2; whnf
  go_wp2_with fail
  refine HN.out _ ?_
  exact Sl.add (Sl.stay [0, 4, 5] HS.out HF.out (by kernel_rfl) rfl ⟨Eq.trans (by kernel_rfl) E0.out.symm, by kernel_rfl, Eq.trans (by kernel_rfl) E5.out.symm, trivial⟩ HL.out) (by kernel_rfl)
set_option maxHeartbeats 4000000 in
theorem sc_r15b (a : Act) (w : World) (N : Act → World → Prop) (Q : Exit → Act → World → Prop) (l : List (Nat × Value)) (hs : Sl 85 a l) (hl : (l.map Prod.fst).all (fun k => [0, 4, 5].contains k) = true)
    (s : ByteArray) (i : Int) (c : Int) (b : Bool) (hb : (c == 32) = false) (hb2 : (c == 9) = b) (hi : ∀ w, (Instr.index 9 (.string s) (.int .i64 (i))).run Tryd.prog w = .ok (.int .u8 c) w)  (h0 : l.lookup 0 = some (.string s)) (h5 : l.lookup 5 = some (.int .i64 i))
    (hN : ∀ a', Sl 85 a' ((55, .bool b) :: l) → N a' (w)) : (r_sc 15).wp Tryd.prog (Exit.then N Q) a w := by
  have HN := Lib.hid hN
  have HL := Lib.hid hl
  have e0 := hs.look 0 h0
  have e5 := hs.look 5 h5
  obtain ⟨f, ea, hf⟩ : ∃ f : Nat → Value, a = ⟨(List.toArray (f 0 :: f 1 :: f 2 :: f 3 :: f 4 :: f 5 :: f 6 :: f 7 :: f 8 :: f 9 :: f 10 :: f 11 :: f 12 :: f 13 :: f 14 :: f 15 :: f 16 :: f 17 :: f 18 :: f 19 :: f 20 :: f 21 :: f 22 :: f 23 :: f 24 :: f 25 :: f 26 :: f 27 :: f 28 :: f 29 :: f 30 :: f 31 :: f 32 :: f 33 :: f 34 :: f 35 :: f 36 :: f 37 :: f 38 :: f 39 :: f 40 :: f 41 :: f 42 :: f 43 :: f 44 :: f 45 :: f 46 :: f 47 :: f 48 :: f 49 :: f 50 :: f 51 :: f 52 :: f 53 :: f 54 :: f 55 :: f 56 :: f 57 :: f 58 :: f 59 :: f 60 :: f 61 :: f 62 :: f 63 :: f 64 :: f 65 :: f 66 :: f 67 :: f 68 :: f 69 :: f 70 :: f 71 :: f 72 :: f 73 :: f 74 :: f 75 :: f 76 :: f 77 :: f 78 :: f 79 :: f 80 :: f 81 :: f 82 :: f 83 :: f 84 :: [])), []⟩ ∧ ∀ k, slot a k = f k := letters_sc a hs.size hs.defers
  rw [hf] at e0 e5
  rw [ea, e0, e5]
  have HS := Lib.hid hs
  have HF := Lib.hid hf
  have E0 := Lib.hid e0
  have E5 := Lib.hid e5
  clear hs ea hf hN hl h0 e0 h5 e5
  conv => arg 2; whnf
  go_wp2_with fail
  refine HN.out _ ?_
  exact Sl.add (Sl.stay [0, 4, 5] HS.out HF.out (by kernel_rfl) rfl ⟨Eq.trans (by kernel_rfl) E0.out.symm, by kernel_rfl, Eq.trans (by kernel_rfl) E5.out.symm, trivial⟩ HL.out) (by kernel_rfl)
set_option maxHeartbeats 4000000 in
theorem sc_r17 (a : Act) (w : World) (N : Act → World → Prop) (Q : Exit → Act → World → Prop) (l : List (Nat × Value)) (hs : Sl 85 a l) (hl : (l.map Prod.fst).all (fun k => [0, 4, 5].contains k) = true)
    (s : ByteArray) (i : Int) (q : ByteArray) (b : Bool) (hq : ∀ w, (Instr.slice 9 (.string s) (some (.int .i64 (i))) none none).run Tryd.prog w = .ok (.string q) w) (HC : ∀ w, Calls Tryd.prog 35 #[.string q, .string ⟨#[47, 47]⟩] w fun e w' => e = .returned (.bool b) ∧ w' = w)  (h0 : l.lookup 0 = some (.string s)) (h5 : l.lookup 5 = some (.int .i64 i))
    (hN : ∀ a', Sl 85 a' ((68, .bool b) :: l) → N a' (w)) : (r_sc 17).wp Tryd.prog (Exit.then N Q) a w := by
  have HN := Lib.hid hN
  have HL := Lib.hid hl
  have e0 := hs.look 0 h0
  have e5 := hs.look 5 h5
  obtain ⟨f, ea, hf⟩ : ∃ f : Nat → Value, a = ⟨(List.toArray (f 0 :: f 1 :: f 2 :: f 3 :: f 4 :: f 5 :: f 6 :: f 7 :: f 8 :: f 9 :: f 10 :: f 11 :: f 12 :: f 13 :: f 14 :: f 15 :: f 16 :: f 17 :: f 18 :: f 19 :: f 20 :: f 21 :: f 22 :: f 23 :: f 24 :: f 25 :: f 26 :: f 27 :: f 28 :: f 29 :: f 30 :: f 31 :: f 32 :: f 33 :: f 34 :: f 35 :: f 36 :: f 37 :: f 38 :: f 39 :: f 40 :: f 41 :: f 42 :: f 43 :: f 44 :: f 45 :: f 46 :: f 47 :: f 48 :: f 49 :: f 50 :: f 51 :: f 52 :: f 53 :: f 54 :: f 55 :: f 56 :: f 57 :: f 58 :: f 59 :: f 60 :: f 61 :: f 62 :: f 63 :: f 64 :: f 65 :: f 66 :: f 67 :: f 68 :: f 69 :: f 70 :: f 71 :: f 72 :: f 73 :: f 74 :: f 75 :: f 76 :: f 77 :: f 78 :: f 79 :: f 80 :: f 81 :: f 82 :: f 83 :: f 84 :: [])), []⟩ ∧ ∀ k, slot a k = f k := letters_sc a hs.size hs.defers
  rw [hf] at e0 e5
  rw [ea, e0, e5]
  have HS := Lib.hid hs
  have HF := Lib.hid hf
  have E0 := Lib.hid e0
  have E5 := Lib.hid e5
  clear hs ea hf hN hl h0 e0 h5 e5
  have HC := Lib.hid HC
  conv => arg 2; whnf
  go_wp2_with fail
  refine (HC.out _).mono ?_
  rintro e w' ⟨rfl, rfl⟩
  go_wp2_with fail
  refine HN.out _ ?_
  exact Sl.add (Sl.stay [0, 4, 5] HS.out HF.out (by kernel_rfl) rfl ⟨Eq.trans (by kernel_rfl) E0.out.symm, by kernel_rfl, Eq.trans (by kernel_rfl) E5.out.symm, trivial⟩ HL.out) (by kernel_rfl)
set_option maxHeartbeats 4000000 in
theorem sc_r18 (a : Act) (w : World) (N : Act → World → Prop) (Q : Exit → Act → World → Prop) (l : List (Nat × Value)) (hs : Sl 85 a l) (hl : (l.map Prod.fst).all (fun k => [0, 4, 5].contains k) = true)
    (s : ByteArray) (i : Int) (q : ByteArray) (n : Int) (hq : ∀ w, (Instr.slice 9 (.string s) (some (.int .i64 (i))) none none).run Tryd.prog w = .ok (.string q) w) (HC : ∀ w, Calls Tryd.prog 36 #[.string q, .int .u8 10] w fun e w' => e = .returned (.int .i64 n) ∧ w' = w)  (h0 : l.lookup 0 = some (.string s)) (h5 : l.lookup 5 = some (.int .i64 i))
    (hN : ∀ a', Sl 85 a' ((6, .int .i64 n) :: l) → N a' (w)) : (r_sc 18).wp Tryd.prog (Exit.then N Q) a w := by
  have HN := Lib.hid hN
  have HL := Lib.hid hl
  have e0 := hs.look 0 h0
  have e5 := hs.look 5 h5
  obtain ⟨f, ea, hf⟩ : ∃ f : Nat → Value, a = ⟨(List.toArray (f 0 :: f 1 :: f 2 :: f 3 :: f 4 :: f 5 :: f 6 :: f 7 :: f 8 :: f 9 :: f 10 :: f 11 :: f 12 :: f 13 :: f 14 :: f 15 :: f 16 :: f 17 :: f 18 :: f 19 :: f 20 :: f 21 :: f 22 :: f 23 :: f 24 :: f 25 :: f 26 :: f 27 :: f 28 :: f 29 :: f 30 :: f 31 :: f 32 :: f 33 :: f 34 :: f 35 :: f 36 :: f 37 :: f 38 :: f 39 :: f 40 :: f 41 :: f 42 :: f 43 :: f 44 :: f 45 :: f 46 :: f 47 :: f 48 :: f 49 :: f 50 :: f 51 :: f 52 :: f 53 :: f 54 :: f 55 :: f 56 :: f 57 :: f 58 :: f 59 :: f 60 :: f 61 :: f 62 :: f 63 :: f 64 :: f 65 :: f 66 :: f 67 :: f 68 :: f 69 :: f 70 :: f 71 :: f 72 :: f 73 :: f 74 :: f 75 :: f 76 :: f 77 :: f 78 :: f 79 :: f 80 :: f 81 :: f 82 :: f 83 :: f 84 :: [])), []⟩ ∧ ∀ k, slot a k = f k := letters_sc a hs.size hs.defers
  rw [hf] at e0 e5
  rw [ea, e0, e5]
  have HS := Lib.hid hs
  have HF := Lib.hid hf
  have E0 := Lib.hid e0
  have E5 := Lib.hid e5
  clear hs ea hf hN hl h0 e0 h5 e5
  have HC := Lib.hid HC
  conv => arg 2; whnf
  go_wp2_with fail
  refine (HC.out _).mono ?_
  rintro e w' ⟨rfl, rfl⟩
  go_wp2_with fail
  refine HN.out _ ?_
  exact Sl.add (Sl.stay [0, 4, 5] HS.out HF.out (by kernel_rfl) rfl ⟨Eq.trans (by kernel_rfl) E0.out.symm, by kernel_rfl, Eq.trans (by kernel_rfl) E5.out.symm, trivial⟩ HL.out) (by kernel_rfl)
set_option maxHeartbeats 4000000 in
theorem sc_r19 (a : Act) (w : World) (N : Act → World → Prop) (Q : Exit → Act → World → Prop) (l : List (Nat × Value)) (hs : Sl 85 a l) (hl : (l.map Prod.fst).all (fun k => [0, 4, 5, 6].contains k) = true)
    (n : Int) (b : Bool) (h : decide ((0 : Int) ≤ n) = b)  (h6 : l.lookup 6 = some (.int .i64 n))
    (hN : ∀ a', Sl 85 a' ((78, .bool b) :: l) → N a' (w)) : (r_sc 19).wp Tryd.prog (Exit.then N Q) a w := by
  have HN := Lib.hid hN
  have HL := Lib.hid hl
  have e6 := hs.look 6 h6
  obtain ⟨f, ea, hf⟩ : ∃ f : Nat → Value, a = ⟨(List.toArray (f 0 :: f 1 :: f 2 :: f 3 :: f 4 :: f 5 :: f 6 :: f 7 :: f 8 :: f 9 :: f 10 :: f 11 :: f 12 :: f 13 :: f 14 :: f 15 :: f 16 :: f 17 :: f 18 :: f 19 :: f 20 :: f 21 :: f 22 :: f 23 :: f 24 :: f 25 :: f 26 :: f 27 :: f 28 :: f 29 :: f 30 :: f 31 :: f 32 :: f 33 :: f 34 :: f 35 :: f 36 :: f 37 :: f 38 :: f 39 :: f 40 :: f 41 :: f 42 :: f 43 :: f 44 :: f 45 :: f 46 :: f 47 :: f 48 :: f 49 :: f 50 :: f 51 :: f 52 :: f 53 :: f 54 :: f 55 :: f 56 :: f 57 :: f 58 :: f 59 :: f 60 :: f 61 :: f 62 :: f 63 :: f 64 :: f 65 :: f 66 :: f 67 :: f 68 :: f 69 :: f 70 :: f 71 :: f 72 :: f 73 :: f 74 :: f 75 :: f 76 :: f 77 :: f 78 :: f 79 :: f 80 :: f 81 :: f 82 :: f 83 :: f 84 :: [])), []⟩ ∧ ∀ k, slot a k = f k := letters_sc a hs.size hs.defers
  rw [hf] at e6
  rw [ea, e6]
  have HS := Lib.hid hs
  have HF := Lib.hid hf
  have E6 := Lib.hid e6
  clear hs ea hf hN hl h6 e6
  have HB := Lib.hid h
  clear h
  conv => arg 2; whnf
  go_wp2_with fail
  refine HN.out _ ?_
  exact Sl.add (Sl.stay [0, 4, 5, 6] HS.out HF.out (by kernel_rfl) rfl ⟨by kernel_rfl, by kernel_rfl, by kernel_rfl, Eq.trans (by kernel_rfl) E6.out.symm, trivial⟩ HL.out) (Eq.trans (b := .bool (decide ((0 : Int) ≤ n))) (by kernel_rfl) (by rw [HB.out]))
set_option maxHeartbeats 4000000 in
theorem sc_r20 (a : Act) (w : World) (N : Act → World → Prop) (Q : Exit → Act → World → Prop) (l : List (Nat × Value)) (hs : Sl 85 a l) (hl : (l.map Prod.fst).all (fun k => [0, 4].contains k) = true)
    (i n : Int) (h0 : 0 ≤ i) (h1 : 0 ≤ n) (h2 : i + n ≤ 1000000)  (h5 : slot a 5 = .int .i64 i) (h6 : slot a 6 = .int .i64 n)
    (hN : ∀ a', Sl 85 a' ((5, .int .i64 (i + n)) :: l) → N a' (w)) : (r_sc 20).wp Tryd.prog (Exit.then N Q) a w := by
  have HN := Lib.hid hN
  have HL := Lib.hid hl
  have e5 := h5
  have e6 := h6
  obtain ⟨f, ea, hf⟩ : ∃ f : Nat → Value, a = ⟨(List.toArray (f 0 :: f 1 :: f 2 :: f 3 :: f 4 :: f 5 :: f 6 :: f 7 :: f 8 :: f 9 :: f 10 :: f 11 :: f 12 :: f 13 :: f 14 :: f 15 :: f 16 :: f 17 :: f 18 :: f 19 :: f 20 :: f 21 :: f 22 :: f 23 :: f 24 :: f 25 :: f 26 :: f 27 :: f 28 :: f 29 :: f 30 :: f 31 :: f 32 :: f 33 :: f 34 :: f 35 :: f 36 :: f 37 :: f 38 :: f 39 :: f 40 :: f 41 :: f 42 :: f 43 :: f 44 :: f 45 :: f 46 :: f 47 :: f 48 :: f 49 :: f 50 :: f 51 :: f 52 :: f 53 :: f 54 :: f 55 :: f 56 :: f 57 :: f 58 :: f 59 :: f 60 :: f 61 :: f 62 :: f 63 :: f 64 :: f 65 :: f 66 :: f 67 :: f 68 :: f 69 :: f 70 :: f 71 :: f 72 :: f 73 :: f 74 :: f 75 :: f 76 :: f 77 :: f 78 :: f 79 :: f 80 :: f 81 :: f 82 :: f 83 :: f 84 :: [])), []⟩ ∧ ∀ k, slot a k = f k := letters_sc a hs.size hs.defers
  rw [hf] at e5 e6
  rw [ea, e5, e6]
  have HS := Lib.hid hs
  have HF := Lib.hid hf
  have E5 := Lib.hid e5
  have E6 := Lib.hid e6
  clear hs ea hf hN hl h5 e5 h6 e6
  conv => arg 2; whnf
  go_wp2_with fail
  refine HN.out _ ?_
  exact Sl.add (Sl.stay [0, 4] HS.out HF.out (by kernel_rfl) rfl ⟨by kernel_rfl, by kernel_rfl, trivial⟩ HL.out) (by kernel_rfl)
set_option maxHeartbeats 4000000 in
theorem sc_r21 (a : Act) (w : World) (N : Act → World → Prop) (Q : Exit → Act → World → Prop) (l : List (Nat × Value)) (hs : Sl 85 a l) (hl : (l.map Prod.fst).all (fun k => [0, 4].contains k) = true)
    (s : ByteArray)  (h0 : l.lookup 0 = some (.string s))
    (hN : ∀ a', Sl 85 a' ((5, .int .i64 (s.size : Int)) :: l) → N a' (w)) : (r_sc 21).wp Tryd.prog (Exit.then N Q) a w := by
  have HN := Lib.hid hN
  have HL := Lib.hid hl
  have e0 := hs.look 0 h0
  obtain ⟨f, ea, hf⟩ : ∃ f : Nat → Value, a = ⟨(List.toArray (f 0 :: f 1 :: f 2 :: f 3 :: f 4 :: f 5 :: f 6 :: f 7 :: f 8 :: f 9 :: f 10 :: f 11 :: f 12 :: f 13 :: f 14 :: f 15 :: f 16 :: f 17 :: f 18 :: f 19 :: f 20 :: f 21 :: f 22 :: f 23 :: f 24 :: f 25 :: f 26 :: f 27 :: f 28 :: f 29 :: f 30 :: f 31 :: f 32 :: f 33 :: f 34 :: f 35 :: f 36 :: f 37 :: f 38 :: f 39 :: f 40 :: f 41 :: f 42 :: f 43 :: f 44 :: f 45 :: f 46 :: f 47 :: f 48 :: f 49 :: f 50 :: f 51 :: f 52 :: f 53 :: f 54 :: f 55 :: f 56 :: f 57 :: f 58 :: f 59 :: f 60 :: f 61 :: f 62 :: f 63 :: f 64 :: f 65 :: f 66 :: f 67 :: f 68 :: f 69 :: f 70 :: f 71 :: f 72 :: f 73 :: f 74 :: f 75 :: f 76 :: f 77 :: f 78 :: f 79 :: f 80 :: f 81 :: f 82 :: f 83 :: f 84 :: [])), []⟩ ∧ ∀ k, slot a k = f k := letters_sc a hs.size hs.defers
  rw [hf] at e0
  rw [ea, e0]
  have HS := Lib.hid hs
  have HF := Lib.hid hf
  have E0 := Lib.hid e0
  clear hs ea hf hN hl h0 e0
  conv => arg 2; whnf
  go_wp2_with fail
  refine HN.out _ ?_
  exact Sl.add (Sl.stay [0, 4] HS.out HF.out (by kernel_rfl) rfl ⟨Eq.trans (by kernel_rfl) E0.out.symm, by kernel_rfl, trivial⟩ HL.out) (by kernel_rfl)
set_option maxHeartbeats 4000000 in
theorem sc_r6 (a : Act) (w : World) (N : Act → World → Prop) (Q : Exit → Act → World → Prop) (l : List (Nat × Value)) (hs : Sl 85 a l) (hl : (l.map Prod.fst).all (fun k => [0, 4, 5].contains k) = true)
    (s : ByteArray) (i : Int) (PO : World → Int → ByteArray → Int → Int → Value → Prop) (HC : Calls Tryd.prog 37 #[.string s, .int .i64 i] w fun e w' => ∃ k tx p nx ev, e = .returned (.tuple #[.agg #[.int .i64 k, .string tx, .int .i64 p], .int .i64 nx, ev]) ∧ PO w' k tx p nx ev ∧ Below w.heap.size w w')  (h0 : l.lookup 0 = some (.string s)) (h5 : l.lookup 5 = some (.int .i64 i))
    (hN : ∀ a' w2 k tx p nx ev, Sl 85 a' ((9, ev) :: ((8, .int .i64 nx) :: ((7, .pointer (some ⟨w2.heap.size, 0, none⟩)) :: l))) → PO w2 k tx p nx ev → Below w.heap.size w w2 → N a' (w2.alloc (.cells #[.int .i64 k, .string tx, .int .i64 p] 48))) : (r_sc 6).wp Tryd.prog (Exit.then N Q) a w := by
  have HN := Lib.hid hN
  have HL := Lib.hid hl
  have e0 := hs.look 0 h0
  have e5 := hs.look 5 h5
  obtain ⟨f, ea, hf⟩ : ∃ f : Nat → Value, a = ⟨(List.toArray (f 0 :: f 1 :: f 2 :: f 3 :: f 4 :: f 5 :: f 6 :: f 7 :: f 8 :: f 9 :: f 10 :: f 11 :: f 12 :: f 13 :: f 14 :: f 15 :: f 16 :: f 17 :: f 18 :: f 19 :: f 20 :: f 21 :: f 22 :: f 23 :: f 24 :: f 25 :: f 26 :: f 27 :: f 28 :: f 29 :: f 30 :: f 31 :: f 32 :: f 33 :: f 34 :: f 35 :: f 36 :: f 37 :: f 38 :: f 39 :: f 40 :: f 41 :: f 42 :: f 43 :: f 44 :: f 45 :: f 46 :: f 47 :: f 48 :: f 49 :: f 50 :: f 51 :: f 52 :: f 53 :: f 54 :: f 55 :: f 56 :: f 57 :: f 58 :: f 59 :: f 60 :: f 61 :: f 62 :: f 63 :: f 64 :: f 65 :: f 66 :: f 67 :: f 68 :: f 69 :: f 70 :: f 71 :: f 72 :: f 73 :: f 74 :: f 75 :: f 76 :: f 77 :: f 78 :: f 79 :: f 80 :: f 81 :: f 82 :: f 83 :: f 84 :: [])), []⟩ ∧ ∀ k, slot a k = f k := letters_sc a hs.size hs.defers
  rw [hf] at e0 e5
  rw [ea, e0, e5]
  have HS := Lib.hid hs
  have HF := Lib.hid hf
  have E0 := Lib.hid e0
  have E5 := Lib.hid e5
  clear hs ea hf hN hl h0 e0 h5 e5
  have HC := Lib.hid HC
  conv => arg 2; whnf
  go_wp2_with fail
  refine HC.out.mono ?_
  rintro e w' ⟨k, tx, p, nx, ev, rfl, hpo, hb⟩
  go_wp2_with fail
  refine HN.out _ _ _ _ _ _ _ ?_ hpo hb
  exact Sl.add (Sl.add (Sl.add (Sl.stay [0, 4, 5] HS.out HF.out (by kernel_rfl) rfl ⟨Eq.trans (by kernel_rfl) E0.out.symm, by kernel_rfl, Eq.trans (by kernel_rfl) E5.out.symm, trivial⟩ HL.out) (by kernel_rfl)) (by kernel_rfl)) (by kernel_rfl)
set_option maxHeartbeats 4000000 in
theorem sc_r7n (a : Act) (w : World) (N : Act → World → Prop) (Q : Exit → Act → World → Prop) (l : List (Nat × Value)) (hs : Sl 85 a l) (hl : (l.map Prod.fst).all (fun k => [0, 4, 5, 7, 8, 9].contains k) = true)
     (h9 : l.lookup 9 = some (.pointer none))
    (hN : ∀ a', Sl 85 a' ((27, .bool false) :: l) → N a' (w)) : (r_sc 7).wp Tryd.prog (Exit.then N Q) a w := by
  have HN := Lib.hid hN
  have HL := Lib.hid hl
  have e9 := hs.look 9 h9
  obtain ⟨f, ea, hf⟩ : ∃ f : Nat → Value, a = ⟨(List.toArray (f 0 :: f 1 :: f 2 :: f 3 :: f 4 :: f 5 :: f 6 :: f 7 :: f 8 :: f 9 :: f 10 :: f 11 :: f 12 :: f 13 :: f 14 :: f 15 :: f 16 :: f 17 :: f 18 :: f 19 :: f 20 :: f 21 :: f 22 :: f 23 :: f 24 :: f 25 :: f 26 :: f 27 :: f 28 :: f 29 :: f 30 :: f 31 :: f 32 :: f 33 :: f 34 :: f 35 :: f 36 :: f 37 :: f 38 :: f 39 :: f 40 :: f 41 :: f 42 :: f 43 :: f 44 :: f 45 :: f 46 :: f 47 :: f 48 :: f 49 :: f 50 :: f 51 :: f 52 :: f 53 :: f 54 :: f 55 :: f 56 :: f 57 :: f 58 :: f 59 :: f 60 :: f 61 :: f 62 :: f 63 :: f 64 :: f 65 :: f 66 :: f 67 :: f 68 :: f 69 :: f 70 :: f 71 :: f 72 :: f 73 :: f 74 :: f 75 :: f 76 :: f 77 :: f 78 :: f 79 :: f 80 :: f 81 :: f 82 :: f 83 :: f 84 :: [])), []⟩ ∧ ∀ k, slot a k = f k := letters_sc a hs.size hs.defers
  rw [hf] at e9
  rw [ea, e9]
  have HS := Lib.hid hs
  have HF := Lib.hid hf
  have E9 := Lib.hid e9
  clear hs ea hf hN hl h9 e9
  conv => arg 2; whnf
  go_wp2_with fail
  refine HN.out _ ?_
  exact Sl.add (Sl.stay [0, 4, 5, 7, 8, 9] HS.out HF.out (by kernel_rfl) rfl ⟨by kernel_rfl, by kernel_rfl, by kernel_rfl, by kernel_rfl, by kernel_rfl, Eq.trans (by kernel_rfl) E9.out.symm, trivial⟩ HL.out) (by kernel_rfl)
set_option maxHeartbeats 4000000 in
theorem sc_r7p (a : Act) (w : World) (N : Act → World → Prop) (Q : Exit → Act → World → Prop) (l : List (Nat × Value)) (hs : Sl 85 a l) (hl : (l.map Prod.fst).all (fun k => [0, 4, 5, 7, 8, 9].contains k) = true)
    (g : Nat)  (h9 : l.lookup 9 = some (.pointer (some ⟨g, 0, none⟩)))
    (hN : ∀ a', Sl 85 a' ((27, .bool true) :: l) → N a' (w)) : (r_sc 7).wp Tryd.prog (Exit.then N Q) a w := by
  have HN := Lib.hid hN
  have HL := Lib.hid hl
  have e9 := hs.look 9 h9
  obtain ⟨f, ea, hf⟩ : ∃ f : Nat → Value, a = ⟨(List.toArray (f 0 :: f 1 :: f 2 :: f 3 :: f 4 :: f 5 :: f 6 :: f 7 :: f 8 :: f 9 :: f 10 :: f 11 :: f 12 :: f 13 :: f 14 :: f 15 :: f 16 :: f 17 :: f 18 :: f 19 :: f 20 :: f 21 :: f 22 :: f 23 :: f 24 :: f 25 :: f 26 :: f 27 :: f 28 :: f 29 :: f 30 :: f 31 :: f 32 :: f 33 :: f 34 :: f 35 :: f 36 :: f 37 :: f 38 :: f 39 :: f 40 :: f 41 :: f 42 :: f 43 :: f 44 :: f 45 :: f 46 :: f 47 :: f 48 :: f 49 :: f 50 :: f 51 :: f 52 :: f 53 :: f 54 :: f 55 :: f 56 :: f 57 :: f 58 :: f 59 :: f 60 :: f 61 :: f 62 :: f 63 :: f 64 :: f 65 :: f 66 :: f 67 :: f 68 :: f 69 :: f 70 :: f 71 :: f 72 :: f 73 :: f 74 :: f 75 :: f 76 :: f 77 :: f 78 :: f 79 :: f 80 :: f 81 :: f 82 :: f 83 :: f 84 :: [])), []⟩ ∧ ∀ k, slot a k = f k := letters_sc a hs.size hs.defers
  rw [hf] at e9
  rw [ea, e9]
  have HS := Lib.hid hs
  have HF := Lib.hid hf
  have E9 := Lib.hid e9
  clear hs ea hf hN hl h9 e9
  conv => arg 2; whnf
  go_wp2_with fail
  refine HN.out _ ?_
  exact Sl.add (Sl.stay [0, 4, 5, 7, 8, 9] HS.out HF.out (by kernel_rfl) rfl ⟨by kernel_rfl, by kernel_rfl, by kernel_rfl, by kernel_rfl, by kernel_rfl, Eq.trans (by kernel_rfl) E9.out.symm, trivial⟩ HL.out) (by kernel_rfl)
set_option maxHeartbeats 4000000 in
theorem sc_r8 (a : Act) (w : World) (N : Act → World → Prop) (Q : Exit → Act → World → Prop) (l : List (Nat × Value)) (hs : Sl 85 a l) (hl : (l.map Prod.fst).all (fun k => [].contains k) = true)
    (v : Value)  (h9 : slot a 9 = v)
    (hN : ∀ a', Sl 85 a' ((3, .iface 58 v) :: ((2, .slice none 0 0) :: l)) → N a' (w)) : (r_sc 8).wp Tryd.prog (Exit.then N Q) a w := by
  have HN := Lib.hid hN
  have HL := Lib.hid hl
  have e9 := h9
  obtain ⟨f, ea, hf⟩ : ∃ f : Nat → Value, a = ⟨(List.toArray (f 0 :: f 1 :: f 2 :: f 3 :: f 4 :: f 5 :: f 6 :: f 7 :: f 8 :: f 9 :: f 10 :: f 11 :: f 12 :: f 13 :: f 14 :: f 15 :: f 16 :: f 17 :: f 18 :: f 19 :: f 20 :: f 21 :: f 22 :: f 23 :: f 24 :: f 25 :: f 26 :: f 27 :: f 28 :: f 29 :: f 30 :: f 31 :: f 32 :: f 33 :: f 34 :: f 35 :: f 36 :: f 37 :: f 38 :: f 39 :: f 40 :: f 41 :: f 42 :: f 43 :: f 44 :: f 45 :: f 46 :: f 47 :: f 48 :: f 49 :: f 50 :: f 51 :: f 52 :: f 53 :: f 54 :: f 55 :: f 56 :: f 57 :: f 58 :: f 59 :: f 60 :: f 61 :: f 62 :: f 63 :: f 64 :: f 65 :: f 66 :: f 67 :: f 68 :: f 69 :: f 70 :: f 71 :: f 72 :: f 73 :: f 74 :: f 75 :: f 76 :: f 77 :: f 78 :: f 79 :: f 80 :: f 81 :: f 82 :: f 83 :: f 84 :: [])), []⟩ ∧ ∀ k, slot a k = f k := letters_sc a hs.size hs.defers
  rw [hf] at e9
  rw [ea, e9]
  have HS := Lib.hid hs
  have HF := Lib.hid hf
  have E9 := Lib.hid e9
  clear hs ea hf hN hl h9 e9
  conv => arg 2; whnf
  go_wp2_with fail
  refine HN.out _ ?_
  exact Sl.add (Sl.add (Sl.stay [] HS.out HF.out (by kernel_rfl) rfl trivial HL.out) (by kernel_rfl)) (by kernel_rfl)
set_option maxHeartbeats 4000000 in
theorem sc_r9 (a : Act) (w : World) (N : Act → World → Prop) (Q : Exit → Act → World → Prop) (l : List (Nat × Value)) (hs : Sl 85 a l) (hl : (l.map Prod.fst).all (fun k => [0, 8].contains k) = true)
    (g : Nat) (k p : Int) (tx : ByteArray) (hT : Blk w g 48 #[.int .i64 k, .string tx, .int .i64 p]) (v : Value) (B n : Nat) (xs : List Value) (hown : w.ownsRow B 48 3 v n xs) (hn : n ≤ 1000000) (hB : B ≤ w.heap.size)  (h4 : slot a 4 = v) (h7 : slot a 7 = .pointer (some ⟨g, 0, none⟩))
    (hN : ∀ a' w' v', Sl 85 a' ((4, v') :: l) → w'.ownsRow B 48 3 v' (n + 1) (xs ++ [.int .i64 k, .string tx, .int .i64 p]) → Below B w w' → N a' w') : (r_sc 9).wp Tryd.prog (Exit.then N Q) a w := by
  have HN := Lib.hid hN
  have HL := Lib.hid hl
  have e4 := h4
  have e7 := h7
  obtain ⟨f, ea, hf⟩ : ∃ f : Nat → Value, a = ⟨(List.toArray (f 0 :: f 1 :: f 2 :: f 3 :: f 4 :: f 5 :: f 6 :: f 7 :: f 8 :: f 9 :: f 10 :: f 11 :: f 12 :: f 13 :: f 14 :: f 15 :: f 16 :: f 17 :: f 18 :: f 19 :: f 20 :: f 21 :: f 22 :: f 23 :: f 24 :: f 25 :: f 26 :: f 27 :: f 28 :: f 29 :: f 30 :: f 31 :: f 32 :: f 33 :: f 34 :: f 35 :: f 36 :: f 37 :: f 38 :: f 39 :: f 40 :: f 41 :: f 42 :: f 43 :: f 44 :: f 45 :: f 46 :: f 47 :: f 48 :: f 49 :: f 50 :: f 51 :: f 52 :: f 53 :: f 54 :: f 55 :: f 56 :: f 57 :: f 58 :: f 59 :: f 60 :: f 61 :: f 62 :: f 63 :: f 64 :: f 65 :: f 66 :: f 67 :: f 68 :: f 69 :: f 70 :: f 71 :: f 72 :: f 73 :: f 74 :: f 75 :: f 76 :: f 77 :: f 78 :: f 79 :: f 80 :: f 81 :: f 82 :: f 83 :: f 84 :: [])), []⟩ ∧ ∀ k, slot a k = f k := letters_sc a hs.size hs.defers
  rw [hf] at e4 e7
  rw [ea, e4, e7]
  have HS := Lib.hid hs
  have HF := Lib.hid hf
  have E4 := Lib.hid e4
  have E7 := Lib.hid e7
  clear hs ea hf hN hl h4 e4 h7 e7
  obtain ⟨i0, hi0, hz0, hz1, hz2⟩ := info_parts info_tok
  have HO := Lib.hid (hown.alloc (.cells #[.int .i64 k, .string tx, .int .i64 p] 48))
  have HN2 := Lib.hid (news_three w 48 (.int .i64 k) (.string tx) (.int .i64 p))
  clear hown
  have hTK := Lib.hid hT
  have c0 := hT.cell 0
  have c1 := hT.cell 1
  have c2 := hT.cell 2
  simp at c0 c1 c2
  have hfz := fun j => hT.frozen j
  have hTlt := hT.lt
  clear hT
  conv => arg 2; whnf
  go_wp2_with (at_builtin; refine wpList_append_own _ rfl (.tmp 30) (.tmp 32) 23 rfl B 48 i0 _ 3 32 Tryd.underlying23 hi0 hz0 hz1 hz2 rfl (by decide) v n xs rfl HO.out ⟨w.heap.size, 0, none⟩ 1 1 [.int .i64 k, .string tx, .int .i64 p] rfl rfl HN2.out (by simp [Value.oneCell']) (by unfold maxLen; omega) (by omega) (by simp; omega) ?_; intro v' w' hown' hgrow _)
  refine HN.out _ _ _ ?_ hown' ((app_below HO.out hB hgrow))
  exact Sl.add (Sl.stay [0, 8] HS.out HF.out (by kernel_rfl) rfl ⟨by kernel_rfl, by kernel_rfl, trivial⟩ HL.out) (by kernel_rfl)
set_option maxHeartbeats 4000000 in
theorem sc_r10 (a : Act) (w : World) (N : Act → World → Prop) (Q : Exit → Act → World → Prop) (l : List (Nat × Value)) (hs : Sl 85 a l) (hl : (l.map Prod.fst).all (fun k => [0, 4].contains k) = true)
    (n : Int)  (h8 : slot a 8 = .int .i64 n)
    (hN : ∀ a', Sl 85 a' ((5, .int .i64 n) :: l) → N a' (w)) : (r_sc 10).wp Tryd.prog (Exit.then N Q) a w := by
  have HN := Lib.hid hN
  have HL := Lib.hid hl
  have e8 := h8
  obtain ⟨f, ea, hf⟩ : ∃ f : Nat → Value, a = ⟨(List.toArray (f 0 :: f 1 :: f 2 :: f 3 :: f 4 :: f 5 :: f 6 :: f 7 :: f 8 :: f 9 :: f 10 :: f 11 :: f 12 :: f 13 :: f 14 :: f 15 :: f 16 :: f 17 :: f 18 :: f 19 :: f 20 :: f 21 :: f 22 :: f 23 :: f 24 :: f 25 :: f 26 :: f 27 :: f 28 :: f 29 :: f 30 :: f 31 :: f 32 :: f 33 :: f 34 :: f 35 :: f 36 :: f 37 :: f 38 :: f 39 :: f 40 :: f 41 :: f 42 :: f 43 :: f 44 :: f 45 :: f 46 :: f 47 :: f 48 :: f 49 :: f 50 :: f 51 :: f 52 :: f 53 :: f 54 :: f 55 :: f 56 :: f 57 :: f 58 :: f 59 :: f 60 :: f 61 :: f 62 :: f 63 :: f 64 :: f 65 :: f 66 :: f 67 :: f 68 :: f 69 :: f 70 :: f 71 :: f 72 :: f 73 :: f 74 :: f 75 :: f 76 :: f 77 :: f 78 :: f 79 :: f 80 :: f 81 :: f 82 :: f 83 :: f 84 :: [])), []⟩ ∧ ∀ k, slot a k = f k := letters_sc a hs.size hs.defers
  rw [hf] at e8
  rw [ea, e8]
  have HS := Lib.hid hs
  have HF := Lib.hid hf
  have E8 := Lib.hid e8
  clear hs ea hf hN hl h8 e8
  conv => arg 2; whnf
  go_wp2_with fail
  refine HN.out _ ?_
  exact Sl.add (Sl.stay [0, 4] HS.out HF.out (by kernel_rfl) rfl ⟨by kernel_rfl, by kernel_rfl, trivial⟩ HL.out) (by kernel_rfl)
set_option maxHeartbeats 4000000 in
theorem sc_r22 (a : Act) (w : World) (N : Act → World → Prop) (Q : Exit → Act → World → Prop) (l : List (Nat × Value)) (hs : Sl 85 a l) (hl : (l.map Prod.fst).all (fun k => [].contains k) = true)
    (v : Value)  (h4 : slot a 4 = v)
    (hN : ∀ a', Sl 85 a' ((3, .nilIface) :: ((2, v) :: l)) → N a' (w)) : (r_sc 22).wp Tryd.prog (Exit.then N Q) a w := by
  have HN := Lib.hid hN
  have HL := Lib.hid hl
  have e4 := h4
  obtain ⟨f, ea, hf⟩ : ∃ f : Nat → Value, a = ⟨(List.toArray (f 0 :: f 1 :: f 2 :: f 3 :: f 4 :: f 5 :: f 6 :: f 7 :: f 8 :: f 9 :: f 10 :: f 11 :: f 12 :: f 13 :: f 14 :: f 15 :: f 16 :: f 17 :: f 18 :: f 19 :: f 20 :: f 21 :: f 22 :: f 23 :: f 24 :: f 25 :: f 26 :: f 27 :: f 28 :: f 29 :: f 30 :: f 31 :: f 32 :: f 33 :: f 34 :: f 35 :: f 36 :: f 37 :: f 38 :: f 39 :: f 40 :: f 41 :: f 42 :: f 43 :: f 44 :: f 45 :: f 46 :: f 47 :: f 48 :: f 49 :: f 50 :: f 51 :: f 52 :: f 53 :: f 54 :: f 55 :: f 56 :: f 57 :: f 58 :: f 59 :: f 60 :: f 61 :: f 62 :: f 63 :: f 64 :: f 65 :: f 66 :: f 67 :: f 68 :: f 69 :: f 70 :: f 71 :: f 72 :: f 73 :: f 74 :: f 75 :: f 76 :: f 77 :: f 78 :: f 79 :: f 80 :: f 81 :: f 82 :: f 83 :: f 84 :: [])), []⟩ ∧ ∀ k, slot a k = f k := letters_sc a hs.size hs.defers
  rw [hf] at e4
  rw [ea, e4]
  have HS := Lib.hid hs
  have HF := Lib.hid hf
  have E4 := Lib.hid e4
  clear hs ea hf hN hl h4 e4
  conv => arg 2; whnf
  go_wp2_with fail
  refine HN.out _ ?_
  exact Sl.add (Sl.add (Sl.stay [] HS.out HF.out (by kernel_rfl) rfl trivial HL.out) (by kernel_rfl)) (by kernel_rfl)
end Go.Proofs.YtpggcmlddmckcaaDoor

namespace Go.Proofs.YtpggcmlddmckcaaDoor
open Go.RowKit Go.Sort
set_option maxRecDepth 100000

theorem one_good (at0 : Nat) (l : List UInt8) (x : Tok × Nat) (e : oneL at0 l = .ok x) : TokGood x.1 := by
  cases l with
  | nil => cases e
  | cons c r =>
    by_cases h59 : c = 59
    · subst h59; rw [oneL, if_pos rfl] at e; injection e with e; subst e; exact ⟨fun h => by simp at h, fun h => by simp at h⟩
    by_cases h34 : c = 34
    · rw [oneL, if_neg h59, if_pos h34] at e
      cases h : litL at0 (at0 + 1) [] r with
      | bad b => rw [h] at e; cases e
      | ok y => rw [h] at e; injection e with e; subst e; exact ⟨fun h => by simp at h, fun h => by simp at h⟩
    have hw := (one_stands at0 c r x h34 h59 e).2.2.2.2.2.2
    refine ⟨fun h => (wordB_iff _).1 (by rw [hw, h]; rfl), fun h => ?_⟩
    rw [oneL, if_neg h59, if_neg h34] at e
    by_cases h3 : isDig c = true
    · rw [if_pos h3] at e
      split at e
      · cases e
      · injection e with e
        subst e
        exfalso
        revert h
        show (numT at0 (c :: r)).kind = 7 → False
        unfold numT
        split <;> simp
    rw [if_neg h3] at e
    by_cases h4 : isLet c = true
    · rw [if_pos h4] at e
      split at e
      · cases e
      · injection e with e
        subst e
        exfalso
        revert h
        show (if wordB ((c :: r).take (runL true (c :: r))) = true then 3 else 2) = 7 → False
        split <;> simp
    rw [if_neg h4] at e
    cases hf : signsL.find? (fun x => x.isPrefixOf (c :: r)) with
    | none => rw [hf] at e; cases e
    | some y =>
      rw [hf] at e
      injection e with e
      subst e
      exact List.mem_of_find?_eq_some hf
theorem index_rem : ∀ l : List UInt8, (remL l < l.length ∧ Lib.indexByte l 10 = remL l) ∨ (remL l = l.length ∧ Lib.indexByte l 10 = -1)
  | [] => .inr ⟨rfl, rfl⟩
  | c :: l => by
    have ih := index_rem l
    unfold remL at ih ⊢
    unfold Lib.indexByte
    rw [List.takeWhile_cons]
    by_cases h : c = 10
    · subst h
      simp
    · have hb : (c == 10) = false := by simpa using h
      have hd : decide (c ≠ 10) = true := by simpa using h
      rw [hb, hd]
      simp only [if_true, Bool.false_eq_true, if_false]
      rcases ih with ⟨h1, h2⟩ | ⟨h1, h2⟩
      · refine .inl ⟨by simp only [List.length_cons]; omega, ?_⟩
        have hn : (Lib.indexByte l 10 == -1) = false := by rw [h2, beq_eq_false_iff_ne]; omega
        rw [hn, h2]
        simp
      · refine .inr ⟨by simp only [List.length_cons]; omega, ?_⟩
        rw [h2]
        rfl
theorem rem_pre (c : UInt8) (r : List UInt8) : Lib.hasPrefix (c :: r) [47, 47] = decide (c = 47 ∧ r.head? = some 47) := by
  unfold Lib.hasPrefix
  cases r with
  | nil => simp [List.isPrefixOf]
  | cons d r =>
    rw [Bool.eq_iff_iff]
    simp [List.isPrefixOf]
    constructor
    · rintro ⟨h1, h2⟩; exact ⟨h1.symm, h2.symm⟩
    · rintro ⟨h1, h2⟩; exact ⟨h1.symm, h2.symm⟩
theorem map_map' {A B C : Type} (f : A → B) (g : B → C) (r : Ans A) : (r.map f).map g = r.map (fun x => g (f x)) := by cases r <;> rfl
theorem map_id' {A : Type} (r : Ans A) : r.map (fun x => x) = r := by cases r <;> rfl

/-- How far a scan is: at place i, with the tokens ts. -/
def Far (s : List UInt8) (i : Nat) (ts : List Tok) : Prop := (i ≤ s.length ∧ scanL 0 false s = (scanL i (lastE ts) (s.drop i)).map (ts ++ ·)) ∨ (i = s.length + 1 ∧ scanL 0 false s = .ok ts)
theorem Far.start (s : List UInt8) : Far s 0 [] := .inl ⟨Nat.zero_le _, by
  rw [List.drop_zero]
  show _ = (scanL 0 false s).map fun x => x
  rw [map_id']⟩
theorem Far.open {s : List UInt8} {i : Nat} {ts : List Tok} {c : UInt8} {r : List UInt8} (h : Far s i ts) (hi : i < s.length) (hd : s.drop i = c :: r) : scanL 0 false s = (scanL i (lastE ts) (c :: r)).map (ts ++ ·) := by
  rcases h with ⟨_, h⟩ | ⟨h, _⟩
  · rw [← hd]; exact h
  · omega
theorem drop_more {s : List UInt8} {i : Nat} {c : UInt8} {r : List UInt8} (hd : s.drop i = c :: r) (k : Nat) : s.drop (i + 1 + k) = r.drop k := by
  rw [Nat.add_assoc, ← List.drop_drop, hd, Nat.add_comm, List.drop_succ_cons]
theorem Far.last {s : List UInt8} {ts : List Tok} (h : Far s s.length ts) : Far s (s.length + 1) (if lastE ts then ts ++ [⟨1, [], s.length⟩] else ts) := by
  rcases h with ⟨_, h⟩ | ⟨h, _⟩
  · refine .inr ⟨rfl, ?_⟩
    rw [h, List.drop_of_length_le (Nat.le_refl _), scanL]
    cases lastE ts
    · show Ans.ok (ts ++ []) = _
      rw [List.append_nil]; rfl
    · rfl
  · omega
theorem Far.feed {s : List UInt8} {i : Nat} {ts : List Tok} {r : List UInt8} (h : Far s i ts) (hi : i < s.length) (hd : s.drop i = 10 :: r) : Far s (i + 1) (if lastE ts then ts ++ [⟨1, [], i⟩] else ts) := by
  have h := h.open hi hd
  refine .inl ⟨by omega, ?_⟩
  rw [h, scanL, if_pos rfl, show s.drop (i + 1) = r by simpa using drop_more hd 0]
  cases hl : lastE ts with
  | false =>
    rw [if_neg (by decide), if_neg (by decide), hl]
  | true =>
    rw [if_pos rfl, if_pos rfl, lastE_snoc, map_map']
    show _ = (scanL (i + 1) false r).map _
    congr 1
    funext x
    simp
theorem Far.blank {s : List UInt8} {i : Nat} {ts : List Tok} {c : UInt8} {r : List UInt8} (h : Far s i ts) (hi : i < s.length) (hd : s.drop i = c :: r) (h10 : c ≠ 10) (hc : c = 32 ∨ c = 9) : Far s (i + 1) ts := by
  have h := h.open hi hd
  refine .inl ⟨by omega, ?_⟩
  rw [h, scanL, if_neg h10, if_pos hc, show s.drop (i + 1) = r by simpa using drop_more hd 0]
theorem Far.remark {s : List UInt8} {i : Nat} {ts : List Tok} {c : UInt8} {r : List UInt8} (h : Far s i ts) (hi : i < s.length) (hd : s.drop i = c :: r) (h10 : c ≠ 10) (hc : ¬ (c = 32 ∨ c = 9)) (h47 : c = 47 ∧ r.head? = some 47) : Far s (i + 1 + remL r) ts := by
  have h := h.open hi hd
  have hl : r.length + 1 = s.length - i := by
    have := congrArg List.length hd
    simp at this
    omega
  have hr : remL r ≤ r.length := by
    rcases index_rem r with h | h <;> omega
  refine .inl ⟨by omega, ?_⟩
  rw [h, scanL, if_neg h10, if_neg hc, if_pos h47, drop_more hd]
theorem Far.token {s : List UInt8} {i : Nat} {ts : List Tok} {c : UInt8} {r : List UInt8} (h : Far s i ts) (hi : i < s.length) (hd : s.drop i = c :: r) (h10 : c ≠ 10) (hc : ¬ (c = 32 ∨ c = 9)) (h47 : ¬ (c = 47 ∧ r.head? = some 47)) {x : Tok × Nat} (e : oneL i (c :: r) = .ok x) : Far s (i + x.2) (ts ++ [x.1]) := by
  have h := h.open hi hd
  have hl : r.length + 1 = s.length - i := by
    have := congrArg List.length hd
    simp at this
    omega
  have hx := one_len i _ x e
  simp only [List.length_cons] at hx
  refine .inl ⟨by omega, ?_⟩
  rw [h, scanL, if_neg h10, if_neg hc, if_neg h47, e]
  show Ans.map _ (Ans.map _ _) = _
  rw [map_map', lastE_snoc, show i + 1 + (x.2 - 1) = i + x.2 by omega, ← drop_more hd, show i + 1 + (x.2 - 1) = i + x.2 by omega]
  congr 1
  funext y
  simp
theorem Far.wrong {s : List UInt8} {i : Nat} {ts : List Tok} {c : UInt8} {r : List UInt8} (h : Far s i ts) (hi : i < s.length) (hd : s.drop i = c :: r) (h10 : c ≠ 10) (hc : ¬ (c = 32 ∨ c = 9)) (h47 : ¬ (c = 47 ∧ r.head? = some 47)) {b : Bad} (e : oneL i (c :: r) = .bad b) : scanL 0 false s = .bad b := by
  rw [h.open hi hd, scanL, if_neg h10, if_neg hc, if_neg h47, e]
  rfl
theorem Far.done {s : List UInt8} {i : Nat} {ts : List Tok} (h : Far s i ts) (hi : s.length < i) : scanL 0 false s = .ok ts := by
  rcases h with ⟨h, _⟩ | ⟨_, h⟩
  · omega
  · exact h

/-- What a scan hands back. -/
def ScanR (r : Ans (List Tok)) (w : World) (e : Ending) (w' : World) : Prop := Below w.heap.size w w' ∧ match r with
  | .ok ts => ∃ v, e = .returned (.tuple #[v, .nilIface]) ∧ Toks w' w.heap.size v ts
  | .bad b => ∃ g, e = .returned (.tuple #[.slice none 0 0, .iface 58 (.pointer (some ⟨g, 0, none⟩))]) ∧ WrongB w w' g b
theorem ScanR.ok {ts : List Tok} {w w' : World} {e : Ending} (hb : Below w.heap.size w w') (v : Value) (he : e = .returned (.tuple #[v, .nilIface])) (ht : Toks w' w.heap.size v ts) : ScanR (.ok ts) w e w' := ⟨hb, v, he, ht⟩
theorem ScanR.bad {b : Bad} {w w' : World} {e : Ending} (hb : Below w.heap.size w w') (g : Nat) (he : e = .returned (.tuple #[.slice none 0 0, .iface 58 (.pointer (some ⟨g, 0, none⟩))])) (hg : WrongB w w' g b) : ScanR (.bad b) w e w' := ⟨hb, g, he, hg⟩
end Go.Proofs.YtpggcmlddmckcaaDoor
