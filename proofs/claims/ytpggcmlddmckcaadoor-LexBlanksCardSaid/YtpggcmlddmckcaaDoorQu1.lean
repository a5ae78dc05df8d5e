/-
  The regions of package lex's Quote, one by one. Written by an AI agent.
-/
import Derived.Test.YtpggcmlddmckcaaDoorUq2
namespace Go.Proofs.YtpggcmlddmckcaaDoor
open Go.RowKit Go.Sort
set_option maxRecDepth 100000
theorem letters_qu (a : Act) (h1 : a.tmps.size = 60) (h2 : a.defers = []) : ∃ f : Nat → Value, a = ⟨(List.toArray (f 0 :: f 1 :: f 2 :: f 3 :: f 4 :: f 5 :: f 6 :: f 7 :: f 8 :: f 9 :: f 10 :: f 11 :: f 12 :: f 13 :: f 14 :: f 15 :: f 16 :: f 17 :: f 18 :: f 19 :: f 20 :: f 21 :: f 22 :: f 23 :: f 24 :: f 25 :: f 26 :: f 27 :: f 28 :: f 29 :: f 30 :: f 31 :: f 32 :: f 33 :: f 34 :: f 35 :: f 36 :: f 37 :: f 38 :: f 39 :: f 40 :: f 41 :: f 42 :: f 43 :: f 44 :: f 45 :: f 46 :: f 47 :: f 48 :: f 49 :: f 50 :: f 51 :: f 52 :: f 53 :: f 54 :: f 55 :: f 56 :: f 57 :: f 58 :: f 59 :: [])), []⟩ ∧ ∀ k, slot a k = f k :=
  ⟨slot a, (spread a 60 h1 h2).trans (by kernel_rfl), fun _ => rfl⟩
noncomputable def r_qu (n : Nat) : Code := ((Tryd.f19.body.bind (findR n)).getD .skip)
theorem news_arr (w : World) (t : TypeId) (cs : Array Value) : ∀ (q : Nat) (u : Value), cs.toList[q]? = some u → (w.alloc (.cells cs t)).cell? ((⟨w.heap.size, 0, none⟩ : Addr).add q) = some u := fun q u h => by
  rw [Array.getElem?_toList] at h
  have := (Blk.new w t cs).cell q
  rw [h] at this
  rw [show (⟨w.heap.size, 0, none⟩ : Addr).add q = ⟨w.heap.size, q, none⟩ by simp [Addr.add]; omega]
  exact this
theorem app_far {w w' : World} {o : Obj} {r : Option Nat} (hg : (w.alloc o).grownBy w' r) (k : Nat) (hk : k < w.heap.size) (hr : r ≠ some k) : w'.heap[k]? = w.heap[k]? :=
  (hg.block k (by simp; omega) hr.symm).trans (Below.heap_alloc _ _ _ (by omega))
theorem grown_drew {w w' : World} {r : Option Nat} (h : w.drew.grownBy w' r) : w.grownBy w' r := ⟨h.os, h.tape, h.output, h.size, h.block⟩
theorem app_far0 {w w' : World} {r : Option Nat} (hg : w.grownBy w' r) (k : Nat) (hk : k < w.heap.size) (hr : r ≠ some k) : w'.heap[k]? = w.heap[k]? := hg.block k hk hr.symm
theorem app_below0 {w w' : World} {B n sz : Nat} {t : TypeId} {v : Value} {xs : List Value} (ho : w.ownsRow B t sz v n xs) (hB : B ≤ w.heap.size) (hg : w.grownBy w' v.ownBlock) : Below B w w' :=
  ⟨hg.os, hg.tape, hg.output, hg.size, fun k hk => hg.block k (by omega) (fun e => by have := (ho.lt k e.symm).1; omega)⟩
set_option maxHeartbeats 4000000 in
theorem qu_r0 (a : Act) (w : World) (N : Act → World → Prop) (Q : Exit → Act → World → Prop) (l : List (Nat × Value)) (hs : Sl 60 a l) (hl : (l.map Prod.fst).all (fun k => [0].contains k) = true)
     
    (hN : ∀ a', Sl 60 a' ((2, .string ⟨#[]⟩) :: l) → N a' (w)) : (r_qu 0).wp Tryd.prog (Exit.then N Q) a w := by
  have HN := Lib.hid hN
  have HL := Lib.hid hl
  obtain ⟨f, ea, hf⟩ : ∃ f : Nat → Value, a = ⟨(List.toArray (f 0 :: f 1 :: f 2 :: f 3 :: f 4 :: f 5 :: f 6 :: f 7 :: f 8 :: f 9 :: f 10 :: f 11 :: f 12 :: f 13 :: f 14 :: f 15 :: f 16 :: f 17 :: f 18 :: f 19 :: f 20 :: f 21 :: f 22 :: f 23 :: f 24 :: f 25 :: f 26 :: f 27 :: f 28 :: f 29 :: f 30 :: f 31 :: f 32 :: f 33 :: f 34 :: f 35 :: f 36 :: f 37 :: f 38 :: f 39 :: f 40 :: f 41 :: f 42 :: f 43 :: f 44 :: f 45 :: f 46 :: f 47 :: f 48 :: f 49 :: f 50 :: f 51 :: f 52 :: f 53 :: f 54 :: f 55 :: f 56 :: f 57 :: f 58 :: f 59 :: [])), []⟩ ∧ ∀ k, slot a k = f k := letters_qu a hs.size hs.defers
  rw [ea]
  have HS := Lib.hid hs
  have HF := Lib.hid hf
  clear hs ea hf hN hl 
  conv => arg 2; whnf
  go_wp2_with fail
  refine HN.out _ ?_
  exact Sl.add (Sl.stay [0] HS.out HF.out (by kernel_rfl) rfl ⟨by kernel_rfl, trivial⟩ HL.out) (by kernel_rfl)
set_option maxHeartbeats 4000000 in
theorem qu_r1 (a : Act) (w : World) (N : Act → World → Prop) (Q : Exit → Act → World → Prop) (l : List (Nat × Value)) (hs : Sl 60 a l) (hl : (l.map Prod.fst).all (fun k => [0].contains k) = true)
     
    (hN : ∀ a', Sl 60 a' ((3, .slice (some ⟨w.heap.size, 0, none⟩) 1 1) :: l) → N a' (w.alloc (.cells #[.int .u8 34] 5))) : (r_qu 1).wp Tryd.prog (Exit.then N Q) a w := by
  have HN := Lib.hid hN
  have HL := Lib.hid hl
  obtain ⟨f, ea, hf⟩ : ∃ f : Nat → Value, a = ⟨(List.toArray (f 0 :: f 1 :: f 2 :: f 3 :: f 4 :: f 5 :: f 6 :: f 7 :: f 8 :: f 9 :: f 10 :: f 11 :: f 12 :: f 13 :: f 14 :: f 15 :: f 16 :: f 17 :: f 18 :: f 19 :: f 20 :: f 21 :: f 22 :: f 23 :: f 24 :: f 25 :: f 26 :: f 27 :: f 28 :: f 29 :: f 30 :: f 31 :: f 32 :: f 33 :: f 34 :: f 35 :: f 36 :: f 37 :: f 38 :: f 39 :: f 40 :: f 41 :: f 42 :: f 43 :: f 44 :: f 45 :: f 46 :: f 47 :: f 48 :: f 49 :: f 50 :: f 51 :: f 52 :: f 53 :: f 54 :: f 55 :: f 56 :: f 57 :: f 58 :: f 59 :: [])), []⟩ ∧ ∀ k, slot a k = f k := letters_qu a hs.size hs.defers
  rw [ea]
  have HS := Lib.hid hs
  have HF := Lib.hid hf
  clear hs ea hf hN hl 
  conv => arg 2; whnf
  go_wp2_with fail
  refine HN.out _ ?_
  exact Sl.add (Sl.stay [0] HS.out HF.out (by kernel_rfl) rfl ⟨by kernel_rfl, trivial⟩ HL.out) (by kernel_rfl)
set_option maxHeartbeats 4000000 in
theorem qu_r2 (a : Act) (w : World) (N : Act → World → Prop) (Q : Exit → Act → World → Prop) (l : List (Nat × Value)) (hs : Sl 60 a l) (hl : (l.map Prod.fst).all (fun k => [0, 3].contains k) = true)
    (s : ByteArray) (W : World) (cap : Nat) (hc : (convert 9 52 (.string s)).run Tryd.prog w = .ok (.slice (some ⟨w.heap.size, 0, none⟩) s.size cap) W)  (h0 : l.lookup 0 = some (.string s))
    (hN : ∀ a', Sl 60 a' ((10, .int .i64 0) :: ((9, .int .i64 (s.size : Int)) :: ((8, .slice (some ⟨w.heap.size, 0, none⟩) s.size cap) :: l))) → N a' (W)) : (r_qu 2).wp Tryd.prog (Exit.then N Q) a w := by
  have HN := Lib.hid hN
  have HL := Lib.hid hl
  have e0 := hs.look 0 h0
  obtain ⟨f, ea, hf⟩ : ∃ f : Nat → Value, a = ⟨(List.toArray (f 0 :: f 1 :: f 2 :: f 3 :: f 4 :: f 5 :: f 6 :: f 7 :: f 8 :: f 9 :: f 10 :: f 11 :: f 12 :: f 13 :: f 14 :: f 15 :: f 16 :: f 17 :: f 18 :: f 19 :: f 20 :: f 21 :: f 22 :: f 23 :: f 24 :: f 25 :: f 26 :: f 27 :: f 28 :: f 29 :: f 30 :: f 31 :: f 32 :: f 33 :: f 34 :: f 35 :: f 36 :: f 37 :: f 38 :: f 39 :: f 40 :: f 41 :: f 42 :: f 43 :: f 44 :: f 45 :: f 46 :: f 47 :: f 48 :: f 49 :: f 50 :: f 51 :: f 52 :: f 53 :: f 54 :: f 55 :: f 56 :: f 57 :: f 58 :: f 59 :: [])), []⟩ ∧ ∀ k, slot a k = f k := letters_qu a hs.size hs.defers
  rw [hf] at e0
  rw [ea, e0]
  have HS := Lib.hid hs
  have HF := Lib.hid hf
  have E0 := Lib.hid e0
  clear hs ea hf hN hl h0 e0
  conv => arg 2; whnf
  go_wp2_with fail
  refine HN.out _ ?_
  exact Sl.add (Sl.add (Sl.add (Sl.stay [0, 3] HS.out HF.out (by kernel_rfl) rfl ⟨Eq.trans (by kernel_rfl) E0.out.symm, by kernel_rfl, trivial⟩ HL.out) (by kernel_rfl)) (by kernel_rfl)) (by kernel_rfl)
set_option maxHeartbeats 4000000 in
theorem qu_r3t (a : Act) (w : World) (N : Act → World → Prop) (Q : Exit → Act → World → Prop) (l : List (Nat × Value)) (hs : Sl 60 a l) (hl : (l.map Prod.fst).all (fun k => [0, 3, 8, 9, 10].contains k) = true)
    (i n : Int) (h : decide (i < n) = true)  (h9 : l.lookup 9 = some (.int .i64 n)) (h10 : l.lookup 10 = some (.int .i64 i))
    (hN : ∀ a', Sl 60 a' ((11, .bool true) :: l) → N a' (w)) : (r_qu 3).wp Tryd.prog (Exit.then N Q) a w := by
  have HN := Lib.hid hN
  have HL := Lib.hid hl
  have e9 := hs.look 9 h9
  have e10 := hs.look 10 h10
  obtain ⟨f, ea, hf⟩ : ∃ f : Nat → Value, a = ⟨(List.toArray (f 0 :: f 1 :: f 2 :: f 3 :: f 4 :: f 5 :: f 6 :: f 7 :: f 8 :: f 9 :: f 10 :: f 11 :: f 12 :: f 13 :: f 14 :: f 15 :: f 16 :: f 17 :: f 18 :: f 19 :: f 20 :: f 21 :: f 22 :: f 23 :: f 24 :: f 25 :: f 26 :: f 27 :: f 28 :: f 29 :: f 30 :: f 31 :: f 32 :: f 33 :: f 34 :: f 35 :: f 36 :: f 37 :: f 38 :: f 39 :: f 40 :: f 41 :: f 42 :: f 43 :: f 44 :: f 45 :: f 46 :: f 47 :: f 48 :: f 49 :: f 50 :: f 51 :: f 52 :: f 53 :: f 54 :: f 55 :: f 56 :: f 57 :: f 58 :: f 59 :: [])), []⟩ ∧ ∀ k, slot a k = f k := letters_qu a hs.size hs.defers
  rw [hf] at e9 e10
  rw [ea, e9, e10]
  have HS := Lib.hid hs
  have HF := Lib.hid hf
  have E9 := Lib.hid e9
  have E10 := Lib.hid e10
  clear hs ea hf hN hl h9 e9 h10 e10
  have h := of_decide_eq_true h
  conv => arg 2; whnf
  go_wp2_with fail
  refine HN.out _ ?_
  exact Sl.add (Sl.stay [0, 3, 8, 9, 10] HS.out HF.out (by kernel_rfl) rfl ⟨by kernel_rfl, by kernel_rfl, by kernel_rfl, Eq.trans (by kernel_rfl) E9.out.symm, Eq.trans (by kernel_rfl) E10.out.symm, trivial⟩ HL.out) (by kernel_rfl)
set_option maxHeartbeats 4000000 in
theorem qu_r3f (a : Act) (w : World) (N : Act → World → Prop) (Q : Exit → Act → World → Prop) (l : List (Nat × Value)) (hs : Sl 60 a l) (hl : (l.map Prod.fst).all (fun k => [0, 3, 8, 9, 10].contains k) = true)
    (i n : Int) (h : decide (i < n) = false)  (h9 : l.lookup 9 = some (.int .i64 n)) (h10 : l.lookup 10 = some (.int .i64 i))
    (hN : ∀ a', Sl 60 a' ((11, .bool false) :: l) → N a' (w)) : (r_qu 3).wp Tryd.prog (Exit.then N Q) a w := by
  have HN := Lib.hid hN
  have HL := Lib.hid hl
  have e9 := hs.look 9 h9
  have e10 := hs.look 10 h10
  obtain ⟨f, ea, hf⟩ : ∃ f : Nat → Value, a = ⟨(List.toArray (f 0 :: f 1 :: f 2 :: f 3 :: f 4 :: f 5 :: f 6 :: f 7 :: f 8 :: f 9 :: f 10 :: f 11 :: f 12 :: f 13 :: f 14 :: f 15 :: f 16 :: f 17 :: f 18 :: f 19 :: f 20 :: f 21 :: f 22 :: f 23 :: f 24 :: f 25 :: f 26 :: f 27 :: f 28 :: f 29 :: f 30 :: f 31 :: f 32 :: f 33 :: f 34 :: f 35 :: f 36 :: f 37 :: f 38 :: f 39 :: f 40 :: f 41 :: f 42 :: f 43 :: f 44 :: f 45 :: f 46 :: f 47 :: f 48 :: f 49 :: f 50 :: f 51 :: f 52 :: f 53 :: f 54 :: f 55 :: f 56 :: f 57 :: f 58 :: f 59 :: [])), []⟩ ∧ ∀ k, slot a k = f k := letters_qu a hs.size hs.defers
  rw [hf] at e9 e10
  rw [ea, e9, e10]
  have HS := Lib.hid hs
  have HF := Lib.hid hf
  have E9 := Lib.hid e9
  have E10 := Lib.hid e10
  clear hs ea hf hN hl h9 e9 h10 e10
  conv => arg 2; whnf
  go_wp2_with fail
  refine HN.out _ ?_
  exact Sl.add (Sl.stay [0, 3, 8, 9, 10] HS.out HF.out (by kernel_rfl) rfl ⟨by kernel_rfl, by kernel_rfl, by kernel_rfl, Eq.trans (by kernel_rfl) E9.out.symm, Eq.trans (by kernel_rfl) E10.out.symm, trivial⟩ HL.out) (by kernel_rfl)
set_option maxHeartbeats 4000000 in
theorem qu_r4 (a : Act) (w : World) (N : Act → World → Prop) (Q : Exit → Act → World → Prop) (l : List (Nat × Value)) (hs : Sl 60 a l) (hl : (l.map Prod.fst).all (fun k => [0, 3, 8, 9, 10].contains k) = true)
    (g n cap : Nat) (i : Nat) (c : Int) (hin : (i : Int) < (n : Int)) (hc : w.cell? ⟨g, i, none⟩ = some (.int .u8 c))  (h8 : l.lookup 8 = some (.slice (some ⟨g, 0, none⟩) n cap)) (h10 : l.lookup 10 = some (.int .i64 i))
    (hN : ∀ a', Sl 60 a' ((5, .int .u8 c) :: l) → N a' (w)) : (r_qu 4).wp Tryd.prog (Exit.then N Q) a w := by
  have HN := Lib.hid hN
  have HL := Lib.hid hl
  have e8 := hs.look 8 h8
  have e10 := hs.look 10 h10
  obtain ⟨f, ea, hf⟩ : ∃ f : Nat → Value, a = ⟨(List.toArray (f 0 :: f 1 :: f 2 :: f 3 :: f 4 :: f 5 :: f 6 :: f 7 :: f 8 :: f 9 :: f 10 :: f 11 :: f 12 :: f 13 :: f 14 :: f 15 :: f 16 :: f 17 :: f 18 :: f 19 :: f 20 :: f 21 :: f 22 :: f 23 :: f 24 :: f 25 :: f 26 :: f 27 :: f 28 :: f 29 :: f 30 :: f 31 :: f 32 :: f 33 :: f 34 :: f 35 :: f 36 :: f 37 :: f 38 :: f 39 :: f 40 :: f 41 :: f 42 :: f 43 :: f 44 :: f 45 :: f 46 :: f 47 :: f 48 :: f 49 :: f 50 :: f 51 :: f 52 :: f 53 :: f 54 :: f 55 :: f 56 :: f 57 :: f 58 :: f 59 :: [])), []⟩ ∧ ∀ k, slot a k = f k := letters_qu a hs.size hs.defers
  rw [hf] at e8 e10
  rw [ea, e8, e10]
  have HS := Lib.hid hs
  have HF := Lib.hid hf
  have E8 := Lib.hid e8
  have E10 := Lib.hid e10
  clear hs ea hf hN hl h8 e8 h10 e10
  conv => arg 2; whnf
  go_wp2_with fail
  refine HN.out _ ?_
  exact Sl.add (Sl.stay [0, 3, 8, 9, 10] HS.out HF.out (by kernel_rfl) rfl ⟨by kernel_rfl, by kernel_rfl, Eq.trans (by kernel_rfl) E8.out.symm, by kernel_rfl, Eq.trans (by kernel_rfl) E10.out.symm, trivial⟩ HL.out) (by kernel_rfl)
set_option maxHeartbeats 4000000 in
theorem qu_r6a (a : Act) (w : World) (N : Act → World → Prop) (Q : Exit → Act → World → Prop) (l : List (Nat × Value)) (hs : Sl 60 a l) (hl : (l.map Prod.fst).all (fun k => [0, 3, 8, 9, 10, 5].contains k) = true)
    (c : Int) (hb : (c == 34) = true)  (h5 : l.lookup 5 = some (.int .u8 c))
    (hN : ∀ a', Sl 60 a' ((18, .bool true) :: l) → N a' (w)) : (r_qu 6).wp Tryd.prog (Exit.then N Q) a w := by
  have HN := Lib.hid hN
  have HL := Lib.hid hl
  have e5 := hs.look 5 h5
  obtain ⟨f, ea, hf⟩ : ∃ f : Nat → Value, a = ⟨(List.toArray (f 0 :: f 1 :: f 2 :: f 3 :: f 4 :: f 5 :: f 6 :: f 7 :: f 8 :: f 9 :: f 10 :: f 11 :: f 12 :: f 13 :: f 14 :: f 15 :: f 16 :: f 17 :: f 18 :: f 19 :: f 20 :: f 21 :: f 22 :: f 23 :: f 24 :: f 25 :: f 26 :: f 27 :: f 28 :: f 29 :: f 30 :: f 31 :: f 32 :: f 33 :: f 34 :: f 35 :: f 36 :: f 37 :: f 38 :: f 39 :: f 40 :: f 41 :: f 42 :: f 43 :: f 44 :: f 45 :: f 46 :: f 47 :: f 48 :: f 49 :: f 50 :: f 51 :: f 52 :: f 53 :: f 54 :: f 55 :: f 56 :: f 57 :: f 58 :: f 59 :: [])), []⟩ ∧ ∀ k, slot a k = f k := letters_qu a hs.size hs.defers
  rw [hf] at e5
  rw [ea, e5]
  have HS := Lib.hid hs
  have HF := Lib.hid hf
  have E5 := Lib.hid e5
  clear hs ea hf hN hl h5 e5
  conv => arg 2; whnf
  go_wp2_with fail
  refine HN.out _ ?_
  exact Sl.add (Sl.stay [0, 3, 8, 9, 10, 5] HS.out HF.out (by kernel_rfl) rfl ⟨by kernel_rfl, by kernel_rfl, by kernel_rfl, by kernel_rfl, by kernel_rfl, Eq.trans (by kernel_rfl) E5.out.symm, trivial⟩ HL.out) (by kernel_rfl)
set_option maxHeartbeats 4000000 in
theorem qu_r6bt (a : Act) (w : World) (N : Act → World → Prop) (Q : Exit → Act → World → Prop) (l : List (Nat × Value)) (hs : Sl 60 a l) (hl : (l.map Prod.fst).all (fun k => [0, 3, 8, 9, 10, 5].contains k) = true)
    (c : Int) (hb : (c == 34) = false) (hb2 : (c == 92) = true)  (h5 : l.lookup 5 = some (.int .u8 c))
    (hN : ∀ a', Sl 60 a' ((18, .bool true) :: l) → N a' (w)) : (r_qu 6).wp Tryd.prog (Exit.then N Q) a w := by
  have HN := Lib.hid hN
  have HL := Lib.hid hl
  have e5 := hs.look 5 h5
  obtain ⟨f, ea, hf⟩ : ∃ f : Nat → Value, a = ⟨(List.toArray (f 0 :: f 1 :: f 2 :: f 3 :: f 4 :: f 5 :: f 6 :: f 7 :: f 8 :: f 9 :: f 10 :: f 11 :: f 12 :: f 13 :: f 14 :: f 15 :: f 16 :: f 17 :: f 18 :: f 19 :: f 20 :: f 21 :: f 22 :: f 23 :: f 24 :: f 25 :: f 26 :: f 27 :: f 28 :: f 29 :: f 30 :: f 31 :: f 32 :: f 33 :: f 34 :: f 35 :: f 36 :: f 37 :: f 38 :: f 39 :: f 40 :: f 41 :: f 42 :: f 43 :: f 44 :: f 45 :: f 46 :: f 47 :: f 48 :: f 49 :: f 50 :: f 51 :: f 52 :: f 53 :: f 54 :: f 55 :: f 56 :: f 57 :: f 58 :: f 59 :: [])), []⟩ ∧ ∀ k, slot a k = f k := letters_qu a hs.size hs.defers
  rw [hf] at e5
  rw [ea, e5]
  have HS := Lib.hid hs
  have HF := Lib.hid hf
  have E5 := Lib.hid e5
  clear hs ea hf hN hl h5 e5
  conv => arg 2; whnf
  go_wp2_with fail
  refine HN.out _ ?_
  exact Sl.add (Sl.stay [0, 3, 8, 9, 10, 5] HS.out HF.out (by kernel_rfl) rfl ⟨by kernel_rfl, by kernel_rfl, by kernel_rfl, by kernel_rfl, by kernel_rfl, Eq.trans (by kernel_rfl) E5.out.symm, trivial⟩ HL.out) (by kernel_rfl)
set_option maxHeartbeats 4000000 in
theorem qu_r6bf (a : Act) (w : World) (N : Act → World → Prop) (Q : Exit → Act → World → Prop) (l : List (Nat × Value)) (hs : Sl 60 a l) (hl : (l.map Prod.fst).all (fun k => [0, 3, 8, 9, 10, 5].contains k) = true)
    (c : Int) (hb : (c == 34) = false) (hb2 : (c == 92) = false)  (h5 : l.lookup 5 = some (.int .u8 c))
    (hN : ∀ a', Sl 60 a' ((18, .bool false) :: l) → N a' (w)) : (r_qu 6).wp Tryd.prog (Exit.then N Q) a w := by
  have HN := Lib.hid hN
  have HL := Lib.hid hl
  have e5 := hs.look 5 h5
  obtain ⟨f, ea, hf⟩ : ∃ f : Nat → Value, a = ⟨(List.toArray (f 0 :: f 1 :: f 2 :: f 3 :: f 4 :: f 5 :: f 6 :: f 7 :: f 8 :: f 9 :: f 10 :: f 11 :: f 12 :: f 13 :: f 14 :: f 15 :: f 16 :: f 17 :: f 18 :: f 19 :: f 20 :: f 21 :: f 22 :: f 23 :: f 24 :: f 25 :: f 26 :: f 27 :: f 28 :: f 29 :: f 30 :: f 31 :: f 32 :: f 33 :: f 34 :: f 35 :: f 36 :: f 37 :: f 38 :: f 39 :: f 40 :: f 41 :: f 42 :: f 43 :: f 44 :: f 45 :: f 46 :: f 47 :: f 48 :: f 49 :: f 50 :: f 51 :: f 52 :: f 53 :: f 54 :: f 55 :: f 56 :: f 57 :: f 58 :: f 59 :: [])), []⟩ ∧ ∀ k, slot a k = f k := letters_qu a hs.size hs.defers
  rw [hf] at e5
  rw [ea, e5]
  have HS := Lib.hid hs
  have HF := Lib.hid hf
  have E5 := Lib.hid e5
  clear hs ea hf hN hl h5 e5
  conv => arg 2; whnf
  go_wp2_with fail
  refine HN.out _ ?_
  exact Sl.add (Sl.stay [0, 3, 8, 9, 10, 5] HS.out HF.out (by kernel_rfl) rfl ⟨by kernel_rfl, by kernel_rfl, by kernel_rfl, by kernel_rfl, by kernel_rfl, Eq.trans (by kernel_rfl) E5.out.symm, trivial⟩ HL.out) (by kernel_rfl)
set_option maxHeartbeats 4000000 in
theorem qu_r12a (a : Act) (w : World) (N : Act → World → Prop) (Q : Exit → Act → World → Prop) (l : List (Nat × Value)) (hs : Sl 60 a l) (hl : (l.map Prod.fst).all (fun k => [0, 3, 8, 9, 10, 5].contains k) = true)
    (c : Int) (hb : c < 32)  (h5 : l.lookup 5 = some (.int .u8 c))
    (hN : ∀ a', Sl 60 a' ((39, .bool true) :: l) → N a' (w)) : (r_qu 12).wp Tryd.prog (Exit.then N Q) a w := by
  have HN := Lib.hid hN
  have HL := Lib.hid hl
  have e5 := hs.look 5 h5
  obtain ⟨f, ea, hf⟩ : ∃ f : Nat → Value, a = ⟨(List.toArray (f 0 :: f 1 :: f 2 :: f 3 :: f 4 :: f 5 :: f 6 :: f 7 :: f 8 :: f 9 :: f 10 :: f 11 :: f 12 :: f 13 :: f 14 :: f 15 :: f 16 :: f 17 :: f 18 :: f 19 :: f 20 :: f 21 :: f 22 :: f 23 :: f 24 :: f 25 :: f 26 :: f 27 :: f 28 :: f 29 :: f 30 :: f 31 :: f 32 :: f 33 :: f 34 :: f 35 :: f 36 :: f 37 :: f 38 :: f 39 :: f 40 :: f 41 :: f 42 :: f 43 :: f 44 :: f 45 :: f 46 :: f 47 :: f 48 :: f 49 :: f 50 :: f 51 :: f 52 :: f 53 :: f 54 :: f 55 :: f 56 :: f 57 :: f 58 :: f 59 :: [])), []⟩ ∧ ∀ k, slot a k = f k := letters_qu a hs.size hs.defers
  rw [hf] at e5
  rw [ea, e5]
  have HS := Lib.hid hs
  have HF := Lib.hid hf
  have E5 := Lib.hid e5
  clear hs ea hf hN hl h5 e5
  conv => arg 2; whnf
  go_wp2_with fail
  refine HN.out _ ?_
  exact Sl.add (Sl.stay [0, 3, 8, 9, 10, 5] HS.out HF.out (by kernel_rfl) rfl ⟨by kernel_rfl, by kernel_rfl, by kernel_rfl, by kernel_rfl, by kernel_rfl, Eq.trans (by kernel_rfl) E5.out.symm, trivial⟩ HL.out) (by kernel_rfl)
set_option maxHeartbeats 4000000 in
theorem qu_r12bt (a : Act) (w : World) (N : Act → World → Prop) (Q : Exit → Act → World → Prop) (l : List (Nat × Value)) (hs : Sl 60 a l) (hl : (l.map Prod.fst).all (fun k => [0, 3, 8, 9, 10, 5].contains k) = true)
    (c : Int) (hb : decide (c < 32) = false) (hb2 : 126 < c)  (h5 : l.lookup 5 = some (.int .u8 c))
    (hN : ∀ a', Sl 60 a' ((39, .bool true) :: l) → N a' (w)) : (r_qu 12).wp Tryd.prog (Exit.then N Q) a w := by
  have HN := Lib.hid hN
  have HL := Lib.hid hl
  have e5 := hs.look 5 h5
  obtain ⟨f, ea, hf⟩ : ∃ f : Nat → Value, a = ⟨(List.toArray (f 0 :: f 1 :: f 2 :: f 3 :: f 4 :: f 5 :: f 6 :: f 7 :: f 8 :: f 9 :: f 10 :: f 11 :: f 12 :: f 13 :: f 14 :: f 15 :: f 16 :: f 17 :: f 18 :: f 19 :: f 20 :: f 21 :: f 22 :: f 23 :: f 24 :: f 25 :: f 26 :: f 27 :: f 28 :: f 29 :: f 30 :: f 31 :: f 32 :: f 33 :: f 34 :: f 35 :: f 36 :: f 37 :: f 38 :: f 39 :: f 40 :: f 41 :: f 42 :: f 43 :: f 44 :: f 45 :: f 46 :: f 47 :: f 48 :: f 49 :: f 50 :: f 51 :: f 52 :: f 53 :: f 54 :: f 55 :: f 56 :: f 57 :: f 58 :: f 59 :: [])), []⟩ ∧ ∀ k, slot a k = f k := letters_qu a hs.size hs.defers
  rw [hf] at e5
  rw [ea, e5]
  have HS := Lib.hid hs
  have HF := Lib.hid hf
  have E5 := Lib.hid e5
  clear hs ea hf hN hl h5 e5
  conv => arg 2; whnf
  go_wp2_with fail
  refine HN.out _ ?_
  exact Sl.add (Sl.stay [0, 3, 8, 9, 10, 5] HS.out HF.out (by kernel_rfl) rfl ⟨by kernel_rfl, by kernel_rfl, by kernel_rfl, by kernel_rfl, by kernel_rfl, Eq.trans (by kernel_rfl) E5.out.symm, trivial⟩ HL.out) (by kernel_rfl)
set_option maxHeartbeats 4000000 in
theorem qu_r12bf (a : Act) (w : World) (N : Act → World → Prop) (Q : Exit → Act → World → Prop) (l : List (Nat × Value)) (hs : Sl 60 a l) (hl : (l.map Prod.fst).all (fun k => [0, 3, 8, 9, 10, 5].contains k) = true)
    (c : Int) (hb : decide (c < 32) = false) (hb2 : decide (126 < c) = false)  (h5 : l.lookup 5 = some (.int .u8 c))
    (hN : ∀ a', Sl 60 a' ((39, .bool false) :: l) → N a' (w)) : (r_qu 12).wp Tryd.prog (Exit.then N Q) a w := by
  have HN := Lib.hid hN
  have HL := Lib.hid hl
  have e5 := hs.look 5 h5
  obtain ⟨f, ea, hf⟩ : ∃ f : Nat → Value, a = ⟨(List.toArray (f 0 :: f 1 :: f 2 :: f 3 :: f 4 :: f 5 :: f 6 :: f 7 :: f 8 :: f 9 :: f 10 :: f 11 :: f 12 :: f 13 :: f 14 :: f 15 :: f 16 :: f 17 :: f 18 :: f 19 :: f 20 :: f 21 :: f 22 :: f 23 :: f 24 :: f 25 :: f 26 :: f 27 :: f 28 :: f 29 :: f 30 :: f 31 :: f 32 :: f 33 :: f 34 :: f 35 :: f 36 :: f 37 :: f 38 :: f 39 :: f 40 :: f 41 :: f 42 :: f 43 :: f 44 :: f 45 :: f 46 :: f 47 :: f 48 :: f 49 :: f 50 :: f 51 :: f 52 :: f 53 :: f 54 :: f 55 :: f 56 :: f 57 :: f 58 :: f 59 :: [])), []⟩ ∧ ∀ k, slot a k = f k := letters_qu a hs.size hs.defers
  rw [hf] at e5
  rw [ea, e5]
  have HS := Lib.hid hs
  have HF := Lib.hid hf
  have E5 := Lib.hid e5
  clear hs ea hf hN hl h5 e5
  conv => arg 2; whnf
  go_wp2_with fail
  refine HN.out _ ?_
  exact Sl.add (Sl.stay [0, 3, 8, 9, 10, 5] HS.out HF.out (by kernel_rfl) rfl ⟨by kernel_rfl, by kernel_rfl, by kernel_rfl, by kernel_rfl, by kernel_rfl, Eq.trans (by kernel_rfl) E5.out.symm, trivial⟩ HL.out) (by kernel_rfl)
set_option maxHeartbeats 4000000 in
theorem qu_r8 (a : Act) (w : World) (N : Act → World → Prop) (Q : Exit → Act → World → Prop) (l : List (Nat × Value)) (hs : Sl 60 a l) (hl : (l.map Prod.fst).all (fun k => [0, 3, 8, 9, 10, 5].contains k) = true)
    (c : Int) (b : Bool) (hb : (c == 10) = b)  (h5 : l.lookup 5 = some (.int .u8 c))
    (hN : ∀ a', Sl 60 a' ((29, .bool b) :: l) → N a' (w)) : (r_qu 8).wp Tryd.prog (Exit.then N Q) a w := by
  have HN := Lib.hid hN
  have HL := Lib.hid hl
  have e5 := hs.look 5 h5
  obtain ⟨f, ea, hf⟩ : ∃ f : Nat → Value, a = ⟨(List.toArray (f 0 :: f 1 :: f 2 :: f 3 :: f 4 :: f 5 :: f 6 :: f 7 :: f 8 :: f 9 :: f 10 :: f 11 :: f 12 :: f 13 :: f 14 :: f 15 :: f 16 :: f 17 :: f 18 :: f 19 :: f 20 :: f 21 :: f 22 :: f 23 :: f 24 :: f 25 :: f 26 :: f 27 :: f 28 :: f 29 :: f 30 :: f 31 :: f 32 :: f 33 :: f 34 :: f 35 :: f 36 :: f 37 :: f 38 :: f 39 :: f 40 :: f 41 :: f 42 :: f 43 :: f 44 :: f 45 :: f 46 :: f 47 :: f 48 :: f 49 :: f 50 :: f 51 :: f 52 :: f 53 :: f 54 :: f 55 :: f 56 :: f 57 :: f 58 :: f 59 :: [])), []⟩ ∧ ∀ k, slot a k = f k := letters_qu a hs.size hs.defers
  rw [hf] at e5
  rw [ea, e5]
  have HS := Lib.hid hs
  have HF := Lib.hid hf
  have E5 := Lib.hid e5
  clear hs ea hf hN hl h5 e5
  conv => arg 2; whnf
  go_wp2_with fail
  refine HN.out _ ?_
  exact Sl.add (Sl.stay [0, 3, 8, 9, 10, 5] HS.out HF.out (by kernel_rfl) rfl ⟨by kernel_rfl, by kernel_rfl, by kernel_rfl, by kernel_rfl, by kernel_rfl, Eq.trans (by kernel_rfl) E5.out.symm, trivial⟩ HL.out) (by kernel_rfl)
set_option maxHeartbeats 4000000 in
theorem qu_r10 (a : Act) (w : World) (N : Act → World → Prop) (Q : Exit → Act → World → Prop) (l : List (Nat × Value)) (hs : Sl 60 a l) (hl : (l.map Prod.fst).all (fun k => [0, 3, 8, 9, 10, 5].contains k) = true)
    (c : Int) (b : Bool) (hb : (c == 9) = b)  (h5 : l.lookup 5 = some (.int .u8 c))
    (hN : ∀ a', Sl 60 a' ((34, .bool b) :: l) → N a' (w)) : (r_qu 10).wp Tryd.prog (Exit.then N Q) a w := by
  have HN := Lib.hid hN
  have HL := Lib.hid hl
  have e5 := hs.look 5 h5
  obtain ⟨f, ea, hf⟩ : ∃ f : Nat → Value, a = ⟨(List.toArray (f 0 :: f 1 :: f 2 :: f 3 :: f 4 :: f 5 :: f 6 :: f 7 :: f 8 :: f 9 :: f 10 :: f 11 :: f 12 :: f 13 :: f 14 :: f 15 :: f 16 :: f 17 :: f 18 :: f 19 :: f 20 :: f 21 :: f 22 :: f 23 :: f 24 :: f 25 :: f 26 :: f 27 :: f 28 :: f 29 :: f 30 :: f 31 :: f 32 :: f 33 :: f 34 :: f 35 :: f 36 :: f 37 :: f 38 :: f 39 :: f 40 :: f 41 :: f 42 :: f 43 :: f 44 :: f 45 :: f 46 :: f 47 :: f 48 :: f 49 :: f 50 :: f 51 :: f 52 :: f 53 :: f 54 :: f 55 :: f 56 :: f 57 :: f 58 :: f 59 :: [])), []⟩ ∧ ∀ k, slot a k = f k := letters_qu a hs.size hs.defers
  rw [hf] at e5
  rw [ea, e5]
  have HS := Lib.hid hs
  have HF := Lib.hid hf
  have E5 := Lib.hid e5
  clear hs ea hf hN hl h5 e5
  conv => arg 2; whnf
  go_wp2_with fail
  refine HN.out _ ?_
  exact Sl.add (Sl.stay [0, 3, 8, 9, 10, 5] HS.out HF.out (by kernel_rfl) rfl ⟨by kernel_rfl, by kernel_rfl, by kernel_rfl, by kernel_rfl, by kernel_rfl, Eq.trans (by kernel_rfl) E5.out.symm, trivial⟩ HL.out) (by kernel_rfl)
set_option maxHeartbeats 4000000 in
theorem qu_r7 (a : Act) (w : World) (N : Act → World → Prop) (Q : Exit → Act → World → Prop) (l : List (Nat × Value)) (hs : Sl 60 a l) (hl : (l.map Prod.fst).all (fun k => [0, 8, 9, 10].contains k) = true)
    (c : Int) (v : Value) (B n : Nat) (xs : List Value) (hown : w.ownsRow B 5 1 v n xs) (hn : n ≤ 140737488355320) (hB : B ≤ w.heap.size)  (h3 : slot a 3 = v) (h5 : slot a 5 = .int .u8 c)
    (hN : ∀ a' w' v', Sl 60 a' ((3, v') :: l) → w'.ownsRow B 5 1 v' (n + 2) (xs ++ [.int .u8 92, .int .u8 c]) → Below B w w' → (∀ k, k < w.heap.size → v.ownBlock ≠ some k → w'.heap[k]? = w.heap[k]?) → N a' w') : (r_qu 7).wp Tryd.prog (Exit.then N Q) a w := by
  have HN := Lib.hid hN
  have HL := Lib.hid hl
  have e3 := h3
  have e5 := h5
  obtain ⟨f, ea, hf⟩ : ∃ f : Nat → Value, a = ⟨(List.toArray (f 0 :: f 1 :: f 2 :: f 3 :: f 4 :: f 5 :: f 6 :: f 7 :: f 8 :: f 9 :: f 10 :: f 11 :: f 12 :: f 13 :: f 14 :: f 15 :: f 16 :: f 17 :: f 18 :: f 19 :: f 20 :: f 21 :: f 22 :: f 23 :: f 24 :: f 25 :: f 26 :: f 27 :: f 28 :: f 29 :: f 30 :: f 31 :: f 32 :: f 33 :: f 34 :: f 35 :: f 36 :: f 37 :: f 38 :: f 39 :: f 40 :: f 41 :: f 42 :: f 43 :: f 44 :: f 45 :: f 46 :: f 47 :: f 48 :: f 49 :: f 50 :: f 51 :: f 52 :: f 53 :: f 54 :: f 55 :: f 56 :: f 57 :: f 58 :: f 59 :: [])), []⟩ ∧ ∀ k, slot a k = f k := letters_qu a hs.size hs.defers
  rw [hf] at e3 e5
  rw [ea, e3, e5]
  have HS := Lib.hid hs
  have HF := Lib.hid hf
  have E3 := Lib.hid e3
  have E5 := Lib.hid e5
  clear hs ea hf hN hl h3 e3 h5 e5
  obtain ⟨i0, hi0, hz0, hz1, hz2⟩ := info_parts info_byte
  have HO := Lib.hid (hown.alloc (.cells #[.int .u8 92, .int .u8 c] 5))
  have HN2 := Lib.hid (news_arr w 5 #[.int .u8 92, .int .u8 c])
  clear hown
  conv => arg 2; whnf
  go_wp2_with (at_builtin; refine wpList_append_own _ rfl (.tmp 25) (.tmp 27) 52 rfl B 5 i0 _ 1 1 Tryd.underlying52 hi0 hz0 hz1 hz2 rfl (by decide) v n xs rfl HO.out ⟨w.heap.size, 0, none⟩ 2 2 [.int .u8 92, .int .u8 c] rfl rfl HN2.out (by simp [Value.oneCell']) (by unfold maxLen; omega) (by omega) (by simp; omega) ?_; intro v' w' hown' hgrow _)
  refine HN.out _ _ _ ?_ hown' ((app_below HO.out hB hgrow)) ((app_far hgrow))
  exact Sl.add (Sl.stay [0, 8, 9, 10] HS.out HF.out (by kernel_rfl) rfl ⟨by kernel_rfl, by kernel_rfl, by kernel_rfl, by kernel_rfl, trivial⟩ HL.out) (by kernel_rfl)
set_option maxHeartbeats 4000000 in
theorem qu_r9 (a : Act) (w : World) (N : Act → World → Prop) (Q : Exit → Act → World → Prop) (l : List (Nat × Value)) (hs : Sl 60 a l) (hl : (l.map Prod.fst).all (fun k => [0, 8, 9, 10].contains k) = true)
    (v : Value) (B n : Nat) (xs : List Value) (hown : w.ownsRow B 5 1 v n xs) (hn : n ≤ 140737488355320) (hB : B ≤ w.heap.size)  (h3 : slot a 3 = v)
    (hN : ∀ a' w' v', Sl 60 a' ((3, v') :: l) → w'.ownsRow B 5 1 v' (n + 2) (xs ++ [.int .u8 92, .int .u8 110]) → Below B w w' → (∀ k, k < w.heap.size → v.ownBlock ≠ some k → w'.heap[k]? = w.heap[k]?) → N a' w') : (r_qu 9).wp Tryd.prog (Exit.then N Q) a w := by
  have HN := Lib.hid hN
  have HL := Lib.hid hl
  have e3 := h3
  obtain ⟨f, ea, hf⟩ : ∃ f : Nat → Value, a = ⟨(List.toArray (f 0 :: f 1 :: f 2 :: f 3 :: f 4 :: f 5 :: f 6 :: f 7 :: f 8 :: f 9 :: f 10 :: f 11 :: f 12 :: f 13 :: f 14 :: f 15 :: f 16 :: f 17 :: f 18 :: f 19 :: f 20 :: f 21 :: f 22 :: f 23 :: f 24 :: f 25 :: f 26 :: f 27 :: f 28 :: f 29 :: f 30 :: f 31 :: f 32 :: f 33 :: f 34 :: f 35 :: f 36 :: f 37 :: f 38 :: f 39 :: f 40 :: f 41 :: f 42 :: f 43 :: f 44 :: f 45 :: f 46 :: f 47 :: f 48 :: f 49 :: f 50 :: f 51 :: f 52 :: f 53 :: f 54 :: f 55 :: f 56 :: f 57 :: f 58 :: f 59 :: [])), []⟩ ∧ ∀ k, slot a k = f k := letters_qu a hs.size hs.defers
  rw [hf] at e3
  rw [ea, e3]
  have HS := Lib.hid hs
  have HF := Lib.hid hf
  have E3 := Lib.hid e3
  clear hs ea hf hN hl h3 e3
  obtain ⟨i0, hi0, hz0, hz1, hz2⟩ := info_parts info_byte
  have HW := Lib.hid hown
  clear hown
  conv => arg 2; whnf
  go_wp2_with (at_builtin; go_loud (refine Lib.wpList_append_own_string _ rfl (.tmp 32) (.const (.string ⟨#[92, 110]⟩)) 52 9 rfl B 5 i0 Tryd.underlying52 Tryd.underlying9 hi0 hz0 hz1 hz2 v n xs rfl HW.out ⟨#[92, 110]⟩ rfl (by have h2 : (⟨#[92, 110]⟩ : ByteArray).size = 2 := rfl; unfold maxLen; omega) (by have h2 : (⟨#[92, 110]⟩ : ByteArray).size = 2 := rfl; omega) (by omega) ?_; intro v' w' hown' hgrow _))
  refine HN.out _ _ _ ?_ hown' ((app_below0 HW.out hB hgrow)) ((app_far0 hgrow))
  exact Sl.add (Sl.stay [0, 8, 9, 10] HS.out HF.out (by kernel_rfl) rfl ⟨by kernel_rfl, by kernel_rfl, by kernel_rfl, by kernel_rfl, trivial⟩ HL.out) (by kernel_rfl)
set_option maxHeartbeats 4000000 in
theorem qu_r11 (a : Act) (w : World) (N : Act → World → Prop) (Q : Exit → Act → World → Prop) (l : List (Nat × Value)) (hs : Sl 60 a l) (hl : (l.map Prod.fst).all (fun k => [0, 8, 9, 10].contains k) = true)
    (v : Value) (B n : Nat) (xs : List Value) (hown : w.ownsRow B 5 1 v n xs) (hn : n ≤ 140737488355320) (hB : B ≤ w.heap.size)  (h3 : slot a 3 = v)
    (hN : ∀ a' w' v', Sl 60 a' ((3, v') :: l) → w'.ownsRow B 5 1 v' (n + 2) (xs ++ [.int .u8 92, .int .u8 116]) → Below B w w' → (∀ k, k < w.heap.size → v.ownBlock ≠ some k → w'.heap[k]? = w.heap[k]?) → N a' w') : (r_qu 11).wp Tryd.prog (Exit.then N Q) a w := by
  have HN := Lib.hid hN
  have HL := Lib.hid hl
  have e3 := h3
  obtain ⟨f, ea, hf⟩ : ∃ f : Nat → Value, a = ⟨(List.toArray (f 0 :: f 1 :: f 2 :: f 3 :: f 4 :: f 5 :: f 6 :: f 7 :: f 8 :: f 9 :: f 10 :: f 11 :: f 12 :: f 13 :: f 14 :: f 15 :: f 16 :: f 17 :: f 18 :: f 19 :: f 20 :: f 21 :: f 22 :: f 23 :: f 24 :: f 25 :: f 26 :: f 27 :: f 28 :: f 29 :: f 30 :: f 31 :: f 32 :: f 33 :: f 34 :: f 35 :: f 36 :: f 37 :: f 38 :: f 39 :: f 40 :: f 41 :: f 42 :: f 43 :: f 44 :: f 45 :: f 46 :: f 47 :: f 48 :: f 49 :: f 50 :: f 51 :: f 52 :: f 53 :: f 54 :: f 55 :: f 56 :: f 57 :: f 58 :: f 59 :: [])), []⟩ ∧ ∀ k, slot a k = f k := letters_qu a hs.size hs.defers
  rw [hf] at e3
  rw [ea, e3]
  have HS := Lib.hid hs
  have HF := Lib.hid hf
  have E3 := Lib.hid e3
  clear hs ea hf hN hl h3 e3
  obtain ⟨i0, hi0, hz0, hz1, hz2⟩ := info_parts info_byte
  have HW := Lib.hid hown
  clear hown
  conv => arg 2; whnf
  go_wp2_with (at_builtin; go_loud (refine Lib.wpList_append_own_string _ rfl (.tmp 37) (.const (.string ⟨#[92, 116]⟩)) 52 9 rfl B 5 i0 Tryd.underlying52 Tryd.underlying9 hi0 hz0 hz1 hz2 v n xs rfl HW.out ⟨#[92, 116]⟩ rfl (by have h2 : (⟨#[92, 116]⟩ : ByteArray).size = 2 := rfl; unfold maxLen; omega) (by have h2 : (⟨#[92, 116]⟩ : ByteArray).size = 2 := rfl; omega) (by omega) ?_; intro v' w' hown' hgrow _))
  refine HN.out _ _ _ ?_ hown' ((app_below0 HW.out hB hgrow)) ((app_far0 hgrow))
  exact Sl.add (Sl.stay [0, 8, 9, 10] HS.out HF.out (by kernel_rfl) rfl ⟨by kernel_rfl, by kernel_rfl, by kernel_rfl, by kernel_rfl, trivial⟩ HL.out) (by kernel_rfl)
set_option maxHeartbeats 4000000 in
theorem qu_r13 (a : Act) (w : World) (N : Act → World → Prop) (Q : Exit → Act → World → Prop) (l : List (Nat × Value)) (hs : Sl 60 a l) (hl : (l.map Prod.fst).all (fun k => [0, 8, 9, 10].contains k) = true)
    (c d1 d2 : Int) (hx1 : ∀ w, (Instr.index 9 (.string ⟨#[48, 49, 50, 51, 52, 53, 54, 55, 56, 57, 97, 98, 99, 100, 101, 102]⟩) (.int .u8 (c.tdiv 16 % 256))).run Tryd.prog w = .ok (.int .u8 d1) w) (hx2 : ∀ w, (Instr.index 9 (.string ⟨#[48, 49, 50, 51, 52, 53, 54, 55, 56, 57, 97, 98, 99, 100, 101, 102]⟩) (.int .u8 (c.tmod 16))).run Tryd.prog w = .ok (.int .u8 d2) w) (v : Value) (B n : Nat) (xs : List Value) (hown : w.ownsRow B 5 1 v n xs) (hn : n ≤ 140737488355320) (hB : B ≤ w.heap.size)  (h3 : slot a 3 = v) (h5 : slot a 5 = .int .u8 c)
    (hN : ∀ a' w' v', Sl 60 a' ((3, v') :: l) → w'.ownsRow B 5 1 v' (n + 4) (xs ++ [.int .u8 92, .int .u8 120, .int .u8 d1, .int .u8 d2]) → Below B w w' → (∀ k, k < w.heap.size → v.ownBlock ≠ some k → w'.heap[k]? = w.heap[k]?) → N a' w') : (r_qu 13).wp Tryd.prog (Exit.then N Q) a w := by
  have HN := Lib.hid hN
  have HL := Lib.hid hl
  have e3 := h3
  have e5 := h5
  obtain ⟨f, ea, hf⟩ : ∃ f : Nat → Value, a = ⟨(List.toArray (f 0 :: f 1 :: f 2 :: f 3 :: f 4 :: f 5 :: f 6 :: f 7 :: f 8 :: f 9 :: f 10 :: f 11 :: f 12 :: f 13 :: f 14 :: f 15 :: f 16 :: f 17 :: f 18 :: f 19 :: f 20 :: f 21 :: f 22 :: f 23 :: f 24 :: f 25 :: f 26 :: f 27 :: f 28 :: f 29 :: f 30 :: f 31 :: f 32 :: f 33 :: f 34 :: f 35 :: f 36 :: f 37 :: f 38 :: f 39 :: f 40 :: f 41 :: f 42 :: f 43 :: f 44 :: f 45 :: f 46 :: f 47 :: f 48 :: f 49 :: f 50 :: f 51 :: f 52 :: f 53 :: f 54 :: f 55 :: f 56 :: f 57 :: f 58 :: f 59 :: [])), []⟩ ∧ ∀ k, slot a k = f k := letters_qu a hs.size hs.defers
  rw [hf] at e3 e5
  rw [ea, e3, e5]
  have HS := Lib.hid hs
  have HF := Lib.hid hf
  have E3 := Lib.hid e3
  have E5 := Lib.hid e5
  clear hs ea hf hN hl h3 e3 h5 e5
  obtain ⟨i0, hi0, hz0, hz1, hz2⟩ := info_parts info_byte
  have HO := Lib.hid (hown.alloc (.cells #[.int .u8 92, .int .u8 120, .int .u8 d1, .int .u8 d2] 5))
  have HN2 := Lib.hid (news_arr w 5 #[.int .u8 92, .int .u8 120, .int .u8 d1, .int .u8 d2])
  clear hown
  conv => arg 2; whnf
  refine wp_region_eff (fun _ => True) [0, 1, 2, 3, 4, 5, 6] [7] [_, _, _, _, _, _, _] [_] [_, _] 8 (by kernel_rfl) rfl rfl rfl rfl (by kernel_rfl) ?_
  iterate 7
    apply wpP_step _ rfl (by simp) rfl
    · rintro W _
      go_wp2_with fail
      exact ⟨rfl, rfl⟩
    · rfl
  refine wpP_nil ?_
  refine And.intro trivial ?_
  go_wp2_with fail
  refine And.intro trivial ?_
  change wpList _ _ _ _ _ _
  go_wp2_with (at_builtin; refine wpList_append_own _ rfl (.tmp 46) (.tmp 53) 52 rfl B 5 i0 _ 1 1 Tryd.underlying52 hi0 hz0 hz1 hz2 rfl (by decide) v n xs rfl HO.out ⟨w.heap.size, 0, none⟩ 4 4 [.int .u8 92, .int .u8 120, .int .u8 d1, .int .u8 d2] rfl rfl HN2.out (by simp [Value.oneCell']) (by unfold maxLen; omega) (by omega) (by simp; omega) ?_; intro v' w' hown' hgrow _)
  refine HN.out _ _ _ ?_ hown' ((app_below HO.out hB (grown_drew hgrow))) ((app_far (grown_drew hgrow)))
  exact Sl.add (Sl.stay [0, 8, 9, 10] HS.out HF.out (by kernel_rfl) rfl ⟨by kernel_rfl, by kernel_rfl, by kernel_rfl, by kernel_rfl, trivial⟩ HL.out) (by kernel_rfl)
set_option maxHeartbeats 4000000 in
theorem qu_r5 (a : Act) (w : World) (N : Act → World → Prop) (Q : Exit → Act → World → Prop) (l : List (Nat × Value)) (hs : Sl 60 a l) (hl : (l.map Prod.fst).all (fun k => [0, 8, 9, 10].contains k) = true)
    (c : Int) (v : Value) (B n : Nat) (xs : List Value) (hown : w.ownsRow B 5 1 v n xs) (hn : n ≤ 140737488355320) (hB : B ≤ w.heap.size)  (h3 : slot a 3 = v) (h5 : slot a 5 = .int .u8 c)
    (hN : ∀ a' w' v', Sl 60 a' ((3, v') :: l) → w'.ownsRow B 5 1 v' (n + 1) (xs ++ [.int .u8 c]) → Below B w w' → (∀ k, k < w.heap.size → v.ownBlock ≠ some k → w'.heap[k]? = w.heap[k]?) → N a' w') : (r_qu 5).wp Tryd.prog (Exit.then N Q) a w := by
  have HN := Lib.hid hN
  have HL := Lib.hid hl
  have e3 := h3
  have e5 := h5
  obtain ⟨f, ea, hf⟩ : ∃ f : Nat → Value, a = ⟨(List.toArray (f 0 :: f 1 :: f 2 :: f 3 :: f 4 :: f 5 :: f 6 :: f 7 :: f 8 :: f 9 :: f 10 :: f 11 :: f 12 :: f 13 :: f 14 :: f 15 :: f 16 :: f 17 :: f 18 :: f 19 :: f 20 :: f 21 :: f 22 :: f 23 :: f 24 :: f 25 :: f 26 :: f 27 :: f 28 :: f 29 :: f 30 :: f 31 :: f 32 :: f 33 :: f 34 :: f 35 :: f 36 :: f 37 :: f 38 :: f 39 :: f 40 :: f 41 :: f 42 :: f 43 :: f 44 :: f 45 :: f 46 :: f 47 :: f 48 :: f 49 :: f 50 :: f 51 :: f 52 :: f 53 :: f 54 :: f 55 :: f 56 :: f 57 :: f 58 :: f 59 :: [])), []⟩ ∧ ∀ k, slot a k = f k := letters_qu a hs.size hs.defers
  rw [hf] at e3 e5
  rw [ea, e3, e5]
  have HS := Lib.hid hs
  have HF := Lib.hid hf
  have E3 := Lib.hid e3
  have E5 := Lib.hid e5
  clear hs ea hf hN hl h3 e3 h5 e5
  obtain ⟨i0, hi0, hz0, hz1, hz2⟩ := info_parts info_byte
  have HO := Lib.hid (hown.alloc (.cells #[.int .u8 c] 5))
  have HN2 := Lib.hid (news_arr w 5 #[.int .u8 c])
  clear hown
  conv => arg 2; whnf
  go_wp2_with (at_builtin; refine wpList_append_own _ rfl (.tmp 14) (.tmp 16) 52 rfl B 5 i0 _ 1 1 Tryd.underlying52 hi0 hz0 hz1 hz2 rfl (by decide) v n xs rfl HO.out ⟨w.heap.size, 0, none⟩ 1 1 [.int .u8 c] rfl rfl HN2.out (by simp [Value.oneCell']) (by unfold maxLen; omega) (by omega) (by simp; omega) ?_; intro v' w' hown' hgrow _)
  refine HN.out _ _ _ ?_ hown' ((app_below HO.out hB hgrow)) ((app_far hgrow))
  exact Sl.add (Sl.stay [0, 8, 9, 10] HS.out HF.out (by kernel_rfl) rfl ⟨by kernel_rfl, by kernel_rfl, by kernel_rfl, by kernel_rfl, trivial⟩ HL.out) (by kernel_rfl)
set_option maxHeartbeats 4000000 in
theorem qu_r14 (a : Act) (w : World) (N : Act → World → Prop) (Q : Exit → Act → World → Prop) (l : List (Nat × Value)) (hs : Sl 60 a l) (hl : (l.map Prod.fst).all (fun k => [0, 3, 8, 9].contains k) = true)
    (i : Int) (i0 : 0 ≤ i) (i1 : i ≤ 140737488355328)  (h10 : slot a 10 = .int .i64 i)
    (hN : ∀ a', Sl 60 a' ((10, .int .i64 (i + 1)) :: l) → N a' (w)) : (r_qu 14).wp Tryd.prog (Exit.then N Q) a w := by
  have HN := Lib.hid hN
  have HL := Lib.hid hl
  have e10 := h10
  obtain ⟨f, ea, hf⟩ : ∃ f : Nat → Value, a = ⟨(List.toArray (f 0 :: f 1 :: f 2 :: f 3 :: f 4 :: f 5 :: f 6 :: f 7 :: f 8 :: f 9 :: f 10 :: f 11 :: f 12 :: f 13 :: f 14 :: f 15 :: f 16 :: f 17 :: f 18 :: f 19 :: f 20 :: f 21 :: f 22 :: f 23 :: f 24 :: f 25 :: f 26 :: f 27 :: f 28 :: f 29 :: f 30 :: f 31 :: f 32 :: f 33 :: f 34 :: f 35 :: f 36 :: f 37 :: f 38 :: f 39 :: f 40 :: f 41 :: f 42 :: f 43 :: f 44 :: f 45 :: f 46 :: f 47 :: f 48 :: f 49 :: f 50 :: f 51 :: f 52 :: f 53 :: f 54 :: f 55 :: f 56 :: f 57 :: f 58 :: f 59 :: [])), []⟩ ∧ ∀ k, slot a k = f k := letters_qu a hs.size hs.defers
  rw [hf] at e10
  rw [ea, e10]
  have HS := Lib.hid hs
  have HF := Lib.hid hf
  have E10 := Lib.hid e10
  clear hs ea hf hN hl h10 e10
  conv => arg 2; whnf
  go_wp2_with fail
  refine HN.out _ ?_
  exact Sl.add (Sl.stay [0, 3, 8, 9] HS.out HF.out (by kernel_rfl) rfl ⟨by kernel_rfl, by kernel_rfl, by kernel_rfl, by kernel_rfl, trivial⟩ HL.out) (by kernel_rfl)
set_option maxHeartbeats 4000000 in
theorem qu_r15 (a : Act) (w : World) (N : Act → World → Prop) (Q : Exit → Act → World → Prop) (l : List (Nat × Value)) (hs : Sl 60 a l) (hl : (l.map Prod.fst).all (fun k => [].contains k) = true)
    (v : Value) (B n : Nat) (xs : List Value) (ll : List UInt8) (hnl : n = ll.length) (hxl : xs = ll.map byteV) (hown : w.ownsRow B 5 1 v n xs) (hn : n ≤ 140737488355320) (hB : B ≤ w.heap.size)  (h3 : slot a 3 = v)
    (hN : ∀ a' w', Sl 60 a' ((2, .string (bs (ll ++ [34]))) :: l) → Below B w w' → N a' w') : (r_qu 15).wp Tryd.prog (Exit.then N Q) a w := by
  have HN := Lib.hid hN
  have HL := Lib.hid hl
  have e3 := h3
  obtain ⟨f, ea, hf⟩ : ∃ f : Nat → Value, a = ⟨(List.toArray (f 0 :: f 1 :: f 2 :: f 3 :: f 4 :: f 5 :: f 6 :: f 7 :: f 8 :: f 9 :: f 10 :: f 11 :: f 12 :: f 13 :: f 14 :: f 15 :: f 16 :: f 17 :: f 18 :: f 19 :: f 20 :: f 21 :: f 22 :: f 23 :: f 24 :: f 25 :: f 26 :: f 27 :: f 28 :: f 29 :: f 30 :: f 31 :: f 32 :: f 33 :: f 34 :: f 35 :: f 36 :: f 37 :: f 38 :: f 39 :: f 40 :: f 41 :: f 42 :: f 43 :: f 44 :: f 45 :: f 46 :: f 47 :: f 48 :: f 49 :: f 50 :: f 51 :: f 52 :: f 53 :: f 54 :: f 55 :: f 56 :: f 57 :: f 58 :: f 59 :: [])), []⟩ ∧ ∀ k, slot a k = f k := letters_qu a hs.size hs.defers
  rw [hf] at e3
  rw [ea, e3]
  have HS := Lib.hid hs
  have HF := Lib.hid hf
  have E3 := Lib.hid e3
  clear hs ea hf hN hl h3 e3
  obtain ⟨i0, hi0, hz0, hz1, hz2⟩ := info_parts info_byte
  have HO := Lib.hid (hown.alloc (.cells #[.int .u8 34] 5))
  have HN2 := Lib.hid (news_arr w 5 #[.int .u8 34])
  clear hown
  conv => arg 2; whnf
  go_wp2_with (at_builtin; refine wpList_append_own _ rfl (.tmp 56) (.tmp 57) 52 rfl B 5 i0 _ 1 1 Tryd.underlying52 hi0 hz0 hz1 hz2 rfl (by decide) v n xs rfl HO.out ⟨w.heap.size, 0, none⟩ 1 1 [.int .u8 34] rfl rfl HN2.out (by simp [Value.oneCell']) (by unfold maxLen; omega) (by omega) (by simp; omega) ?_; intro v' w' hown' hgrow _; have hcv := own_string (l := ll ++ [34]) (by rw [hnl, hxl] at hown'; simpa [byteV] using hown'))
  refine HN.out _ _ ?_ ((app_below HO.out hB hgrow))
  exact Sl.add (Sl.stay [] HS.out HF.out (by kernel_rfl) rfl trivial HL.out) (by kernel_rfl)
end Go.Proofs.YtpggcmlddmckcaaDoor
