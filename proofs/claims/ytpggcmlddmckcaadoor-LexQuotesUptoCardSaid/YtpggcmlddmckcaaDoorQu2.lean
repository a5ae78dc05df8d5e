/-
  The regions of package lex's Quote, one by one. Contract of Quote in package lex. Written by an AI agent.
-/
import Derived.Test.YtpggcmlddmckcaaDoorUq2
import Derived.Test.YtpggcmlddmckcaaDoorLq
import Derived.Lib.ConvBytes
namespace Go.Proofs.YtpggcmlddmckcaaDoor
open Go.RowKit Go.Sort
set_option maxRecDepth 100000
theorem letters_qu (a : Act) (h1 : a.tmps.size = 60) (h2 : a.defers = []) : ∃ f : Nat → Value, a = ⟨(List.toArray (f 0 :: f 1 :: f 2 :: f 3 :: f 4 :: f 5 :: f 6 :: f 7 :: f 8 :: f 9 :: f 10 :: f 11 :: f 12 :: f 13 :: f 14 :: f 15 :: f 16 :: f 17 :: f 18 :: f 19 :: f 20 :: f 21 :: f 22 :: f 23 :: f 24 :: f 25 :: f 26 :: f 27 :: f 28 :: f 29 :: f 30 :: f 31 :: f 32 :: f 33 :: f 34 :: f 35 :: f 36 :: f 37 :: f 38 :: f 39 :: f 40 :: f 41 :: f 42 :: f 43 :: f 44 :: f 45 :: f 46 :: f 47 :: f 48 :: f 49 :: f 50 :: f 51 :: f 52 :: f 53 :: f 54 :: f 55 :: f 56 :: f 57 :: f 58 :: f 59 :: [])), []⟩ ∧ ∀ k, slot a k = f k :=
  ⟨slot a, (spread a 60 h1 h2).trans (by kernel_rfl), fun _ => rfl⟩
noncomputable def r_qu (n : Nat) : Code := ((Tryd.f19.body.bind (findR n)).getD .skip)
theorem news_arr (w : World) (t : TypeId) (cs : Array Value) : ∀ (q : Nat) (u : Value), cs.toList[q]? = some u → (w.alloc (.cells cs t)).cell? ((⟨w.heap.size, 0, none⟩ : Addr).add q) = some u := fun q u h => by
  rw [Array.getElem?_toList] at h
  have := (Blk.new w t cs).cell q
  rw [h] at this
  rw [show (⟨w.heap.size, 0, none⟩ : Addr).add q = ⟨w.heap.size, q, none⟩ by simp [Addr.add]; omega]
  exact this
theorem app_far {w w' : World} {o : Obj} {r : Option Nat} (hg : (w.alloc o).grownBy w' r) (k : Nat) (hk : k < w.heap.size) (hr : r ≠ some k) : w'.heap[k]? = w.heap[k]? :=
  (hg.block k (by simp; omega) hr.symm).trans (Below.heap_alloc _ _ _ (by omega))
theorem grown_drew {w w' : World} {r : Option Nat} (h : w.drew.grownBy w' r) : w.grownBy w' r := ⟨h.os, h.tape, h.output, h.size, h.block⟩
theorem app_far0 {w w' : World} {r : Option Nat} (hg : w.grownBy w' r) (k : Nat) (hk : k < w.heap.size) (hr : r ≠ some k) : w'.heap[k]? = w.heap[k]? := hg.block k hk hr.symm
theorem app_below0 {w w' : World} {B n sz : Nat} {t : TypeId} {v : Value} {xs : List Value} (ho : w.ownsRow B t sz v n xs) (hB : B ≤ w.heap.size) (hg : w.grownBy w' v.ownBlock) : Below B w w' :=
  ⟨hg.os, hg.tape, hg.output, hg.size, fun k hk => hg.block k (by omega) (fun e => by have := (ho.lt k e.symm).1; omega)⟩
set_option maxHeartbeats 4000000 in
theorem qu_r0 (a : Act) (w : World) (N : Act → World → Prop) (Q : Exit → Act → World → Prop) (l : List (Nat × Value)) (hs : Sl 60 a l) (hl : (l.map Prod.fst).all (fun k => [0].contains k) = true)
     
    (hN : ∀ a', Sl 60 a' ((2, .string ⟨#[]⟩) :: l) → N a' (w)) : (r_qu 0).wp Tryd.prog (Exit.then N Q) a w := by
  have HN := Lib.hid hN
  have HL := Lib.hid hl
  obtain ⟨f, ea, hf⟩ : ∃ f : Nat → Value, a = ⟨(List.toArray (f 0 :: f 1 :: f 2 :: f 3 :: f 4 :: f 5 :: f 6 :: f 7 :: f 8 :: f 9 :: f 10 :: f 11 :: f 12 :: f 13 :: f 14 :: f 15 :: f 16 :: f 17 :: f 18 :: f 19 :: f 20 :: f 21 :: f 22 :: f 23 :: f 24 :: f 25 :: f 26 :: f 27 :: f 28 :: f 29 :: f 30 :: f 31 :: f 32 :: f 33 :: f 34 :: f 35 :: f 36 :: f 37 :: f 38 :: f 39 :: f 40 :: f 41 :: f 42 :: f 43 :: f 44 :: f 45 :: f 46 :: f 47 :: f 48 :: f 49 :: f 50 :: f 51 :: f 52 :: f 53 :: f 54 :: f 55 :: f 56 :: f 57 :: f 58 :: f 59 :: [])), []⟩ ∧ ∀ k, slot a k = f k := letters_qu a hs.size hs.defers
  rw [ea]
  have HS := Lib.hid hs
  have HF := Lib.hid hf
  clear hs ea hf hN hl 
  conv => arg 2; whnf
  go_wp2_with fail
  refine HN.out _ ?_
  exact Sl.add (Sl.stay [0] HS.out HF.out (by kernel_rfl) rfl ⟨by kernel_rfl, trivial⟩ HL.out) (by kernel_rfl)
set_option maxHeartbeats 4000000 in
theorem qu_r1 (a : Act) (w : World) (N : Act → World → Prop) (Q : Exit → Act → World → Prop) (l : List (Nat × Value)) (hs : Sl 60 a l) (hl : (l.map Prod.fst).all (fun k => [0].contains k) = true)
     
    (hN : ∀ a', Sl 60 a' ((3, .slice (some ⟨w.heap.size, 0, none⟩) 1 1) :: l) → N a' (w.alloc (.cells #[.int .u8 34] 5))) : (r_qu 1).wp Tryd.prog (Exit.then N Q) a w := by
  have HN := Lib.hid hN
  have HL := Lib.hid hl
  obtain ⟨f, ea, hf⟩ : ∃ f : Nat → Value, a = ⟨(List.toArray (f 0 :: f 1 :: f 2 :: f 3 :: f 4 :: f 5 :: f 6 :: f 7 :: f 8 :: f 9 :: f 10 :: f 11 :: f 12 :: f 13 :: f 14 :: f 15 :: f 16 :: f 17 :: f 18 :: f 19 :: f 20 :: f 21 :: f 22 :: f 23 :: f 24 :: f 25 :: f 26 :: f 27 :: f 28 :: f 29 :: f 30 :: f 31 :: f 32 :: f 33 :: f 34 :: f 35 :: f 36 :: f 37 :: f 38 :: f 39 :: f 40 :: f 41 :: f 42 :: f 43 :: f 44 :: f 45 :: f 46 :: f 47 :: f 48 :: f 49 :: f 50 :: f 51 :: f 52 :: f 53 :: f 54 :: f 55 :: f 56 :: f 57 :: f 58 :: f 59 :: [])), []⟩ ∧ ∀ k, slot a k = f k := letters_qu a hs.size hs.defers
  rw [ea]
  have HS := Lib.hid hs
  have HF := Lib.hid hf
  clear hs ea hf hN hl 
  conv => arg 2; whnf
  go_wp2_with fail
  refine HN.out _ ?_
  exact Sl.add (Sl.stay [0] HS.out HF.out (by kernel_rfl) rfl ⟨by kernel_rfl, trivial⟩ HL.out) (by kernel_rfl)
set_option maxHeartbeats 4000000 in
theorem qu_r2 (a : Act) (w : World) (N : Act → World → Prop) (Q : Exit → Act → World → Prop) (l : List (Nat × Value)) (hs : Sl 60 a l) (hl : (l.map Prod.fst).all (fun k => [0, 3].contains k) = true)
    (s : ByteArray) (W : World) (cap : Nat) (hc : (convert 9 52 (.string s)).run Tryd.prog w = .ok (.slice (some ⟨w.heap.size, 0, none⟩) s.size cap) W)  (h0 : l.lookup 0 = some (.string s))
    (hN : ∀ a', Sl 60 a' ((10, .int .i64 0) :: ((9, .int .i64 (s.size : Int)) :: ((8, .slice (some ⟨w.heap.size, 0, none⟩) s.size cap) :: l))) → N a' (W)) : (r_qu 2).wp Tryd.prog (Exit.then N Q) a w := by
  have HN := Lib.hid hN
  have HL := Lib.hid hl
  have e0 := hs.look 0 h0
  obtain ⟨f, ea, hf⟩ : ∃ f : Nat → Value, a = ⟨(List.toArray (f 0 :: f 1 :: f 2 :: f 3 :: f 4 :: f 5 :: f 6 :: f 7 :: f 8 :: f 9 :: f 10 :: f 11 :: f 12 :: f 13 :: f 14 :: f 15 :: f 16 :: f 17 :: f 18 :: f 19 :: f 20 :: f 21 :: f 22 :: f 23 :: f 24 :: f 25 :: f 26 :: f 27 :: f 28 :: f 29 :: f 30 :: f 31 :: f 32 :: f 33 :: f 34 :: f 35 :: f 36 :: f 37 :: f 38 :: f 39 :: f 40 :: f 41 :: f 42 :: f 43 :: f 44 :: f 45 :: f 46 :: f 47 :: f 48 :: f 49 :: f 50 :: f 51 :: f 52 :: f 53 :: f 54 :: f 55 :: f 56 :: f 57 :: f 58 :: f 59 :: [])), []⟩ ∧ ∀ k, slot a k = f k := letters_qu a hs.size hs.defers
  rw [hf] at e0
  rw [ea, e0]
  have HS := Lib.hid hs
  have HF := Lib.hid hf
  have E0 := Lib.hid e0
  clear hs ea hf hN hl h0 e0
  conv => arg 2; whnf
  go_wp2_with fail
  refine HN.out _ ?_
  exact Sl.add (Sl.add (Sl.add (Sl.stay [0, 3] HS.out HF.out (by kernel_rfl) rfl ⟨Eq.trans (by kernel_rfl) E0.out.symm, by kernel_rfl, trivial⟩ HL.out) (by kernel_rfl)) (by kernel_rfl)) (by kernel_rfl)
set_option maxHeartbeats 4000000 in
theorem qu_r3t (a : Act) (w : World) (N : Act → World → Prop) (Q : Exit → Act → World → Prop) (l : List (Nat × Value)) (hs : Sl 60 a l) (hl : (l.map Prod.fst).all (fun k => [0, 3, 8, 9, 10].contains k) = true)
    (i n : Int) (h : decide (i < n) = true)  (h9 : l.lookup 9 = some (.int .i64 n)) (h10 : l.lookup 10 = some (.int .i64 i))
    (hN : ∀ a', Sl 60 a' ((11, .bool true) :: l) → N a' (w)) : (r_qu 3).wp Tryd.prog (Exit.then N Q) a w := by
  have HN := Lib.hid hN
  have HL := Lib.hid hl
  have e9 := hs.look 9 h9
  have e10 := hs.look 10 h10
  obtain ⟨f, ea, hf⟩ : ∃ f : Nat → Value, a = ⟨(List.toArray (f 0 :: f 1 :: f 2 :: f 3 :: f 4 :: f 5 :: f 6 :: f 7 :: f 8 :: f 9 :: f 10 :: f 11 :: f 12 :: f 13 :: f 14 :: f 15 :: f 16 :: f 17 :: f 18 :: f 19 :: f 20 :: f 21 :: f 22 :: f 23 :: f 24 :: f 25 :: f 26 :: f 27 :: f 28 :: f 29 :: f 30 :: f 31 :: f 32 :: f 33 :: f 34 :: f 35 :: f 36 :: f 37 :: f 38 :: f 39 :: f 40 :: f 41 :: f 42 :: f 43 :: f 44 :: f 45 :: f 46 :: f 47 :: f 48 :: f 49 :: f 50 :: f 51 :: f 52 :: f 53 :: f 54 :: f 55 :: f 56 :: f 57 :: f 58 :: f 59 :: [])), []⟩ ∧ ∀ k, slot a k = f k := letters_qu a hs.size hs.defers
  rw [hf] at e9 e10
  rw [ea, e9, e10]
  have HS := Lib.hid hs
  have HF := Lib.hid hf
  have E9 := Lib.hid e9
  have E10 := Lib.hid e10
  clear hs ea hf hN hl h9 e9 h10 e10
  have h := of_decide_eq_true h
  conv => arg 2; whnf
  go_wp2_with fail
  refine HN.out _ ?_
  exact Sl.add (Sl.stay [0, 3, 8, 9, 10] HS.out HF.out (by kernel_rfl) rfl ⟨by kernel_rfl, by kernel_rfl, by kernel_rfl, Eq.trans (by kernel_rfl) E9.out.symm, Eq.trans (by kernel_rfl) E10.out.symm, trivial⟩ HL.out) (by kernel_rfl)
set_option maxHeartbeats 4000000 in
theorem qu_r3f (a : Act) (w : World) (N : Act → World → Prop) (Q : Exit → Act → World → Prop) (l : List (Nat × Value)) (hs : Sl 60 a l) (hl : (l.map Prod.fst).all (fun k => [0, 3, 8, 9, 10].contains k) = true)
    (i n : Int) (h : decide (i < n) = false)  (h9 : l.lookup 9 = some (.int .i64 n)) (h10 : l.lookup 10 = some (.int .i64 i))
    (hN : ∀ a', Sl 60 a' ((11, .bool false) :: l) → N a' (w)) : (r_qu 3).wp Tryd.prog (Exit.then N Q) a w := by
  have HN := Lib.hid hN
  have HL := Lib.hid hl
  have e9 := hs.look 9 h9
  have e10 := hs.look 10 h10
  obtain ⟨f, ea, hf⟩ : ∃ f : Nat → Value, a = ⟨(List.toArray (f 0 :: f 1 :: f 2 :: f 3 :: f 4 :: f 5 :: f 6 :: f 7 :: f 8 :: f 9 :: f 10 :: f 11 :: f 12 :: f 13 :: f 14 :: f 15 :: f 16 :: f 17 :: f 18 :: f 19 :: f 20 :: f 21 :: f 22 :: f 23 :: f 24 :: f 25 :: f 26 :: f 27 :: f 28 :: f 29 :: f 30 :: f 31 :: f 32 :: f 33 :: f 34 :: f 35 :: f 36 :: f 37 :: f 38 :: f 39 :: f 40 :: f 41 :: f 42 :: f 43 :: f 44 :: f 45 :: f 46 :: f 47 :: f 48 :: f 49 :: f 50 :: f 51 :: f 52 :: f 53 :: f 54 :: f 55 :: f 56 :: f 57 :: f 58 :: f 59 :: [])), []⟩ ∧ ∀ k, slot a k = f k := letters_qu a hs.size hs.defers
  rw [hf] at e9 e10
  rw [ea, e9, e10]
  have HS := Lib.hid hs
  have HF := Lib.hid hf
  have E9 := Lib.hid e9
  have E10 := Lib.hid e10
  clear hs ea hf hN hl h9 e9 h10 e10
  conv => arg 2; whnf
  go_wp2_with fail
  refine HN.out _ ?_
  exact Sl.add (Sl.stay [0, 3, 8, 9, 10] HS.out HF.out (by kernel_rfl) rfl ⟨by kernel_rfl, by kernel_rfl, by kernel_rfl, Eq.trans (by kernel_rfl) E9.out.symm, Eq.trans (by kernel_rfl) E10.out.symm, trivial⟩ HL.out) (by kernel_rfl)
set_option maxHeartbeats 4000000 in
theorem qu_r4 (a : Act) (w : World) (N : Act → World → Prop) (Q : Exit → Act → World → Prop) (l : List (Nat × Value)) (hs : Sl 60 a l) (hl : (l.map Prod.fst).all (fun k => [0, 3, 8, 9, 10].contains k) = true)
    (g n cap : Nat) (i : Nat) (c : Int) (hin : (i : Int) < (n : Int)) (hc : w.cell? ⟨g, i, none⟩ = some (.int .u8 c))  (h8 : l.lookup 8 = some (.slice (some ⟨g, 0, none⟩) n cap)) (h10 : l.lookup 10 = some (.int .i64 i))
    (hN : ∀ a', Sl 60 a' ((5, .int .u8 c) :: l) → N a' (w)) : (r_qu 4).wp Tryd.prog (Exit.then N Q) a w := by
  have HN := Lib.hid hN
  have HL := Lib.hid hl
  have e8 := hs.look 8 h8
  have e10 := hs.look 10 h10
  obtain ⟨f, ea, hf⟩ : ∃ f : Nat → Value, a = ⟨(List.toArray (f 0 :: f 1 :: f 2 :: f 3 :: f 4 :: f 5 :: f 6 :: f 7 :: f 8 :: f 9 :: f 10 :: f 11 :: f 12 :: f 13 :: f 14 :: f 15 :: f 16 :: f 17 :: f 18 :: f 19 :: f 20 :: f 21 :: f 22 :: f 23 :: f 24 :: f 25 :: f 26 :: f 27 :: f 28 :: f 29 :: f 30 :: f 31 :: f 32 :: f 33 :: f 34 :: f 35 :: f 36 :: f 37 :: f 38 :: f 39 :: f 40 :: f 41 :: f 42 :: f 43 :: f 44 :: f 45 :: f 46 :: f 47 :: f 48 :: f 49 :: f 50 :: f 51 :: f 52 :: f 53 :: f 54 :: f 55 :: f 56 :: f 57 :: f 58 :: f 59 :: [])), []⟩ ∧ ∀ k, slot a k = f k := letters_qu a hs.size hs.defers
  rw [hf] at e8 e10
  rw [ea, e8, e10]
  have HS := Lib.hid hs
  have HF := Lib.hid hf
  have E8 := Lib.hid e8
  have E10 := Lib.hid e10
  clear hs ea hf hN hl h8 e8 h10 e10
  conv => arg 2; whnf
  go_wp2_with fail
  refine HN.out _ ?_
  exact Sl.add (Sl.stay [0, 3, 8, 9, 10] HS.out HF.out (by kernel_rfl) rfl ⟨by kernel_rfl, by kernel_rfl, Eq.trans (by kernel_rfl) E8.out.symm, by kernel_rfl, Eq.trans (by kernel_rfl) E10.out.symm, trivial⟩ HL.out) (by kernel_rfl)
set_option maxHeartbeats 4000000 in
theorem qu_r6a (a : Act) (w : World) (N : Act → World → Prop) (Q : Exit → Act → World → Prop) (l : List (Nat × Value)) (hs : Sl 60 a l) (hl : (l.map Prod.fst).all (fun k => [0, 3, 8, 9, 10, 5].contains k) = true)
    (c : Int) (hb : (c == 34) = true)  (h5 : l.lookup 5 = some (.int .u8 c))
    (hN : ∀ a', Sl 60 a' ((18, .bool true) :: l) → N a' (w)) : (r_qu 6).wp Tryd.prog (Exit.then N Q) a w := by
  have HN := Lib.hid hN
  have HL := Lib.hid hl
  have e5 := hs.look 5 h5
  obtain ⟨f, ea, hf⟩ : ∃ f : Nat → Value, a = ⟨(List.toArray (f 0 :: f 1 :: f 2 :: f 3 :: f 4 :: f 5 :: f 6 :: f 7 :: f 8 :: f 9 :: f 10 :: f 11 :: f 12 :: f 13 :: f 14 :: f 15 :: f 16 :: f 17 :: f 18 :: f 19 :: f 20 :: f 21 :: f 22 :: f 23 :: f 24 :: f 25 :: f 26 :: f 27 :: f 28 :: f 29 :: f 30 :: f 31 :: f 32 :: f 33 :: f 34 :: f 35 :: f 36 :: f 37 :: f 38 :: f 39 :: f 40 :: f 41 :: f 42 :: f 43 :: f 44 :: f 45 :: f 46 :: f 47 :: f 48 :: f 49 :: f 50 :: f 51 :: f 52 :: f 53 :: f 54 :: f 55 :: f 56 :: f 57 :: f 58 :: f 59 :: [])), []⟩ ∧ ∀ k, slot a k = f k := letters_qu a hs.size hs.defers
  rw [hf] at e5
  rw [ea, e5]
  have HS := Lib.hid hs
  have HF := Lib.hid hf
  have E5 := Lib.hid e5
  clear hs ea hf hN hl h5 e5
  conv => arg 2; whnf
  go_wp2_with fail
  refine HN.out _ ?_
  exact Sl.add (Sl.stay [0, 3, 8, 9, 10, 5] HS.out HF.out (by kernel_rfl) rfl ⟨by kernel_rfl, by kernel_rfl, by kernel_rfl, by kernel_rfl, by kernel_rfl, Eq.trans (by kernel_rfl) E5.out.symm, trivial⟩ HL.out) (by kernel_rfl)
set_option maxHeartbeats 4000000 in
theorem qu_r6bt (a : Act) (w : World) (N : Act → World → Prop) (Q : Exit → Act → World → Prop) (l : List (Nat × Value)) (hs : Sl 60 a l) (hl : (l.map Prod.fst).all (fun k => [0, 3, 8, 9, 10, 5].contains k) = true)
    (c : Int) (hb : (c == 34) = false) (hb2 : (c == 92) = true)  (h5 : l.lookup 5 = some (.int .u8 c))
    (hN : ∀ a', Sl 60 a' ((18, .bool true) :: l) → N a' (w)) : (r_qu 6).wp Tryd.prog (Exit.then N Q) a w := by
  have HN := Lib.hid hN
  have HL := Lib.hid hl
  have e5 := hs.look 5 h5
  obtain ⟨f, ea, hf⟩ : ∃ f : Nat → Value, a = ⟨(List.toArray (f 0 :: f 1 :: f 2 :: f 3 :: f 4 :: f 5 :: f 6 :: f 7 :: f 8 :: f 9 :: f 10 :: f 11 :: f 12 :: f 13 :: f 14 :: f 15 :: f 16 :: f 17 :: f 18 :: f 19 :: f 20 :: f 21 :: f 22 :: f 23 :: f 24 :: f 25 :: f 26 :: f 27 :: f 28 :: f 29 :: f 30 :: f 31 :: f 32 :: f 33 :: f 34 :: f 35 :: f 36 :: f 37 :: f 38 :: f 39 :: f 40 :: f 41 :: f 42 :: f 43 :: f 44 :: f 45 :: f 46 :: f 47 :: f 48 :: f 49 :: f 50 :: f 51 :: f 52 :: f 53 :: f 54 :: f 55 :: f 56 :: f 57 :: f 58 :: f 59 :: [])), []⟩ ∧ ∀ k, slot a k = f k := letters_qu a hs.size hs.defers
  rw [hf] at e5
  rw [ea, e5]
  have HS := Lib.hid hs
  have HF := Lib.hid hf
  have E5 := Lib.hid e5
  clear hs ea hf hN hl h5 e5
  conv => arg 2; whnf
  go_wp2_with fail
  refine HN.out _ ?_
  exact Sl.add (Sl.stay [0, 3, 8, 9, 10, 5] HS.out HF.out (by kernel_rfl) rfl ⟨by kernel_rfl, by kernel_rfl, by kernel_rfl, by kernel_rfl, by kernel_rfl, Eq.trans (by kernel_rfl) E5.out.symm, trivial⟩ HL.out) (by kernel_rfl)
set_option maxHeartbeats 4000000 in
theorem qu_r6bf (a : Act) (w : World) (N : Act → World → Prop) (Q : Exit → Act → World → Prop) (l : List (Nat × Value)) (hs : Sl 60 a l) (hl : (l.map Prod.fst).all (fun k => [0, 3, 8, 9, 10, 5].contains k) = true)
    (c : Int) (hb : (c == 34) = false) (hb2 : (c == 92) = false)  (h5 : l.lookup 5 = some (.int .u8 c))
    (hN : ∀ a', Sl 60 a' ((18, .bool false) :: l) → N a' (w)) : (r_qu 6).wp Tryd.prog (Exit.then N Q) a w := by
  have HN := Lib.hid hN
  have HL := Lib.hid hl
  have e5 := hs.look 5 h5
  obtain ⟨f, ea, hf⟩ : ∃ f : Nat → Value, a = ⟨(List.toArray (f 0 :: f 1 :: f 2 :: f 3 :: f 4 :: f 5 :: f 6 :: f 7 :: f 8 :: f 9 :: f 10 :: f 11 :: f 12 :: f 13 :: f 14 :: f 15 :: f 16 :: f 17 :: f 18 :: f 19 :: f 20 :: f 21 :: f 22 :: f 23 :: f 24 :: f 25 :: f 26 :: f 27 :: f 28 :: f 29 :: f 30 :: f 31 :: f 32 :: f 33 :: f 34 :: f 35 :: f 36 :: f 37 :: f 38 :: f 39 :: f 40 :: f 41 :: f 42 :: f 43 :: f 44 :: f 45 :: f 46 :: f 47 :: f 48 :: f 49 :: f 50 :: f 51 :: f 52 :: f 53 :: f 54 :: f 55 :: f 56 :: f 57 :: f 58 :: f 59 :: [])), []⟩ ∧ ∀ k, slot a k = f k := letters_qu a hs.size hs.defers
  rw [hf] at e5
  rw [ea, e5]
  have HS := Lib.hid hs
  have HF := Lib.hid hf
  have E5 := Lib.hid e5
  clear hs ea hf hN hl h5 e5
  conv => arg 2; whnf
  go_wp2_with fail
  refine HN.out _ ?_
  exact Sl.add (Sl.stay [0, 3, 8, 9, 10, 5] HS.out HF.out (by kernel_rfl) rfl ⟨by kernel_rfl, by kernel_rfl, by kernel_rfl, by kernel_rfl, by kernel_rfl, Eq.trans (by kernel_rfl) E5.out.symm, trivial⟩ HL.out) (by kernel_rfl)
set_option maxHeartbeats 4000000 in
theorem qu_r12a (a : Act) (w : World) (N : Act → World → Prop) (Q : Exit → Act → World → Prop) (l : List (Nat × Value)) (hs : Sl 60 a l) (hl : (l.map Prod.fst).all (fun k => [0, 3, 8, 9, 10, 5].contains k) = true)
    (c : Int) (hb : c < 32)  (h5 : l.lookup 5 = some (.int .u8 c))
    (hN : ∀ a', Sl 60 a' ((39, .bool true) :: l) → N a' (w)) : (r_qu 12).wp Tryd.prog (Exit.then N Q) a w := by
  have HN := Lib.hid hN
  have HL := Lib.hid hl
  have e5 := hs.look 5 h5
  obtain ⟨f, ea, hf⟩ : ∃ f : Nat → Value, a = ⟨(List.toArray (f 0 :: f 1 :: f 2 :: f 3 :: f 4 :: f 5 :: f 6 :: f 7 :: f 8 :: f 9 :: f 10 :: f 11 :: f 12 :: f 13 :: f 14 :: f 15 :: f 16 :: f 17 :: f 18 :: f 19 :: f 20 :: f 21 :: f 22 :: f 23 :: f 24 :: f 25 :: f 26 :: f 27 :: f 28 :: f 29 :: f 30 :: f 31 :: f 32 :: f 33 :: f 34 :: f 35 :: f 36 :: f 37 :: f 38 :: f 39 :: f 40 :: f 41 :: f 42 :: f 43 :: f 44 :: f 45 :: f 46 :: f 47 :: f 48 :: f 49 :: f 50 :: f 51 :: f 52 :: f 53 :: f 54 :: f 55 :: f 56 :: f 57 :: f 58 :: f 59 :: [])), []⟩ ∧ ∀ k, slot a k = f k := letters_qu a hs.size hs.defers
  rw [hf] at e5
  rw [ea, e5]
  have HS := Lib.hid hs
  have HF := Lib.hid hf
  have E5 := Lib.hid e5
  clear hs ea hf hN hl h5 e5
  conv => arg 2; whnf
  go_wp2_with fail
  refine HN.out _ ?_
  exact Sl.add (Sl.stay [0, 3, 8, 9, 10, 5] HS.out HF.out (by kernel_rfl) rfl ⟨by kernel_rfl, by kernel_rfl, by kernel_rfl, by kernel_rfl, by kernel_rfl, Eq.trans (by kernel_rfl) E5.out.symm, trivial⟩ HL.out) (by kernel_rfl)
set_option maxHeartbeats 4000000 in
theorem qu_r12bt (a : Act) (w : World) (N : Act → World → Prop) (Q : Exit → Act → World → Prop) (l : List (Nat × Value)) (hs : Sl 60 a l) (hl : (l.map Prod.fst).all (fun k => [0, 3, 8, 9, 10, 5].contains k) = true)
    (c : Int) (hb : decide (c < 32) = false) (hb2 : 126 < c)  (h5 : l.lookup 5 = some (.int .u8 c))
    (hN : ∀ a', Sl 60 a' ((39, .bool true) :: l) → N a' (w)) : (r_qu 12).wp Tryd.prog (Exit.then N Q) a w := by
  have HN := Lib.hid hN
  have HL := Lib.hid hl
  have e5 := hs.look 5 h5
  obtain ⟨f, ea, hf⟩ : ∃ f : Nat → Value, a = ⟨(List.toArray (f 0 :: f 1 :: f 2 :: f 3 :: f 4 :: f 5 :: f 6 :: f 7 :: f 8 :: f 9 :: f 10 :: f 11 :: f 12 :: f 13 :: f 14 :: f 15 :: f 16 :: f 17 :: f 18 :: f 19 :: f 20 :: f 21 :: f 22 :: f 23 :: f 24 :: f 25 :: f 26 :: f 27 :: f 28 :: f 29 :: f 30 :: f 31 :: f 32 :: f 33 :: f 34 :: f 35 :: f 36 :: f 37 :: f 38 :: f 39 :: f 40 :: f 41 :: f 42 :: f 43 :: f 44 :: f 45 :: f 46 :: f 47 :: f 48 :: f 49 :: f 50 :: f 51 :: f 52 :: f 53 :: f 54 :: f 55 :: f 56 :: f 57 :: f 58 :: f 59 :: [])), []⟩ ∧ ∀ k, slot a k = f k := letters_qu a hs.size hs.defers
  rw [hf] at e5
  rw [ea, e5]
  have HS := Lib.hid hs
  have HF := Lib.hid hf
  have E5 := Lib.hid e5
  clear hs ea hf hN hl h5 e5
  conv => arg 2; whnf
  go_wp2_with fail
  refine HN.out _ ?_
  exact Sl.add (Sl.stay [0, 3, 8, 9, 10, 5] HS.out HF.out (by kernel_rfl) rfl ⟨by kernel_rfl, by kernel_rfl, by kernel_rfl, by kernel_rfl, by kernel_rfl, Eq.trans (by kernel_rfl) E5.out.symm, trivial⟩ HL.out) (by kernel_rfl)
set_option maxHeartbeats 4000000 in
theorem qu_r12bf (a : Act) (w : World) (N : Act → World → Prop) (Q : Exit → Act → World → Prop) (l : List (Nat × Value)) (hs : Sl 60 a l) (hl : (l.map Prod.fst).all (fun k => [0, 3, 8, 9, 10, 5].contains k) = true)
    (c : Int) (hb : decide (c < 32) = false) (hb2 : decide (126 < c) = false)  (h5 : l.lookup 5 = some (.int .u8 c))
    (hN : ∀ a', Sl 60 a' ((39, .bool false) :: l) → N a' (w)) : (r_qu 12).wp Tryd.prog (Exit.then N Q) a w := by
  have HN := Lib.hid hN
  have HL := Lib.hid hl
  have e5 := hs.look 5 h5
  obtain ⟨f, ea, hf⟩ : ∃ f : Nat → Value, a = ⟨(List.toArray (f 0 :: f 1 :: f 2 :: f 3 :: f 4 :: f 5 :: f 6 :: f 7 :: f 8 :: f 9 :: f 10 :: f 11 :: f 12 :: f 13 :: f 14 :: f 15 :: f 16 :: f 17 :: f 18 :: f 19 :: f 20 :: f 21 :: f 22 :: f 23 :: f 24 :: f 25 :: f 26 :: f 27 :: f 28 :: f 29 :: f 30 :: f 31 :: f 32 :: f 33 :: f 34 :: f 35 :: f 36 :: f 37 :: f 38 :: f 39 :: f 40 :: f 41 :: f 42 :: f 43 :: f 44 :: f 45 :: f 46 :: f 47 :: f 48 :: f 49 :: f 50 :: f 51 :: f 52 :: f 53 :: f 54 :: f 55 :: f 56 :: f 57 :: f 58 :: f 59 :: [])), []⟩ ∧ ∀ k, slot a k = f k := letters_qu a hs.size hs.defers
  rw [hf] at e5
  rw [ea, e5]
  have HS := Lib.hid hs
  have HF := Lib.hid hf
  have E5 := Lib.hid e5
  clear hs ea hf hN hl h5 e5
  conv => arg 2; whnf
  go_wp2_with fail
  refine HN.out _ ?_
  exact Sl.add (Sl.stay [0, 3, 8, 9, 10, 5] HS.out HF.out (by kernel_rfl) rfl ⟨by kernel_rfl, by kernel_rfl, by kernel_rfl, by kernel_rfl, by kernel_rfl, Eq.trans (by kernel_rfl) E5.out.symm, trivial⟩ HL.out) (by kernel_rfl)
set_option maxHeartbeats 4000000 in
theorem qu_r8 (a : Act) (w : World) (N : Act → World → Prop) (Q : Exit → Act → World → Prop) (l : List (Nat × Value)) (hs : Sl 60 a l) (hl : (l.map Prod.fst).all (fun k => [0, 3, 8, 9, 10, 5].contains k) = true)
    (c : Int) (b : Bool) (hb : (c == 10) = b)  (h5 : l.lookup 5 = some (.int .u8 c))
    (hN : ∀ a', Sl 60 a' ((29, .bool b) :: l) → N a' (w)) : (r_qu 8).wp Tryd.prog (Exit.then N Q) a w := by
  have HN := Lib.hid hN
  have HL := Lib.hid hl
  have e5 := hs.look 5 h5
  obtain ⟨f, ea, hf⟩ : ∃ f : Nat → Value, a = ⟨(List.toArray (f 0 :: f 1 :: f 2 :: f 3 :: f 4 :: f 5 :: f 6 :: f 7 :: f 8 :: f 9 :: f 10 :: f 11 :: f 12 :: f 13 :: f 14 :: f 15 :: f 16 :: f 17 :: f 18 :: f 19 :: f 20 :: f 21 :: f 22 :: f 23 :: f 24 :: f 25 :: f 26 :: f 27 :: f 28 :: f 29 :: f 30 :: f 31 :: f 32 :: f 33 :: f 34 :: f 35 :: f 36 :: f 37 :: f 38 :: f 39 :: f 40 :: f 41 :: f 42 :: f 43 :: f 44 :: f 45 :: f 46 :: f 47 :: f 48 :: f 49 :: f 50 :: f 51 :: f 52 :: f 53 :: f 54 :: f 55 :: f 56 :: f 57 :: f 58 :: f 59 :: [])), []⟩ ∧ ∀ k, slot a k = f k := letters_qu a hs.size hs.defers
  rw [hf] at e5
  rw [ea, e5]
  have HS := Lib.hid hs
  have HF := Lib.hid hf
  have E5 := Lib.hid e5
  clear hs ea hf hN hl h5 e5
  conv => arg 2; whnf
  go_wp2_with fail
  refine HN.out _ ?_
  exact Sl.add (Sl.stay [0, 3, 8, 9, 10, 5] HS.out HF.out (by kernel_rfl) rfl ⟨by kernel_rfl, by kernel_rfl, by kernel_rfl, by kernel_rfl, by kernel_rfl, Eq.trans (by kernel_rfl) E5.out.symm, trivial⟩ HL.out) (by kernel_rfl)
set_option maxHeartbeats 4000000 in
theorem qu_r10 (a : Act) (w : World) (N : Act → World → Prop) (Q : Exit → Act → World → Prop) (l : List (Nat × Value)) (hs : Sl 60 a l) (hl : (l.map Prod.fst).all (fun k => [0, 3, 8, 9, 10, 5].contains k) = true)
    (c : Int) (b : Bool) (hb : (c == 9) = b)  (h5 : l.lookup 5 = some (.int .u8 c))
    (hN : ∀ a', Sl 60 a' ((34, .bool b) :: l) → N a' (w)) : (r_qu 10).wp Tryd.prog (Exit.then N Q) a w := by
  have HN := Lib.hid hN
  have HL := Lib.hid hl
  have e5 := hs.look 5 h5
  obtain ⟨f, ea, hf⟩ : ∃ f : Nat → Value, a = ⟨(List.toArray (f 0 :: f 1 :: f 2 :: f 3 :: f 4 :: f 5 :: f 6 :: f 7 :: f 8 :: f 9 :: f 10 :: f 11 :: f 12 :: f 13 :: f 14 :: f 15 :: f 16 :: f 17 :: f 18 :: f 19 :: f 20 :: f 21 :: f 22 :: f 23 :: f 24 :: f 25 :: f 26 :: f 27 :: f 28 :: f 29 :: f 30 :: f 31 :: f 32 :: f 33 :: f 34 :: f 35 :: f 36 :: f 37 :: f 38 :: f 39 :: f 40 :: f 41 :: f 42 :: f 43 :: f 44 :: f 45 :: f 46 :: f 47 :: f 48 :: f 49 :: f 50 :: f 51 :: f 52 :: f 53 :: f 54 :: f 55 :: f 56 :: f 57 :: f 58 :: f 59 :: [])), []⟩ ∧ ∀ k, slot a k = f k := letters_qu a hs.size hs.defers
  rw [hf] at e5
  rw [ea, e5]
  have HS := Lib.hid hs
  have HF := Lib.hid hf
  have E5 := Lib.hid e5
  clear hs ea hf hN hl h5 e5
  conv => arg 2; whnf
  go_wp2_with fail
  refine HN.out _ ?_
  exact Sl.add (Sl.stay [0, 3, 8, 9, 10, 5] HS.out HF.out (by kernel_rfl) rfl ⟨by kernel_rfl, by kernel_rfl, by kernel_rfl, by kernel_rfl, by kernel_rfl, Eq.trans (by kernel_rfl) E5.out.symm, trivial⟩ HL.out) (by kernel_rfl)
set_option maxHeartbeats 4000000 in
theorem qu_r7 (a : Act) (w : World) (N : Act → World → Prop) (Q : Exit → Act → World → Prop) (l : List (Nat × Value)) (hs : Sl 60 a l) (hl : (l.map Prod.fst).all (fun k => [0, 8, 9, 10].contains k) = true)
    (c : Int) (v : Value) (B n : Nat) (xs : List Value) (hown : w.ownsRow B 5 1 v n xs) (hn : n ≤ 140737488355320) (hB : B ≤ w.heap.size)  (h3 : slot a 3 = v) (h5 : slot a 5 = .int .u8 c)
    (hN : ∀ a' w' v', Sl 60 a' ((3, v') :: l) → w'.ownsRow B 5 1 v' (n + 2) (xs ++ [.int .u8 92, .int .u8 c]) → Below B w w' → (∀ k, k < w.heap.size → v.ownBlock ≠ some k → w'.heap[k]? = w.heap[k]?) → N a' w') : (r_qu 7).wp Tryd.prog (Exit.then N Q) a w := by
  have HN := Lib.hid hN
  have HL := Lib.hid hl
  have e3 := h3
  have e5 := h5
  obtain ⟨f, ea, hf⟩ : ∃ f : Nat → Value, a = ⟨(List.toArray (f 0 :: f 1 :: f 2 :: f 3 :: f 4 :: f 5 :: f 6 :: f 7 :: f 8 :: f 9 :: f 10 :: f 11 :: f 12 :: f 13 :: f 14 :: f 15 :: f 16 :: f 17 :: f 18 :: f 19 :: f 20 :: f 21 :: f 22 :: f 23 :: f 24 :: f 25 :: f 26 :: f 27 :: f 28 :: f 29 :: f 30 :: f 31 :: f 32 :: f 33 :: f 34 :: f 35 :: f 36 :: f 37 :: f 38 :: f 39 :: f 40 :: f 41 :: f 42 :: f 43 :: f 44 :: f 45 :: f 46 :: f 47 :: f 48 :: f 49 :: f 50 :: f 51 :: f 52 :: f 53 :: f 54 :: f 55 :: f 56 :: f 57 :: f 58 :: f 59 :: [])), []⟩ ∧ ∀ k, slot a k = f k := letters_qu a hs.size hs.defers
  rw [hf] at e3 e5
  rw [ea, e3, e5]
  have HS := Lib.hid hs
  have HF := Lib.hid hf
  have E3 := Lib.hid e3
  have E5 := Lib.hid e5
  clear hs ea hf hN hl h3 e3 h5 e5
  obtain ⟨i0, hi0, hz0, hz1, hz2⟩ := info_parts info_byte
  have HO := Lib.hid (hown.alloc (.cells #[.int .u8 92, .int .u8 c] 5))
  have HN2 := Lib.hid (news_arr w 5 #[.int .u8 92, .int .u8 c])
  clear hown
  conv => arg 2; whnf
  go_wp2_with (at_builtin; refine wpList_append_own _ rfl (.tmp 25) (.tmp 27) 52 rfl B 5 i0 _ 1 1 Tryd.underlying52 hi0 hz0 hz1 hz2 rfl (by decide) v n xs rfl HO.out ⟨w.heap.size, 0, none⟩ 2 2 [.int .u8 92, .int .u8 c] rfl rfl HN2.out (by simp [Value.oneCell']) (by unfold maxLen; omega) (by omega) (by simp; omega) ?_; intro v' w' hown' hgrow _)
  refine HN.out _ _ _ ?_ hown' ((app_below HO.out hB hgrow)) ((app_far hgrow))
  exact Sl.add (Sl.stay [0, 8, 9, 10] HS.out HF.out (by kernel_rfl) rfl ⟨by kernel_rfl, by kernel_rfl, by kernel_rfl, by kernel_rfl, trivial⟩ HL.out) (by kernel_rfl)
set_option maxHeartbeats 4000000 in
theorem qu_r9 (a : Act) (w : World) (N : Act → World → Prop) (Q : Exit → Act → World → Prop) (l : List (Nat × Value)) (hs : Sl 60 a l) (hl : (l.map Prod.fst).all (fun k => [0, 8, 9, 10].contains k) = true)
    (v : Value) (B n : Nat) (xs : List Value) (hown : w.ownsRow B 5 1 v n xs) (hn : n ≤ 140737488355320) (hB : B ≤ w.heap.size)  (h3 : slot a 3 = v)
    (hN : ∀ a' w' v', Sl 60 a' ((3, v') :: l) → w'.ownsRow B 5 1 v' (n + 2) (xs ++ [.int .u8 92, .int .u8 110]) → Below B w w' → (∀ k, k < w.heap.size → v.ownBlock ≠ some k → w'.heap[k]? = w.heap[k]?) → N a' w') : (r_qu 9).wp Tryd.prog (Exit.then N Q) a w := by
  have HN := Lib.hid hN
  have HL := Lib.hid hl
  have e3 := h3
  obtain ⟨f, ea, hf⟩ : ∃ f : Nat → Value, a = ⟨(List.toArray (f 0 :: f 1 :: f 2 :: f 3 :: f 4 :: f 5 :: f 6 :: f 7 :: f 8 :: f 9 :: f 10 :: f 11 :: f 12 :: f 13 :: f 14 :: f 15 :: f 16 :: f 17 :: f 18 :: f 19 :: f 20 :: f 21 :: f 22 :: f 23 :: f 24 :: f 25 :: f 26 :: f 27 :: f 28 :: f 29 :: f 30 :: f 31 :: f 32 :: f 33 :: f 34 :: f 35 :: f 36 :: f 37 :: f 38 :: f 39 :: f 40 :: f 41 :: f 42 :: f 43 :: f 44 :: f 45 :: f 46 :: f 47 :: f 48 :: f 49 :: f 50 :: f 51 :: f 52 :: f 53 :: f 54 :: f 55 :: f 56 :: f 57 :: f 58 :: f 59 :: [])), []⟩ ∧ ∀ k, slot a k = f k := letters_qu a hs.size hs.defers
  rw [hf] at e3
  rw [ea, e3]
  have HS := Lib.hid hs
  have HF := Lib.hid hf
  have E3 := Lib.hid e3
  clear hs ea hf hN hl h3 e3
  obtain ⟨i0, hi0, hz0, hz1, hz2⟩ := info_parts info_byte
  have HW := Lib.hid hown
  clear hown
  conv => arg 2; whnf
  go_wp2_with (at_builtin; go_loud (refine Lib.wpList_append_own_string _ rfl (.tmp 32) (.const (.string ⟨#[92, 110]⟩)) 52 9 rfl B 5 i0 Tryd.underlying52 Tryd.underlying9 hi0 hz0 hz1 hz2 v n xs rfl HW.out ⟨#[92, 110]⟩ rfl (by have h2 : (⟨#[92, 110]⟩ : ByteArray).size = 2 := rfl; unfold maxLen; omega) (by have h2 : (⟨#[92, 110]⟩ : ByteArray).size = 2 := rfl; omega) (by omega) ?_; intro v' w' hown' hgrow _))
  refine HN.out _ _ _ ?_ hown' ((app_below0 HW.out hB hgrow)) ((app_far0 hgrow))
  exact Sl.add (Sl.stay [0, 8, 9, 10] HS.out HF.out (by kernel_rfl) rfl ⟨by kernel_rfl, by kernel_rfl, by kernel_rfl, by kernel_rfl, trivial⟩ HL.out) (by kernel_rfl)
set_option maxHeartbeats 4000000 in
theorem qu_r11 (a : Act) (w : World) (N : Act → World → Prop) (Q : Exit → Act → World → Prop) (l : List (Nat × Value)) (hs : Sl 60 a l) (hl : (l.map Prod.fst).all (fun k => [0, 8, 9, 10].contains k) = true)
    (v : Value) (B n : Nat) (xs : List Value) (hown : w.ownsRow B 5 1 v n xs) (hn : n ≤ 140737488355320) (hB : B ≤ w.heap.size)  (h3 : slot a 3 = v)
    (hN : ∀ a' w' v', Sl 60 a' ((3, v') :: l) → w'.ownsRow B 5 1 v' (n + 2) (xs ++ [.int .u8 92, .int .u8 116]) → Below B w w' → (∀ k, k < w.heap.size → v.ownBlock ≠ some k → w'.heap[k]? = w.heap[k]?) → N a' w') : (r_qu 11).wp Tryd.prog (Exit.then N Q) a w := by
  have HN := Lib.hid hN
  have HL := Lib.hid hl
  have e3 := h3
  obtain ⟨f, ea, hf⟩ : ∃ f : Nat → Value, a = ⟨(List.toArray (f 0 :: f 1 :: f 2 :: f 3 :: f 4 :: f 5 :: f 6 :: f 7 :: f 8 :: f 9 :: f 10 :: f 11 :: f 12 :: f 13 :: f 14 :: f 15 :: f 16 :: f 17 :: f 18 :: f 19 :: f 20 :: f 21 :: f 22 :: f 23 :: f 24 :: f 25 :: f 26 :: f 27 :: f 28 :: f 29 :: f 30 :: f 31 :: f 32 :: f 33 :: f 34 :: f 35 :: f 36 :: f 37 :: f 38 :: f 39 :: f 40 :: f 41 :: f 42 :: f 43 :: f 44 :: f 45 :: f 46 :: f 47 :: f 48 :: f 49 :: f 50 :: f 51 :: f 52 :: f 53 :: f 54 :: f 55 :: f 56 :: f 57 :: f 58 :: f 59 :: [])), []⟩ ∧ ∀ k, slot a k = f k := letters_qu a hs.size hs.defers
  rw [hf] at e3
  rw [ea, e3]
  have HS := Lib.hid hs
  have HF := Lib.hid hf
  have E3 := Lib.hid e3
  clear hs ea hf hN hl h3 e3
  obtain ⟨i0, hi0, hz0, hz1, hz2⟩ := info_parts info_byte
  have HW := Lib.hid hown
  clear hown
  conv => arg 2; whnf
  go_wp2_with (at_builtin; go_loud (refine Lib.wpList_append_own_string _ rfl (.tmp 37) (.const (.string ⟨#[92, 116]⟩)) 52 9 rfl B 5 i0 Tryd.underlying52 Tryd.underlying9 hi0 hz0 hz1 hz2 v n xs rfl HW.out ⟨#[92, 116]⟩ rfl (by have h2 : (⟨#[92, 116]⟩ : ByteArray).size = 2 := rfl; unfold maxLen; omega) (by have h2 : (⟨#[92, 116]⟩ : ByteArray).size = 2 := rfl; omega) (by omega) ?_; intro v' w' hown' hgrow _))
  refine HN.out _ _ _ ?_ hown' ((app_below0 HW.out hB hgrow)) ((app_far0 hgrow))
  exact Sl.add (Sl.stay [0, 8, 9, 10] HS.out HF.out (by kernel_rfl) rfl ⟨by kernel_rfl, by kernel_rfl, by kernel_rfl, by kernel_rfl, trivial⟩ HL.out) (by kernel_rfl)
set_option maxHeartbeats 4000000 in
theorem qu_r13 (a : Act) (w : World) (N : Act → World → Prop) (Q : Exit → Act → World → Prop) (l : List (Nat × Value)) (hs : Sl 60 a l) (hl : (l.map Prod.fst).all (fun k => [0, 8, 9, 10].contains k) = true)
    (c d1 d2 : Int) (hx1 : ∀ w, (Instr.index 9 (.string ⟨#[48, 49, 50, 51, 52, 53, 54, 55, 56, 57, 97, 98, 99, 100, 101, 102]⟩) (.int .u8 (c.tdiv 16 % 256))).run Tryd.prog w = .ok (.int .u8 d1) w) (hx2 : ∀ w, (Instr.index 9 (.string ⟨#[48, 49, 50, 51, 52, 53, 54, 55, 56, 57, 97, 98, 99, 100, 101, 102]⟩) (.int .u8 (c.tmod 16))).run Tryd.prog w = .ok (.int .u8 d2) w) (v : Value) (B n : Nat) (xs : List Value) (hown : w.ownsRow B 5 1 v n xs) (hn : n ≤ 140737488355320) (hB : B ≤ w.heap.size)  (h3 : slot a 3 = v) (h5 : slot a 5 = .int .u8 c)
    (hN : ∀ a' w' v', Sl 60 a' ((3, v') :: l) → w'.ownsRow B 5 1 v' (n + 4) (xs ++ [.int .u8 92, .int .u8 120, .int .u8 d1, .int .u8 d2]) → Below B w w' → (∀ k, k < w.heap.size → v.ownBlock ≠ some k → w'.heap[k]? = w.heap[k]?) → N a' w') : (r_qu 13).wp Tryd.prog (Exit.then N Q) a w := by
  have HN := Lib.hid hN
  have HL := Lib.hid hl
  have e3 := h3
  have e5 := h5
  obtain ⟨f, ea, hf⟩ : ∃ f : Nat → Value, a = ⟨(List.toArray (f 0 :: f 1 :: f 2 :: f 3 :: f 4 :: f 5 :: f 6 :: f 7 :: f 8 :: f 9 :: f 10 :: f 11 :: f 12 :: f 13 :: f 14 :: f 15 :: f 16 :: f 17 :: f 18 :: f 19 :: f 20 :: f 21 :: f 22 :: f 23 :: f 24 :: f 25 :: f 26 :: f 27 :: f 28 :: f 29 :: f 30 :: f 31 :: f 32 :: f 33 :: f 34 :: f 35 :: f 36 :: f 37 :: f 38 :: f 39 :: f 40 :: f 41 :: f 42 :: f 43 :: f 44 :: f 45 :: f 46 :: f 47 :: f 48 :: f 49 :: f 50 :: f 51 :: f 52 :: f 53 :: f 54 :: f 55 :: f 56 :: f 57 :: f 58 :: f 59 :: [])), []⟩ ∧ ∀ k, slot a k = f k := letters_qu a hs.size hs.defers
  rw [hf] at e3 e5
  rw [ea, e3, e5]
  have HS := Lib.hid hs
  have HF := Lib.hid hf
  have E3 := Lib.hid e3
  have E5 := Lib.hid e5
  clear hs ea hf hN hl h3 e3 h5 e5
  obtain ⟨i0, hi0, hz0, hz1, hz2⟩ := info_parts info_byte
  have HO := Lib.hid (hown.alloc (.cells #[.int .u8 92, .int .u8 120, .int .u8 d1, .int .u8 d2] 5))
  have HN2 := Lib.hid (news_arr w 5 #[.int .u8 92, .int .u8 120, .int .u8 d1, .int .u8 d2])
  clear hown
  conv => arg 2; whnf
  refine wp_region_eff (fun _ => True) [0, 1, 2, 3, 4, 5, 6] [7] [_, _, _, _, _, _, _] [_] [_, _] 8 (by kernel_rfl) rfl rfl rfl rfl (by kernel_rfl) ?_
  iterate 7
    apply wpP_step _ rfl (by simp) rfl
    · rintro W _
      go_wp2_with fail
      exact ⟨rfl, rfl⟩
    · rfl
  refine wpP_nil ?_
  refine And.intro trivial ?_
  go_wp2_with fail
  refine And.intro trivial ?_
  change wpList _ _ _ _ _ _
  go_wp2_with (at_builtin; refine wpList_append_own _ rfl (.tmp 46) (.tmp 53) 52 rfl B 5 i0 _ 1 1 Tryd.underlying52 hi0 hz0 hz1 hz2 rfl (by decide) v n xs rfl HO.out ⟨w.heap.size, 0, none⟩ 4 4 [.int .u8 92, .int .u8 120, .int .u8 d1, .int .u8 d2] rfl rfl HN2.out (by simp [Value.oneCell']) (by unfold maxLen; omega) (by omega) (by simp; omega) ?_; intro v' w' hown' hgrow _)
  refine HN.out _ _ _ ?_ hown' ((app_below HO.out hB (grown_drew hgrow))) ((app_far (grown_drew hgrow)))
  exact Sl.add (Sl.stay [0, 8, 9, 10] HS.out HF.out (by kernel_rfl) rfl ⟨by kernel_rfl, by kernel_rfl, by kernel_rfl, by kernel_rfl, trivial⟩ HL.out) (by kernel_rfl)
set_option maxHeartbeats 4000000 in
theorem qu_r5 (a : Act) (w : World) (N : Act → World → Prop) (Q : Exit → Act → World → Prop) (l : List (Nat × Value)) (hs : Sl 60 a l) (hl : (l.map Prod.fst).all (fun k => [0, 8, 9, 10].contains k) = true)
    (c : Int) (v : Value) (B n : Nat) (xs : List Value) (hown : w.ownsRow B 5 1 v n xs) (hn : n ≤ 140737488355320) (hB : B ≤ w.heap.size)  (h3 : slot a 3 = v) (h5 : slot a 5 = .int .u8 c)
    (hN : ∀ a' w' v', Sl 60 a' ((3, v') :: l) → w'.ownsRow B 5 1 v' (n + 1) (xs ++ [.int .u8 c]) → Below B w w' → (∀ k, k < w.heap.size → v.ownBlock ≠ some k → w'.heap[k]? = w.heap[k]?) → N a' w') : (r_qu 5).wp Tryd.prog (Exit.then N Q) a w := by
  have HN := Lib.hid hN
  have HL := Lib.hid hl
  have e3 := h3
  have e5 := h5
  obtain ⟨f, ea, hf⟩ : ∃ f : Nat → Value, a = ⟨(List.toArray (f 0 :: f 1 :: f 2 :: f 3 :: f 4 :: f 5 :: f 6 :: f 7 :: f 8 :: f 9 :: f 10 :: f 11 :: f 12 :: f 13 :: f 14 :: f 15 :: f 16 :: f 17 :: f 18 :: f 19 :: f 20 :: f 21 :: f 22 :: f 23 :: f 24 :: f 25 :: f 26 :: f 27 :: f 28 :: f 29 :: f 30 :: f 31 :: f 32 :: f 33 :: f 34 :: f 35 :: f 36 :: f 37 :: f 38 :: f 39 :: f 40 :: f 41 :: f 42 :: f 43 :: f 44 :: f 45 :: f 46 :: f 47 :: f 48 :: f 49 :: f 50 :: f 51 :: f 52 :: f 53 :: f 54 :: f 55 :: f 56 :: f 57 :: f 58 :: f 59 :: [])), []⟩ ∧ ∀ k, slot a k = f k := letters_qu a hs.size hs.defers
  rw [hf] at e3 e5
  rw [ea, e3, e5]
  have HS := Lib.hid hs
  have HF := Lib.hid hf
  have E3 := Lib.hid e3
  have E5 := Lib.hid e5
  clear hs ea hf hN hl h3 e3 h5 e5
  obtain ⟨i0, hi0, hz0, hz1, hz2⟩ := info_parts info_byte
  have HO := Lib.hid (hown.alloc (.cells #[.int .u8 c] 5))
  have HN2 := Lib.hid (news_arr w 5 #[.int .u8 c])
  clear hown
  conv => arg 2; whnf
  go_wp2_with (at_builtin; refine wpList_append_own _ rfl (.tmp 14) (.tmp 16) 52 rfl B 5 i0 _ 1 1 Tryd.underlying52 hi0 hz0 hz1 hz2 rfl (by decide) v n xs rfl HO.out ⟨w.heap.size, 0, none⟩ 1 1 [.int .u8 c] rfl rfl HN2.out (by simp [Value.oneCell']) (by unfold maxLen; omega) (by omega) (by simp; omega) ?_; intro v' w' hown' hgrow _)
  refine HN.out _ _ _ ?_ hown' ((app_below HO.out hB hgrow)) ((app_far hgrow))
  exact Sl.add (Sl.stay [0, 8, 9, 10] HS.out HF.out (by kernel_rfl) rfl ⟨by kernel_rfl, by kernel_rfl, by kernel_rfl, by kernel_rfl, trivial⟩ HL.out) (by kernel_rfl)
set_option maxHeartbeats 4000000 in
theorem qu_r14 (a : Act) (w : World) (N : Act → World → Prop) (Q : Exit → Act → World → Prop) (l : List (Nat × Value)) (hs : Sl 60 a l) (hl : (l.map Prod.fst).all (fun k => [0, 3, 8, 9].contains k) = true)
    (i : Int) (i0 : 0 ≤ i) (i1 : i ≤ 140737488355328)  (h10 : slot a 10 = .int .i64 i)
    (hN : ∀ a', Sl 60 a' ((10, .int .i64 (i + 1)) :: l) → N a' (w)) : (r_qu 14).wp Tryd.prog (Exit.then N Q) a w := by
  have HN := Lib.hid hN
  have HL := Lib.hid hl
  have e10 := h10
  obtain ⟨f, ea, hf⟩ : ∃ f : Nat → Value, a = ⟨(List.toArray (f 0 :: f 1 :: f 2 :: f 3 :: f 4 :: f 5 :: f 6 :: f 7 :: f 8 :: f 9 :: f 10 :: f 11 :: f 12 :: f 13 :: f 14 :: f 15 :: f 16 :: f 17 :: f 18 :: f 19 :: f 20 :: f 21 :: f 22 :: f 23 :: f 24 :: f 25 :: f 26 :: f 27 :: f 28 :: f 29 :: f 30 :: f 31 :: f 32 :: f 33 :: f 34 :: f 35 :: f 36 :: f 37 :: f 38 :: f 39 :: f 40 :: f 41 :: f 42 :: f 43 :: f 44 :: f 45 :: f 46 :: f 47 :: f 48 :: f 49 :: f 50 :: f 51 :: f 52 :: f 53 :: f 54 :: f 55 :: f 56 :: f 57 :: f 58 :: f 59 :: [])), []⟩ ∧ ∀ k, slot a k = f k := letters_qu a hs.size hs.defers
  rw [hf] at e10
  rw [ea, e10]
  have HS := Lib.hid hs
  have HF := Lib.hid hf
  have E10 := Lib.hid e10
  clear hs ea hf hN hl h10 e10
  conv => arg 2; whnf
  go_wp2_with fail
  refine HN.out _ ?_
  exact Sl.add (Sl.stay [0, 3, 8, 9] HS.out HF.out (by kernel_rfl) rfl ⟨by kernel_rfl, by kernel_rfl, by kernel_rfl, by kernel_rfl, trivial⟩ HL.out) (by kernel_rfl)
set_option maxHeartbeats 4000000 in
theorem qu_r15 (a : Act) (w : World) (N : Act → World → Prop) (Q : Exit → Act → World → Prop) (l : List (Nat × Value)) (hs : Sl 60 a l) (hl : (l.map Prod.fst).all (fun k => [].contains k) = true)
    (v : Value) (B n : Nat) (xs : List Value) (ll : List UInt8) (hnl : n = ll.length) (hxl : xs = ll.map byteV) (hown : w.ownsRow B 5 1 v n xs) (hn : n ≤ 140737488355320) (hB : B ≤ w.heap.size)  (h3 : slot a 3 = v)
    (hN : ∀ a' w', Sl 60 a' ((2, .string (bs (ll ++ [34]))) :: l) → Below B w w' → N a' w') : (r_qu 15).wp Tryd.prog (Exit.then N Q) a w := by
  have HN := Lib.hid hN
  have HL := Lib.hid hl
  have e3 := h3
  obtain ⟨f, ea, hf⟩ : ∃ f : Nat → Value, a = ⟨(List.toArray (f 0 :: f 1 :: f 2 :: f 3 :: f 4 :: f 5 :: f 6 :: f 7 :: f 8 :: f 9 :: f 10 :: f 11 :: f 12 :: f 13 :: f 14 :: f 15 :: f 16 :: f 17 :: f 18 :: f 19 :: f 20 :: f 21 :: f 22 :: f 23 :: f 24 :: f 25 :: f 26 :: f 27 :: f 28 :: f 29 :: f 30 :: f 31 :: f 32 :: f 33 :: f 34 :: f 35 :: f 36 :: f 37 :: f 38 :: f 39 :: f 40 :: f 41 :: f 42 :: f 43 :: f 44 :: f 45 :: f 46 :: f 47 :: f 48 :: f 49 :: f 50 :: f 51 :: f 52 :: f 53 :: f 54 :: f 55 :: f 56 :: f 57 :: f 58 :: f 59 :: [])), []⟩ ∧ ∀ k, slot a k = f k := letters_qu a hs.size hs.defers
  rw [hf] at e3
  rw [ea, e3]
  have HS := Lib.hid hs
  have HF := Lib.hid hf
  have E3 := Lib.hid e3
  clear hs ea hf hN hl h3 e3
  obtain ⟨i0, hi0, hz0, hz1, hz2⟩ := info_parts info_byte
  have HO := Lib.hid (hown.alloc (.cells #[.int .u8 34] 5))
  have HN2 := Lib.hid (news_arr w 5 #[.int .u8 34])
  clear hown
  conv => arg 2; whnf
  go_wp2_with (at_builtin; refine wpList_append_own _ rfl (.tmp 56) (.tmp 57) 52 rfl B 5 i0 _ 1 1 Tryd.underlying52 hi0 hz0 hz1 hz2 rfl (by decide) v n xs rfl HO.out ⟨w.heap.size, 0, none⟩ 1 1 [.int .u8 34] rfl rfl HN2.out (by simp [Value.oneCell']) (by unfold maxLen; omega) (by omega) (by simp; omega) ?_; intro v' w' hown' hgrow _; have hcv := own_string (l := ll ++ [34]) (by rw [hnl, hxl] at hown'; simpa [byteV] using hown'))
  refine HN.out _ _ ?_ ((app_below HO.out hB hgrow))
  exact Sl.add (Sl.stay [] HS.out HF.out (by kernel_rfl) rfl trivial HL.out) (by kernel_rfl)
end Go.Proofs.YtpggcmlddmckcaaDoor

namespace Go.Proofs.YtpggcmlddmckcaaDoor
open Go.RowKit Go.Sort
set_option maxRecDepth 100000

noncomputable def quArms : Code := .seq (r_qu 6) (.cond (.tmp 18) (r_qu 7) (.seq (r_qu 8) (.cond (.tmp 29) (r_qu 9) (.seq (r_qu 10) (.cond (.tmp 34) (r_qu 11) (.seq (r_qu 12) (.cond (.tmp 39) (r_qu 13) (r_qu 5))))))))
noncomputable def quLoop : Code := .seq (r_qu 3) (.seq (.cond (.tmp 11) .skip (.exit 0)) (.seq (.block 1 (.seq (r_qu 4) (.block 2 quArms))) (r_qu 14)))
noncomputable def quBody : Code := .seq (r_qu 0) (.seq (r_qu 1) (.seq (.seq (r_qu 2) (.block 0 (.loop quLoop))) (.seq (r_qu 15) .ret)))
theorem qu_body : Tryd.f19.body = some quBody := by kernel_rfl

def hexS : ByteArray := ⟨#[48, 49, 50, 51, 52, 53, 54, 55, 56, 57, 97, 98, 99, 100, 101, 102]⟩
theorem hex_get : ∀ n : Fin 16, hexS.data[n.val]? = some (hexD n.val) := by decide
theorem hex_idx (n : Nat) (hn : n < 16) {x : Int} (hx : x = n) (w : World) : (Instr.index 9 (.string hexS) (.int .u8 x)).run Tryd.prog w = .ok (.int .u8 ((hexD n).toNat : Int)) w := by
  subst hx
  have hsz : hexS.size = 16 := rfl
  rw [run_index_string _ _ _ _ _ Tryd.underlying9, dif_pos ⟨by omega, by omega⟩]
  have hg := hex_get ⟨n, hn⟩
  obtain ⟨_, hg⟩ := Array.getElem?_eq_some_iff.1 hg
  have : ∀ (m : Nat) (hm : m < hexS.size), m = n → hexS[m]'hm = hexD n := fun m hm e => by subst e; exact hg
  rw [this _ (by omega) (by simp)]
theorem u8_quo (c : UInt8) : ((c.toNat : Int)).tdiv 16 % 256 = ((c.toNat / 16 : Nat) : Int) := by
  have := c.toNat_lt
  rw [Int.tdiv_eq_ediv_of_nonneg (by omega)]
  omega
theorem u8_rem (c : UInt8) : ((c.toNat : Int)).tmod 16 = ((c.toNat % 16 : Nat) : Int) := by
  rw [Int.tmod_eq_emod_of_nonneg (by omega)]
  omega
theorem quoteC_len (c : UInt8) : (quoteC c).length ≤ 4 := by
  unfold quoteC
  repeat' split
  all_goals simp
theorem quoteL_len (l : List UInt8) : (l.flatMap quoteC).length ≤ 4 * l.length := by
  induction l with
  | nil => simp
  | cons c l ih =>
    rw [List.flatMap_cons, List.length_append, List.length_cons]
    have := quoteC_len c
    omega

/-- The row of bytes that a text was turned into. -/
def RowB (w : World) (g : Nat) (s : ByteArray) : Prop := ∃ cs : Array Value, w.heap[g]? = some (.cells cs 5 (cs.size, cs.size + 1)) ∧ ∀ j (hj : j < s.size), cs[j]? = some (.int .u8 ((s[j]'hj).toNat : Int))
theorem RowB.cell {w : World} {g : Nat} {s : ByteArray} (h : RowB w g s) (j : Nat) (hj : j < s.size) : w.cell? ⟨g, j, none⟩ = some (.int .u8 ((s[j]'hj).toNat : Int)) := by
  obtain ⟨cs, hh, hc⟩ := h
  rw [cell_of_row w g j cs _ _ hh]
  exact hc j hj
theorem RowB.own {w : World} {g B n : Nat} {s : ByteArray} {v : Value} {xs : List Value} (h : RowB w g s) (ho : w.ownsRow B 5 1 v n xs) : v.ownBlock ≠ some g := by
  obtain ⟨cs, hh, _⟩ := h
  rcases ho.2 with ⟨rfl, _⟩ | ⟨g', cap, cur, rfl, _, hh', _⟩
  · simp [Value.ownBlock]
  · intro e
    simp only [Value.ownBlock, Option.some.injEq] at e
    subst e
    rw [hh] at hh'
    simp at hh'
theorem RowB.stay {w w' : World} {g : Nat} {s : ByteArray} (h : RowB w g s) (e : w'.heap[g]? = w.heap[g]?) : RowB w' g s := by
  obtain ⟨cs, hh, hc⟩ := h
  exact ⟨cs, e.trans hh, hc⟩
theorem rowB_new (w : World) (s : ByteArray) : RowB (Lib.bytesWorld w 5 s) w.heap.size s :=
  ⟨Lib.bytesCells w 5 s, Lib.bytesWorld_at_new w _ s, fun j hj => by
    have h1 : s.data[j]? = some (s[j]'hj) := by rw [Array.getElem?_eq_getElem hj]; rfl
    unfold Lib.bytesCells
    rw [Array.getElem?_append_left (by simpa using hj), Array.getElem?_map, h1]
    rfl⟩
theorem bytes_below (w : World) (s : ByteArray) : Below w.heap.size w (Lib.bytesWorld w 5 s) :=
  ⟨rfl, rfl, rfl, by rw [Lib.bytesWorld_size]; omega, fun k hk => Lib.bytesWorld_at_old w _ s k hk⟩
theorem qu_done {w w3 : World} {a4 : Act} {v2 : Value} {x : ByteArray} (hd : a4.defers = []) (h2 : slot a4 2 = v2) (he : v2 = .string x) (hb : Below w.heap.size w w3) :
    bodyPost Tryd.prog Tryd.f19 (fun e w' => e = .returned (.string x) ∧ Below w.heap.size w w') .ret a4 w3 :=
  bodyPost_ret (results_tmp rfl _ _ _) hd ⟨congrArg Ending.returned (h2.trans he), hb⟩

/-- One turn's arms: the byte's own words are put behind. -/
theorem qu_arms (s : ByteArray) (w : World) (B g cap : Nat) (a5 : Act) (wr : World) (i : Nat) (out : List UInt8) (v : Value) (c : UInt8)
    (h5 : Sl 60 a5 [(5, .int .u8 (c.toNat : Int)), (10, .int .i64 (i : Int)), (9, .int .i64 (s.size : Int)), (8, .slice (some ⟨g, 0, none⟩) s.size cap), (3, v), (0, .string s)])
    (hol : out.length ≤ 140737488355310) (hown : wr.ownsRow B 5 1 v out.length (out.map byteV)) (hrow : RowB wr g s) (hb : Below B w wr) (hBz : B ≤ wr.heap.size) (hg : g < wr.heap.size)
    (Q : Exit → Act → World → Prop) (hQ : ∀ a' w' (v' : Value), Sl 60 a' [(3, v'), (10, .int .i64 (i : Int)), (9, .int .i64 (s.size : Int)), (8, .slice (some ⟨g, 0, none⟩) s.size cap), (0, .string s)] → w'.ownsRow B 5 1 v' (out ++ quoteC c).length ((out ++ quoteC c).map byteV) → RowB w' g s → Below B w w' → B ≤ w'.heap.size → g < w'.heap.size → Q .normal a' w') : quArms.wp Tryd.prog Q a5 wr := by
  have hlt := c.toNat_lt
  have bk : ∀ k : UInt8, ((c.toNat : Int) == (k.toNat : Int)) = decide (c = k) := fun k => byte_eq
  have b34 : ((c.toNat : Int) == 34) = decide (c = 34) := bk 34
  have b92 : ((c.toNat : Int) == 92) = decide (c = 92) := bk 92
  have b10 : ((c.toNat : Int) == 10) = decide (c = 10) := bk 10
  have b9 : ((c.toNat : Int) == 9) = decide (c = 9) := bk 9
  have hend : ∀ (a' : Act) (w' : World) (v' : Value) (L : List Value) (m : Nat), Sl 60 a' [(3, v'), (10, .int .i64 (i : Int)), (9, .int .i64 (s.size : Int)), (8, .slice (some ⟨g, 0, none⟩) s.size cap), (0, .string s)] →
      w'.ownsRow B 5 1 v' (out.length + m) (out.map byteV ++ L) → Below B wr w' → (∀ k, k < wr.heap.size → v.ownBlock ≠ some k → w'.heap[k]? = wr.heap[k]?) → (quoteC c).length = m → (quoteC c).map byteV = L → Q .normal a' w' := by
    intro a' w' v' L m hs ho hb2 hfar hm hL
    refine hQ a' w' v' hs ?_ (hrow.stay (hfar g hg (hrow.own hown))) (hb.trans hb2) (Nat.le_trans hBz hb2.size) (Nat.lt_of_lt_of_le hg hb2.size)
    rw [List.length_append, List.map_append, hm, hL]
    exact ho
  have hsub : ∀ {a6 : Act} {l : List (Nat × Value)}, Sl 60 a6 l → l.lookup 0 = some (.string s) → l.lookup 8 = some (.slice (some ⟨g, 0, none⟩) s.size cap) → l.lookup 9 = some (.int .i64 (s.size : Int)) → l.lookup 10 = some (.int .i64 (i : Int)) →
      Sl 60 a6 [(10, .int .i64 (i : Int)), (9, .int .i64 (s.size : Int)), (8, .slice (some ⟨g, 0, none⟩) s.size cap), (0, .string s)] := fun hs e0 e8 e9 e10 =>
    hs.none.add (hs.look 0 e0) |>.add (hs.look 8 e8) |>.add (hs.look 9 e9) |>.add (hs.look 10 e10)
  unfold quArms
  -- a quote or a backslash
  have h1 : ∀ (K : Act → World → Prop) (Q' : Exit → Act → World → Prop), (∀ a', Sl 60 a' [(18, .bool (decide (c = 34 ∨ c = 92))), (5, .int .u8 (c.toNat : Int)), (10, .int .i64 (i : Int)), (9, .int .i64 (s.size : Int)), (8, .slice (some ⟨g, 0, none⟩) s.size cap), (3, v), (0, .string s)] → K a' wr) → (r_qu 6).wp Tryd.prog (Exit.then K Q') a5 wr := by
    intro K Q' hK
    by_cases e1 : c = 34
    · rw [decide_eq_true (.inl e1)] at hK
      exact qu_r6a a5 wr _ _ _ h5 rfl _ (by rw [b34, decide_eq_true e1]) rfl hK
    · by_cases e2 : c = 92
      · rw [decide_eq_true (.inr e2)] at hK
        exact qu_r6bt a5 wr _ _ _ h5 rfl _ (by rw [b34, decide_eq_false e1]) (by rw [b92, decide_eq_true e2]) rfl hK
      · rw [decide_eq_false (fun h => h.elim e1 e2)] at hK
        exact qu_r6bf a5 wr _ _ _ h5 rfl _ (by rw [b34, decide_eq_false e1]) (by rw [b92, decide_eq_false e2]) rfl hK
  refine wp_seq (h1 _ _ fun a6 h6 => ?_)
  clear h1
  by_cases e1 : c = 34 ∨ c = 92
  · rw [decide_eq_true e1] at h6
    refine wp_cond_true (h6.look 18 rfl) ?_
    refine wp_then (qu_r7 a6 wr _ _ _ (hsub h6 rfl rfl rfl rfl) rfl _ v B out.length _ hown (by omega) hBz (h6.look 3 rfl) (h6.look 5 rfl) fun a7 w7 v7 h7 ho7 hb7 hf7 => ?_)
    exact hend a7 w7 v7 _ 2 h7 ho7 hb7 hf7 (by unfold quoteC; rw [if_pos e1]; rfl) (by unfold quoteC; rw [if_pos e1]; rfl)
  rw [decide_eq_false e1] at h6
  refine wp_cond_false (h6.look 18 rfl) ?_
  refine wp_seq (qu_r8 a6 wr _ _ _ h6.tl rfl _ _ b10 rfl fun a7 h7 => ?_)
  by_cases e2 : c = 10
  · rw [decide_eq_true e2] at h7
    refine wp_cond_true (h7.look 29 rfl) ?_
    refine wp_then (qu_r9 a7 wr _ _ _ (hsub h7 rfl rfl rfl rfl) rfl v B out.length _ hown (by omega) hBz (h7.look 3 rfl) fun a8 w8 v8 h8 ho8 hb8 hf8 => ?_)
    exact hend a8 w8 v8 _ 2 h8 ho8 hb8 hf8 (by unfold quoteC; rw [if_neg e1, if_pos e2]; rfl) (by unfold quoteC; rw [if_neg e1, if_pos e2]; rfl)
  rw [decide_eq_false e2] at h7
  refine wp_cond_false (h7.look 29 rfl) ?_
  refine wp_seq (qu_r10 a7 wr _ _ _ h7.tl rfl _ _ b9 rfl fun a8 h8 => ?_)
  by_cases e3 : c = 9
  · rw [decide_eq_true e3] at h8
    refine wp_cond_true (h8.look 34 rfl) ?_
    refine wp_then (qu_r11 a8 wr _ _ _ (hsub h8 rfl rfl rfl rfl) rfl v B out.length _ hown (by omega) hBz (h8.look 3 rfl) fun a9 w9 v9 h9 ho9 hb9 hf9 => ?_)
    exact hend a9 w9 v9 _ 2 h9 ho9 hb9 hf9 (by unfold quoteC; rw [if_neg e1, if_neg e2, if_pos e3]; rfl) (by unfold quoteC; rw [if_neg e1, if_neg e2, if_pos e3]; rfl)
  rw [decide_eq_false e3] at h8
  refine wp_cond_false (h8.look 34 rfl) ?_
  have h2 : ∀ (K : Act → World → Prop) (Q' : Exit → Act → World → Prop), (∀ a', Sl 60 a' [(39, .bool (decide (c.toNat < 32 ∨ 126 < c.toNat))), (5, .int .u8 (c.toNat : Int)), (10, .int .i64 (i : Int)), (9, .int .i64 (s.size : Int)), (8, .slice (some ⟨g, 0, none⟩) s.size cap), (3, v), (0, .string s)] → K a' wr) → (r_qu 12).wp Tryd.prog (Exit.then K Q') a8 wr := by
    intro K Q' hK
    by_cases e4 : c.toNat < 32
    · rw [decide_eq_true (.inl e4)] at hK
      exact qu_r12a a8 wr _ _ _ h8.tl rfl _ (by omega) rfl hK
    · by_cases e5 : 126 < c.toNat
      · rw [decide_eq_true (.inr e5)] at hK
        exact qu_r12bt a8 wr _ _ _ h8.tl rfl _ (decide_eq_false (by omega)) (by omega) rfl hK
      · rw [decide_eq_false (fun h => h.elim e4 e5)] at hK
        exact qu_r12bf a8 wr _ _ _ h8.tl rfl _ (decide_eq_false (by omega)) (decide_eq_false (by omega)) rfl hK
  refine wp_seq (h2 _ _ fun a9 h9 => ?_)
  clear h2
  by_cases e4 : c.toNat < 32 ∨ 126 < c.toNat
  · rw [decide_eq_true e4] at h9
    refine wp_cond_true (h9.look 39 rfl) ?_
    refine wp_then (qu_r13 a9 wr _ _ _ (hsub h9 rfl rfl rfl rfl) rfl _ _ _ (fun w => hex_idx (c.toNat / 16) (by omega) (u8_quo c) w) (fun w => hex_idx (c.toNat % 16) (by omega) (u8_rem c) w) v B out.length _ hown (by omega) hBz (h9.look 3 rfl) (h9.look 5 rfl) fun a10 w10 v10 h10 ho10 hb10 hf10 => ?_)
    exact hend a10 w10 v10 _ 4 h10 ho10 hb10 hf10 (by unfold quoteC; rw [if_neg e1, if_neg e2, if_neg e3, if_pos e4]; rfl) (by unfold quoteC; rw [if_neg e1, if_neg e2, if_neg e3, if_pos e4]; rfl)
  · rw [decide_eq_false e4] at h9
    refine wp_cond_false (h9.look 39 rfl) ?_
    refine wp_then (qu_r5 a9 wr _ _ _ (hsub h9 rfl rfl rfl rfl) rfl _ v B out.length _ hown (by omega) hBz (h9.look 3 rfl) (h9.look 5 rfl) fun a10 w10 v10 h10 ho10 hb10 hf10 => ?_)
    exact hend a10 w10 v10 _ 1 h10 ho10 hb10 hf10 (by unfold quoteC; rw [if_neg e1, if_neg e2, if_neg e3, if_neg e4]; rfl) (by unfold quoteC; rw [if_neg e1, if_neg e2, if_neg e3, if_neg e4]; rfl)

theorem quote_any (s : ByteArray) (hs : s.size ≤ 35184372088820) (w : World) :
    Calls Tryd.prog 19 #[.string s] w fun e w' => e = .returned (.string (bs (quote s.data.toList))) ∧ Below w.heap.size w w' := by
  have hsl : s.data.toList.length = s.size := by simp
  refine calls_of_wp Tryd.func19 qu_body ?_
  have h0 : Sl 60 { tmps := #[Value.string s] ++ Array.replicate (Tryd.f19.ntmps - #[Value.string s].size) undef, defers := [] } [(0, .string s)] :=
    ⟨by simp [Tryd.ntmps19], rfl, fun p hp => by
      simp only [List.mem_cons, List.not_mem_nil, or_false] at hp
      subst hp
      simp [slot]⟩
  generalize { tmps := #[Value.string s] ++ Array.replicate (Tryd.f19.ntmps - #[Value.string s].size) undef, defers := [] : Act } = b0 at h0 ⊢
  unfold quBody
  refine wp_seq (qu_r0 b0 w _ _ _ h0 rfl fun a1 h1 => ?_)
  have h1 := h1.none.add (h1.look 0 rfl)
  refine wp_seq (qu_r1 a1 w _ _ _ h1 rfl fun a2 h2 => ?_)
  have hA : Blk (w.alloc (.cells #[.int .u8 34] 5)) w.heap.size 5 #[.int .u8 34] := Blk.new _ _ _
  have hbA : Below w.heap.size w (w.alloc (.cells #[.int .u8 34] 5)) := bl_alloc (Below.refl _ _) _
  generalize w.alloc (.cells #[.int .u8 34] 5) = w1 at hA hbA ⊢
  refine wp_seq (wp_seq (qu_r2 a2 w1 _ _ _ h2 rfl s _ _ (Lib.run_convert_string_bytes w1 9 52 5 s Tryd.underlying9 Tryd.underlying52 Tryd.underlying5) rfl fun a3 h3 => ?_))
  have hrow := rowB_new w1 s
  have hbB := bytes_below w1 s
  have hgz : w1.heap.size < (Lib.bytesWorld w1 5 s).heap.size := by rw [Lib.bytesWorld_size]; omega
  generalize grownCap w1 s.size 0 5 = cap at h3
  generalize Lib.bytesWorld w1 5 s = w2 at hrow hbB hgz ⊢
  have hbw2 := bl_trans hbA hbB
  have hA2 := hA.below hbB hA.lt
  have hown2 : w2.ownsRow w.heap.size 5 1 (.slice (some ⟨w.heap.size, 0, none⟩) 1 1) ([34] : List UInt8).length (([34] : List UInt8).map byteV) :=
    ⟨rfl, .inr ⟨w.heap.size, 1, #[.int .u8 34], rfl, Nat.le_refl _, hA2, Nat.le_refl _, by unfold maxLen; omega, rfl, rfl⟩⟩
  refine wp_block ?_
  refine wp_loop (fun a' wr => ∃ (i : Nat) (v : Value), i ≤ s.size ∧ Sl 60 a' [(10, .int .i64 (i : Int)), (9, .int .i64 (s.size : Int)), (8, .slice (some ⟨w1.heap.size, 0, none⟩) s.size cap), (3, v), (0, .string s)] ∧
      wr.ownsRow w.heap.size 5 1 v (34 :: (s.data.toList.take i).flatMap quoteC).length ((34 :: (s.data.toList.take i).flatMap quoteC).map byteV) ∧ RowB wr w1.heap.size s ∧ Below w.heap.size w wr ∧ w1.heap.size < wr.heap.size) (fun a' _ => muTo s.size (slot a' 10))
    ⟨0, .slice (some ⟨w.heap.size, 0, none⟩) 1 1, by omega, ?_, by simpa using hown2, hrow, hbw2, hgz⟩ ?_
  · exact h3.none.add (h3.look 0 rfl) |>.add (h3.look 3 rfl) |>.add (h3.look 8 rfl) |>.add (h3.look 9 rfl) |>.add (h3.look 10 rfl)
  rintro a5 wr ⟨i, v, hi, h5, hown, hrow, hb, hgr⟩
  rw [h5.look 10 rfl, muTo_int]
  have hlen : (34 :: (s.data.toList.take i).flatMap quoteC).length ≤ 140737488355310 := by
    have := quoteL_len (s.data.toList.take i)
    rw [List.length_take] at this
    rw [List.length_cons]
    omega
  unfold quLoop
  by_cases hlt : i < s.size
  · refine wp_seq (qu_r3t a5 wr _ _ _ h5 rfl i s.size (decide_eq_true (by omega)) rfl rfl fun a6 h6 => ?_)
    refine wp_seq (wpc_on (h6.look 11 rfl) ?_)
    refine wp_seq (wp_block ?_)
    refine wp_seq (qu_r4 a6 wr _ _ _ h6.tl rfl w1.heap.size s.size cap i _ (by omega) (hrow.cell i hlt) rfl rfl fun a7 h7 => ?_)
    refine wp_block ?_
    obtain ⟨c, hc⟩ : ∃ c, s[i]'hlt = c := ⟨_, rfl⟩
    rw [hc] at h7
    refine qu_arms s w w.heap.size w1.heap.size cap a7 wr i _ v c h7 hlen hown hrow hb hb.size hgr _ fun a8 w8 v8 h8 hown8 hrow8 hb8 _ hg8 => ?_
    show Code.wp _ (r_qu 14) _ a8 w8
    have h8' := h8.none.add (h8.look 0 rfl) |>.add (h8.look 3 rfl) |>.add (h8.look 8 rfl) |>.add (h8.look 9 rfl)
    refine wp_then (qu_r14 a8 w8 _ _ _ h8' rfl i (by omega) (by omega) (h8.look 10 rfl) fun a9 h9 => ?_)
    have e10 : slot a9 10 = .int .i64 ((i + 1 : Nat) : Int) := by rw [h9.look 10 rfl]; congr 1
    have htk : s.data.toList.take (i + 1) = s.data.toList.take i ++ [c] := by
      rw [List.take_succ_eq_append_getElem (by omega)]
      congr 2
    refine ⟨⟨i + 1, v8, by omega, h9.none.add (h9.look 0 rfl) |>.add (h9.look 3 rfl) |>.add (h9.look 8 rfl) |>.add (h9.look 9 rfl) |>.add e10, ?_, hrow8, hb8, hg8⟩, ?_⟩
    · rw [htk, List.flatMap_append, ← List.cons_append]
      simpa using hown8
    · rw [e10, muTo_int]
      omega
  · refine wp_seq (qu_r3f a5 wr _ _ _ h5 rfl i s.size (decide_eq_false (by omega)) rfl rfl fun a6 h6 => ?_)
    refine wp_seq (wpc_exit (h6.look 11 rfl) ?_)
    refine then_exit (then_exit (in_block' ?_))
    show Code.wp _ (Code.seq (r_qu 15) .ret) _ a6 wr
    have hie : s.data.toList.take i = s.data.toList := List.take_of_length_le (by omega)
    refine wp_seq (qu_r15 a6 wr _ _ _ h6.none rfl v w.heap.size _ _ (34 :: (s.data.toList.take i).flatMap quoteC) rfl rfl hown (by omega) hb.size (h6.look 3 rfl) fun a7 w7 h7 hb7 => wp_ret ?_)
    exact qu_done h7.defers (h7.look 2 rfl) (by rw [hie]; rfl) (hb.trans hb7)
end Go.Proofs.YtpggcmlddmckcaaDoor
