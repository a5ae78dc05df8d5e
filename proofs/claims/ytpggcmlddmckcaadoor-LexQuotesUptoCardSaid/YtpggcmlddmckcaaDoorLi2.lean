/-
  The regions of package lex's literal, one by one. Contract of literal in package lex. Written by an AI agent.
-/
import Derived.Test.YtpggcmlddmckcaaDoorLn3
import Derived.Laws.BytesArg
import Derived.Lib.BufferRead
namespace Go.Proofs.YtpggcmlddmckcaaDoor
open Go.RowKit Go.Sort
set_option maxRecDepth 100000
theorem letters_li (a : Act) (h1 : a.tmps.size = 62) (h2 : a.defers = []) : ∃ f : Nat → Value, a = ⟨(List.toArray (f 0 :: f 1 :: f 2 :: f 3 :: f 4 :: f 5 :: f 6 :: f 7 :: f 8 :: f 9 :: f 10 :: f 11 :: f 12 :: f 13 :: f 14 :: f 15 :: f 16 :: f 17 :: f 18 :: f 19 :: f 20 :: f 21 :: f 22 :: f 23 :: f 24 :: f 25 :: f 26 :: f 27 :: f 28 :: f 29 :: f 30 :: f 31 :: f 32 :: f 33 :: f 34 :: f 35 :: f 36 :: f 37 :: f 38 :: f 39 :: f 40 :: f 41 :: f 42 :: f 43 :: f 44 :: f 45 :: f 46 :: f 47 :: f 48 :: f 49 :: f 50 :: f 51 :: f 52 :: f 53 :: f 54 :: f 55 :: f 56 :: f 57 :: f 58 :: f 59 :: f 60 :: f 61 :: [])), []⟩ ∧ ∀ k, slot a k = f k :=
  ⟨slot a, (spread a 62 h1 h2).trans (by kernel_rfl), fun _ => rfl⟩
noncomputable def r_li (n : Nat) : Code := ((Tryd.f39.body.bind (findR n)).getD .skip)
theorem info_byte : (Tryd.prog.info? 5).map (fun i => (i.zero, i.size, i.bytes)) = some (some (.int .u8 0), 1, 1) := by kernel_rfl
theorem news_one (w : World) (t : TypeId) (x : Value) : ∀ (q : Nat) (u : Value), [x][q]? = some u → (w.alloc (.cells #[x] t)).cell? ((⟨w.heap.size, 0, none⟩ : Addr).add q) = some u
  | 0, u, h => by
    simp at h
    subst h
    exact ((Blk.new w t #[x]).cell 0).trans rfl
  | q + 1, u, h => by simp at h
theorem app_below {w w' : World} {o : Obj} {B n sz : Nat} {t : TypeId} {v : Value} {xs : List Value} (ho : (w.alloc o).ownsRow B t sz v n xs) (hB : B ≤ w.heap.size) (hg : (w.alloc o).grownBy w' v.ownBlock) : Below B w w' :=
  ⟨hg.os, hg.tape, hg.output, Nat.le_trans (by simp) hg.size, fun k hk => (hg.block k (by simp; omega) (fun e => by have := (ho.lt k e.symm).1; omega)).trans (Below.heap_alloc _ _ _ (by omega))⟩
def byteV (c : UInt8) : Value := .int .u8 (c.toNat : Int)
theorem own_string {w : World} {B : Nat} {v : Value} {l : List UInt8} (h : w.ownsRow B 5 1 v l.length (l.map byteV)) : (convert 52 9 v).run Tryd.prog w = .ok (.string (bs l)) w := by
  rcases h.2 with ⟨rfl, h0⟩ | ⟨g, cap, cur, rfl, hg, hh, hc, hm, hs, ht⟩
  · have : l = [] := List.eq_nil_of_length_eq_zero h0
    subst this
    exact Lib.run_convert_nil_bytes w 52 9 5 0 Tryd.underlying52 Tryd.underlying5 Tryd.underlying9
  · have := run_convert_bytes_arg (P := Tryd.prog) w 52 5 Tryd.underlying52 Tryd.underlying5 g 0 l.length cap (l.map fun c => (c.toNat : Int)) (by simp) (fun i hi => by
      rw [cell_of_row w g _ cur _ _ hh, Nat.zero_add]
      have h1 : (cur.toList.take (l.length * 1))[i]? = (l.map byteV)[i]? := by rw [ht]
      rw [List.getElem?_take, if_pos (by omega), List.getElem?_map, List.getElem?_eq_getElem hi] at h1
      rw [Array.getElem?_toList] at h1
      rw [h1]
      simp [byteV, hi]) 9 Tryd.underlying9
    rw [this]
    congr 2
    unfold strOfNums bs
    congr 2
    rw [List.map_map]
    conv => rhs; rw [← List.map_id l]
    congr 1
    funext c
    simp
set_option maxHeartbeats 4000000 in
theorem li_r0 (a : Act) (w : World) (N : Act → World → Prop) (Q : Exit → Act → World → Prop) (l : List (Nat × Value)) (hs : Sl 62 a l) (hl : (l.map Prod.fst).all (fun k => [0, 1].contains k) = true)
     
    (hN : ∀ a', Sl 62 a' ((6, .pointer none) :: ((5, .int .i64 0) :: ((4, .string ⟨#[]⟩) :: l))) → N a' (w)) : (r_li 0).wp Tryd.prog (Exit.then N Q) a w := by
  have HN := Lib.hid hN
  have HL := Lib.hid hl
  obtain ⟨f, ea, hf⟩ : ∃ f : Nat → Value, a = ⟨(List.toArray (f 0 :: f 1 :: f 2 :: f 3 :: f 4 :: f 5 :: f 6 :: f 7 :: f 8 :: f 9 :: f 10 :: f 11 :: f 12 :: f 13 :: f 14 :: f 15 :: f 16 :: f 17 :: f 18 :: f 19 :: f 20 :: f 21 :: f 22 :: f 23 :: f 24 :: f 25 :: f 26 :: f 27 :: f 28 :: f 29 :: f 30 :: f 31 :: f 32 :: f 33 :: f 34 :: f 35 :: f 36 :: f 37 :: f 38 :: f 39 :: f 40 :: f 41 :: f 42 :: f 43 :: f 44 :: f 45 :: f 46 :: f 47 :: f 48 :: f 49 :: f 50 :: f 51 :: f 52 :: f 53 :: f 54 :: f 55 :: f 56 :: f 57 :: f 58 :: f 59 :: f 60 :: f 61 :: [])), []⟩ ∧ ∀ k, slot a k = f k := letters_li a hs.size hs.defers
  rw [ea]
  have HS := Lib.hid hs
  have HF := Lib.hid hf
  clear hs ea hf hN hl 
  conv => arg 2; whnf
  go_wp2_with fail
  refine HN.out _ ?_
  exact Sl.add (Sl.add (Sl.add (Sl.stay [0, 1] HS.out HF.out (by kernel_rfl) rfl ⟨by kernel_rfl, by kernel_rfl, trivial⟩ HL.out) (by kernel_rfl)) (by kernel_rfl)) (by kernel_rfl)
set_option maxHeartbeats 4000000 in
theorem li_r1 (a : Act) (w : World) (N : Act → World → Prop) (Q : Exit → Act → World → Prop) (l : List (Nat × Value)) (hs : Sl 62 a l) (hl : (l.map Prod.fst).all (fun k => [0, 1].contains k) = true)
     
    (hN : ∀ a', Sl 62 a' ((7, .slice none 0 0) :: l) → N a' (w)) : (r_li 1).wp Tryd.prog (Exit.then N Q) a w := by
  have HN := Lib.hid hN
  have HL := Lib.hid hl
  obtain ⟨f, ea, hf⟩ : ∃ f : Nat → Value, a = ⟨(List.toArray (f 0 :: f 1 :: f 2 :: f 3 :: f 4 :: f 5 :: f 6 :: f 7 :: f 8 :: f 9 :: f 10 :: f 11 :: f 12 :: f 13 :: f 14 :: f 15 :: f 16 :: f 17 :: f 18 :: f 19 :: f 20 :: f 21 :: f 22 :: f 23 :: f 24 :: f 25 :: f 26 :: f 27 :: f 28 :: f 29 :: f 30 :: f 31 :: f 32 :: f 33 :: f 34 :: f 35 :: f 36 :: f 37 :: f 38 :: f 39 :: f 40 :: f 41 :: f 42 :: f 43 :: f 44 :: f 45 :: f 46 :: f 47 :: f 48 :: f 49 :: f 50 :: f 51 :: f 52 :: f 53 :: f 54 :: f 55 :: f 56 :: f 57 :: f 58 :: f 59 :: f 60 :: f 61 :: [])), []⟩ ∧ ∀ k, slot a k = f k := letters_li a hs.size hs.defers
  rw [ea]
  have HS := Lib.hid hs
  have HF := Lib.hid hf
  clear hs ea hf hN hl 
  conv => arg 2; whnf
  go_wp2_with fail
  refine HN.out _ ?_
  exact Sl.add (Sl.stay [0, 1] HS.out HF.out (by kernel_rfl) rfl ⟨by kernel_rfl, by kernel_rfl, trivial⟩ HL.out) (by kernel_rfl)
set_option maxHeartbeats 4000000 in
theorem li_r2 (a : Act) (w : World) (N : Act → World → Prop) (Q : Exit → Act → World → Prop) (l : List (Nat × Value)) (hs : Sl 62 a l) (hl : (l.map Prod.fst).all (fun k => [0, 1, 7].contains k) = true)
    (a0 : Int) (h0 : 0 ≤ a0) (h1 : a0 ≤ 140737488355328)  (h1 : l.lookup 1 = some (.int .i64 a0))
    (hN : ∀ a', Sl 62 a' ((8, .int .i64 (a0 + 1)) :: l) → N a' (w)) : (r_li 2).wp Tryd.prog (Exit.then N Q) a w := by
  have HN := Lib.hid hN
  have HL := Lib.hid hl
  have e1 := hs.look 1 h1
  obtain ⟨f, ea, hf⟩ : ∃ f : Nat → Value, a = ⟨(List.toArray (f 0 :: f 1 :: f 2 :: f 3 :: f 4 :: f 5 :: f 6 :: f 7 :: f 8 :: f 9 :: f 10 :: f 11 :: f 12 :: f 13 :: f 14 :: f 15 :: f 16 :: f 17 :: f 18 :: f 19 :: f 20 :: f 21 :: f 22 :: f 23 :: f 24 :: f 25 :: f 26 :: f 27 :: f 28 :: f 29 :: f 30 :: f 31 :: f 32 :: f 33 :: f 34 :: f 35 :: f 36 :: f 37 :: f 38 :: f 39 :: f 40 :: f 41 :: f 42 :: f 43 :: f 44 :: f 45 :: f 46 :: f 47 :: f 48 :: f 49 :: f 50 :: f 51 :: f 52 :: f 53 :: f 54 :: f 55 :: f 56 :: f 57 :: f 58 :: f 59 :: f 60 :: f 61 :: [])), []⟩ ∧ ∀ k, slot a k = f k := letters_li a hs.size hs.defers
  rw [hf] at e1
  rw [ea, e1]
  have HS := Lib.hid hs
  have HF := Lib.hid hf
  have E1 := Lib.hid e1
  clear hs ea hf hN hl h1 e1
  conv => arg 2; whnf
  go_wp2_with fail
  refine HN.out _ ?_
  exact Sl.add (Sl.stay [0, 1, 7] HS.out HF.out (by kernel_rfl) rfl ⟨by kernel_rfl, Eq.trans (by kernel_rfl) E1.out.symm, by kernel_rfl, trivial⟩ HL.out) (by kernel_rfl)
set_option maxHeartbeats 4000000 in
theorem li_r3T (a : Act) (w : World) (N : Act → World → Prop) (Q : Exit → Act → World → Prop) (l : List (Nat × Value)) (hs : Sl 62 a l) (hl : (l.map Prod.fst).all (fun k => [0, 1, 7, 8].contains k) = true)
    (s : ByteArray) (i : Int) (h : i < (s.size : Int))  (h0 : l.lookup 0 = some (.string s)) (h8 : l.lookup 8 = some (.int .i64 i))
    (hN : ∀ a', Sl 62 a' ((16, .bool true) :: l) → N a' (w)) : (r_li 3).wp Tryd.prog (Exit.then N Q) a w := by
  have HN := Lib.hid hN
  have HL := Lib.hid hl
  have e0 := hs.look 0 h0
  have e8 := hs.look 8 h8
  obtain ⟨f, ea, hf⟩ : ∃ f : Nat → Value, a = ⟨(List.toArray (f 0 :: f 1 :: f 2 :: f 3 :: f 4 :: f 5 :: f 6 :: f 7 :: f 8 :: f 9 :: f 10 :: f 11 :: f 12 :: f 13 :: f 14 :: f 15 :: f 16 :: f 17 :: f 18 :: f 19 :: f 20 :: f 21 :: f 22 :: f 23 :: f 24 :: f 25 :: f 26 :: f 27 :: f 28 :: f 29 :: f 30 :: f 31 :: f 32 :: f 33 :: f 34 :: f 35 :: f 36 :: f 37 :: f 38 :: f 39 :: f 40 :: f 41 :: f 42 :: f 43 :: f 44 :: f 45 :: f 46 :: f 47 :: f 48 :: f 49 :: f 50 :: f 51 :: f 52 :: f 53 :: f 54 :: f 55 :: f 56 :: f 57 :: f 58 :: f 59 :: f 60 :: f 61 :: [])), []⟩ ∧ ∀ k, slot a k = f k := letters_li a hs.size hs.defers
  rw [hf] at e0 e8
  rw [ea, e0, e8]
  have HS := Lib.hid hs
  have HF := Lib.hid hf
  have E0 := Lib.hid e0
  have E8 := Lib.hid e8
  clear hs ea hf hN hl h0 e0 h8 e8
  conv => arg 2; whnf
  go_wp2_with fail
  refine HN.out _ ?_
  exact Sl.add (Sl.stay [0, 1, 7, 8] HS.out HF.out (by kernel_rfl) rfl ⟨Eq.trans (by kernel_rfl) E0.out.symm, by kernel_rfl, by kernel_rfl, Eq.trans (by kernel_rfl) E8.out.symm, trivial⟩ HL.out) (by kernel_rfl)
set_option maxHeartbeats 4000000 in
theorem li_r3F (a : Act) (w : World) (N : Act → World → Prop) (Q : Exit → Act → World → Prop) (l : List (Nat × Value)) (hs : Sl 62 a l) (hl : (l.map Prod.fst).all (fun k => [0, 1, 7, 8].contains k) = true)
    (s : ByteArray) (i : Int) (h : decide (i < (s.size : Int)) = false)  (h0 : l.lookup 0 = some (.string s)) (h8 : l.lookup 8 = some (.int .i64 i))
    (hN : ∀ a', Sl 62 a' ((16, .bool false) :: l) → N a' (w)) : (r_li 3).wp Tryd.prog (Exit.then N Q) a w := by
  have HN := Lib.hid hN
  have HL := Lib.hid hl
  have e0 := hs.look 0 h0
  have e8 := hs.look 8 h8
  obtain ⟨f, ea, hf⟩ : ∃ f : Nat → Value, a = ⟨(List.toArray (f 0 :: f 1 :: f 2 :: f 3 :: f 4 :: f 5 :: f 6 :: f 7 :: f 8 :: f 9 :: f 10 :: f 11 :: f 12 :: f 13 :: f 14 :: f 15 :: f 16 :: f 17 :: f 18 :: f 19 :: f 20 :: f 21 :: f 22 :: f 23 :: f 24 :: f 25 :: f 26 :: f 27 :: f 28 :: f 29 :: f 30 :: f 31 :: f 32 :: f 33 :: f 34 :: f 35 :: f 36 :: f 37 :: f 38 :: f 39 :: f 40 :: f 41 :: f 42 :: f 43 :: f 44 :: f 45 :: f 46 :: f 47 :: f 48 :: f 49 :: f 50 :: f 51 :: f 52 :: f 53 :: f 54 :: f 55 :: f 56 :: f 57 :: f 58 :: f 59 :: f 60 :: f 61 :: [])), []⟩ ∧ ∀ k, slot a k = f k := letters_li a hs.size hs.defers
  rw [hf] at e0 e8
  rw [ea, e0, e8]
  have HS := Lib.hid hs
  have HF := Lib.hid hf
  have E0 := Lib.hid e0
  have E8 := Lib.hid e8
  clear hs ea hf hN hl h0 e0 h8 e8
  conv => arg 2; whnf
  go_wp2_with fail
  refine HN.out _ ?_
  exact Sl.add (Sl.stay [0, 1, 7, 8] HS.out HF.out (by kernel_rfl) rfl ⟨Eq.trans (by kernel_rfl) E0.out.symm, by kernel_rfl, by kernel_rfl, Eq.trans (by kernel_rfl) E8.out.symm, trivial⟩ HL.out) (by kernel_rfl)
set_option maxHeartbeats 4000000 in
theorem li_r4 (a : Act) (w : World) (N : Act → World → Prop) (Q : Exit → Act → World → Prop) (l : List (Nat × Value)) (hs : Sl 62 a l) (hl : (l.map Prod.fst).all (fun k => [0, 1, 7, 8].contains k) = true)
    (s : ByteArray) (i c : Int) (hi : ∀ w, (Instr.index 9 (.string s) (.int .i64 i)).run Tryd.prog w = .ok (.int .u8 c) w)  (h0 : l.lookup 0 = some (.string s)) (h8 : l.lookup 8 = some (.int .i64 i))
    (hN : ∀ a', Sl 62 a' ((19, .int .u8 c) :: l) → N a' (w)) : (r_li 4).wp Tryd.prog (Exit.then N Q) a w := by
  have HN := Lib.hid hN
  have HL := Lib.hid hl
  have e0 := hs.look 0 h0
  have e8 := hs.look 8 h8
  obtain ⟨f, ea, hf⟩ : ∃ f : Nat → Value, a = ⟨(List.toArray (f 0 :: f 1 :: f 2 :: f 3 :: f 4 :: f 5 :: f 6 :: f 7 :: f 8 :: f 9 :: f 10 :: f 11 :: f 12 :: f 13 :: f 14 :: f 15 :: f 16 :: f 17 :: f 18 :: f 19 :: f 20 :: f 21 :: f 22 :: f 23 :: f 24 :: f 25 :: f 26 :: f 27 :: f 28 :: f 29 :: f 30 :: f 31 :: f 32 :: f 33 :: f 34 :: f 35 :: f 36 :: f 37 :: f 38 :: f 39 :: f 40 :: f 41 :: f 42 :: f 43 :: f 44 :: f 45 :: f 46 :: f 47 :: f 48 :: f 49 :: f 50 :: f 51 :: f 52 :: f 53 :: f 54 :: f 55 :: f 56 :: f 57 :: f 58 :: f 59 :: f 60 :: f 61 :: [])), []⟩ ∧ ∀ k, slot a k = f k := letters_li a hs.size hs.defers
  rw [hf] at e0 e8
  rw [ea, e0, e8]
  have HS := Lib.hid hs
  have HF := Lib.hid hf
  have E0 := Lib.hid e0
  have E8 := Lib.hid e8
  clear hs ea hf hN hl h0 e0 h8 e8
  conv => arg 2; whnf
  go_wp2_with fail
  refine HN.out _ ?_
  exact Sl.add (Sl.stay [0, 1, 7, 8] HS.out HF.out (by kernel_rfl) rfl ⟨Eq.trans (by kernel_rfl) E0.out.symm, by kernel_rfl, by kernel_rfl, Eq.trans (by kernel_rfl) E8.out.symm, trivial⟩ HL.out) (by kernel_rfl)
set_option maxHeartbeats 4000000 in
theorem li_r7 (a : Act) (w : World) (N : Act → World → Prop) (Q : Exit → Act → World → Prop) (l : List (Nat × Value)) (hs : Sl 62 a l) (hl : (l.map Prod.fst).all (fun k => [0, 1, 7, 8, 19].contains k) = true)
    (c : Int) (b : Bool) (hb : (c == 34) = b)  (h19 : l.lookup 19 = some (.int .u8 c))
    (hN : ∀ a', Sl 62 a' ((28, .bool b) :: l) → N a' (w)) : (r_li 7).wp Tryd.prog (Exit.then N Q) a w := by
  have HN := Lib.hid hN
  have HL := Lib.hid hl
  have e19 := hs.look 19 h19
  obtain ⟨f, ea, hf⟩ : ∃ f : Nat → Value, a = ⟨(List.toArray (f 0 :: f 1 :: f 2 :: f 3 :: f 4 :: f 5 :: f 6 :: f 7 :: f 8 :: f 9 :: f 10 :: f 11 :: f 12 :: f 13 :: f 14 :: f 15 :: f 16 :: f 17 :: f 18 :: f 19 :: f 20 :: f 21 :: f 22 :: f 23 :: f 24 :: f 25 :: f 26 :: f 27 :: f 28 :: f 29 :: f 30 :: f 31 :: f 32 :: f 33 :: f 34 :: f 35 :: f 36 :: f 37 :: f 38 :: f 39 :: f 40 :: f 41 :: f 42 :: f 43 :: f 44 :: f 45 :: f 46 :: f 47 :: f 48 :: f 49 :: f 50 :: f 51 :: f 52 :: f 53 :: f 54 :: f 55 :: f 56 :: f 57 :: f 58 :: f 59 :: f 60 :: f 61 :: [])), []⟩ ∧ ∀ k, slot a k = f k := letters_li a hs.size hs.defers
  rw [hf] at e19
  rw [ea, e19]
  have HS := Lib.hid hs
  have HF := Lib.hid hf
  have E19 := Lib.hid e19
  clear hs ea hf hN hl h19 e19
  conv => arg 2; whnf
  go_wp2_with fail
  refine HN.out _ ?_
  exact Sl.add (Sl.stay [0, 1, 7, 8, 19] HS.out HF.out (by kernel_rfl) rfl ⟨by kernel_rfl, by kernel_rfl, by kernel_rfl, by kernel_rfl, Eq.trans (by kernel_rfl) E19.out.symm, trivial⟩ HL.out) (by kernel_rfl)
set_option maxHeartbeats 4000000 in
theorem li_r9 (a : Act) (w : World) (N : Act → World → Prop) (Q : Exit → Act → World → Prop) (l : List (Nat × Value)) (hs : Sl 62 a l) (hl : (l.map Prod.fst).all (fun k => [0, 1, 7, 8, 19].contains k) = true)
    (c : Int) (b : Bool) (hb : (c == 10) = b)  (h19 : l.lookup 19 = some (.int .u8 c))
    (hN : ∀ a', Sl 62 a' ((34, .bool b) :: l) → N a' (w)) : (r_li 9).wp Tryd.prog (Exit.then N Q) a w := by
  have HN := Lib.hid hN
  have HL := Lib.hid hl
  have e19 := hs.look 19 h19
  obtain ⟨f, ea, hf⟩ : ∃ f : Nat → Value, a = ⟨(List.toArray (f 0 :: f 1 :: f 2 :: f 3 :: f 4 :: f 5 :: f 6 :: f 7 :: f 8 :: f 9 :: f 10 :: f 11 :: f 12 :: f 13 :: f 14 :: f 15 :: f 16 :: f 17 :: f 18 :: f 19 :: f 20 :: f 21 :: f 22 :: f 23 :: f 24 :: f 25 :: f 26 :: f 27 :: f 28 :: f 29 :: f 30 :: f 31 :: f 32 :: f 33 :: f 34 :: f 35 :: f 36 :: f 37 :: f 38 :: f 39 :: f 40 :: f 41 :: f 42 :: f 43 :: f 44 :: f 45 :: f 46 :: f 47 :: f 48 :: f 49 :: f 50 :: f 51 :: f 52 :: f 53 :: f 54 :: f 55 :: f 56 :: f 57 :: f 58 :: f 59 :: f 60 :: f 61 :: [])), []⟩ ∧ ∀ k, slot a k = f k := letters_li a hs.size hs.defers
  rw [hf] at e19
  rw [ea, e19]
  have HS := Lib.hid hs
  have HF := Lib.hid hf
  have E19 := Lib.hid e19
  clear hs ea hf hN hl h19 e19
  conv => arg 2; whnf
  go_wp2_with fail
  refine HN.out _ ?_
  exact Sl.add (Sl.stay [0, 1, 7, 8, 19] HS.out HF.out (by kernel_rfl) rfl ⟨by kernel_rfl, by kernel_rfl, by kernel_rfl, by kernel_rfl, Eq.trans (by kernel_rfl) E19.out.symm, trivial⟩ HL.out) (by kernel_rfl)
set_option maxHeartbeats 4000000 in
theorem li_r11 (a : Act) (w : World) (N : Act → World → Prop) (Q : Exit → Act → World → Prop) (l : List (Nat × Value)) (hs : Sl 62 a l) (hl : (l.map Prod.fst).all (fun k => [0, 1, 7, 8, 19].contains k) = true)
    (c : Int) (b : Bool) (hb : (c == 92) = b)  (h19 : l.lookup 19 = some (.int .u8 c))
    (hN : ∀ a', Sl 62 a' ((38, .bool b) :: l) → N a' (w)) : (r_li 11).wp Tryd.prog (Exit.then N Q) a w := by
  have HN := Lib.hid hN
  have HL := Lib.hid hl
  have e19 := hs.look 19 h19
  obtain ⟨f, ea, hf⟩ : ∃ f : Nat → Value, a = ⟨(List.toArray (f 0 :: f 1 :: f 2 :: f 3 :: f 4 :: f 5 :: f 6 :: f 7 :: f 8 :: f 9 :: f 10 :: f 11 :: f 12 :: f 13 :: f 14 :: f 15 :: f 16 :: f 17 :: f 18 :: f 19 :: f 20 :: f 21 :: f 22 :: f 23 :: f 24 :: f 25 :: f 26 :: f 27 :: f 28 :: f 29 :: f 30 :: f 31 :: f 32 :: f 33 :: f 34 :: f 35 :: f 36 :: f 37 :: f 38 :: f 39 :: f 40 :: f 41 :: f 42 :: f 43 :: f 44 :: f 45 :: f 46 :: f 47 :: f 48 :: f 49 :: f 50 :: f 51 :: f 52 :: f 53 :: f 54 :: f 55 :: f 56 :: f 57 :: f 58 :: f 59 :: f 60 :: f 61 :: [])), []⟩ ∧ ∀ k, slot a k = f k := letters_li a hs.size hs.defers
  rw [hf] at e19
  rw [ea, e19]
  have HS := Lib.hid hs
  have HF := Lib.hid hf
  have E19 := Lib.hid e19
  clear hs ea hf hN hl h19 e19
  conv => arg 2; whnf
  go_wp2_with fail
  refine HN.out _ ?_
  exact Sl.add (Sl.stay [0, 1, 7, 8, 19] HS.out HF.out (by kernel_rfl) rfl ⟨by kernel_rfl, by kernel_rfl, by kernel_rfl, by kernel_rfl, Eq.trans (by kernel_rfl) E19.out.symm, trivial⟩ HL.out) (by kernel_rfl)
set_option maxHeartbeats 4000000 in
theorem li_r8 (a : Act) (w : World) (N : Act → World → Prop) (Q : Exit → Act → World → Prop) (l : List (Nat × Value)) (hs : Sl 62 a l) (hl : (l.map Prod.fst).all (fun k => [].contains k) = true)
    (v : Value) (tx : ByteArray) (i : Int) (i0 : 0 ≤ i) (i1 : i ≤ 140737488355328) (hc : (convert 52 9 v).run Tryd.prog w = .ok (.string tx) w)  (h7 : slot a 7 = v) (h8 : slot a 8 = .int .i64 i)
    (hN : ∀ a', Sl 62 a' ((6, .pointer none) :: ((5, .int .i64 (i + 1)) :: ((4, .string tx) :: l))) → N a' (w)) : (r_li 8).wp Tryd.prog (Exit.then N Q) a w := by
  have HN := Lib.hid hN
  have HL := Lib.hid hl
  have e7 := h7
  have e8 := h8
  obtain ⟨f, ea, hf⟩ : ∃ f : Nat → Value, a = ⟨(List.toArray (f 0 :: f 1 :: f 2 :: f 3 :: f 4 :: f 5 :: f 6 :: f 7 :: f 8 :: f 9 :: f 10 :: f 11 :: f 12 :: f 13 :: f 14 :: f 15 :: f 16 :: f 17 :: f 18 :: f 19 :: f 20 :: f 21 :: f 22 :: f 23 :: f 24 :: f 25 :: f 26 :: f 27 :: f 28 :: f 29 :: f 30 :: f 31 :: f 32 :: f 33 :: f 34 :: f 35 :: f 36 :: f 37 :: f 38 :: f 39 :: f 40 :: f 41 :: f 42 :: f 43 :: f 44 :: f 45 :: f 46 :: f 47 :: f 48 :: f 49 :: f 50 :: f 51 :: f 52 :: f 53 :: f 54 :: f 55 :: f 56 :: f 57 :: f 58 :: f 59 :: f 60 :: f 61 :: [])), []⟩ ∧ ∀ k, slot a k = f k := letters_li a hs.size hs.defers
  rw [hf] at e7 e8
  rw [ea, e7, e8]
  have HS := Lib.hid hs
  have HF := Lib.hid hf
  have E7 := Lib.hid e7
  have E8 := Lib.hid e8
  clear hs ea hf hN hl h7 e7 h8 e8
  conv => arg 2; whnf
  go_wp2_with fail
  refine HN.out _ ?_
  exact Sl.add (Sl.add (Sl.add (Sl.stay [] HS.out HF.out (by kernel_rfl) rfl trivial HL.out) (by kernel_rfl)) (by kernel_rfl)) (by kernel_rfl)
set_option maxHeartbeats 4000000 in
theorem li_r10 (a : Act) (w : World) (N : Act → World → Prop) (Q : Exit → Act → World → Prop) (l : List (Nat × Value)) (hs : Sl 62 a l) (hl : (l.map Prod.fst).all (fun k => [].contains k) = true)
    (k : Int)  (h1 : slot a 1 = .int .i64 k)
    (hN : ∀ a', Sl 62 a' ((6, .pointer (some ⟨w.heap.size, 0, none⟩)) :: ((5, .int .i64 0) :: ((4, .string ⟨#[]⟩) :: l))) → N a' (w.alloc (.cells #[.int .i64 11, .int .i64 k, .string ⟨#[]⟩] 26))) : (r_li 10).wp Tryd.prog (Exit.then N Q) a w := by
  have HN := Lib.hid hN
  have HL := Lib.hid hl
  have e1 := h1
  obtain ⟨f, ea, hf⟩ : ∃ f : Nat → Value, a = ⟨(List.toArray (f 0 :: f 1 :: f 2 :: f 3 :: f 4 :: f 5 :: f 6 :: f 7 :: f 8 :: f 9 :: f 10 :: f 11 :: f 12 :: f 13 :: f 14 :: f 15 :: f 16 :: f 17 :: f 18 :: f 19 :: f 20 :: f 21 :: f 22 :: f 23 :: f 24 :: f 25 :: f 26 :: f 27 :: f 28 :: f 29 :: f 30 :: f 31 :: f 32 :: f 33 :: f 34 :: f 35 :: f 36 :: f 37 :: f 38 :: f 39 :: f 40 :: f 41 :: f 42 :: f 43 :: f 44 :: f 45 :: f 46 :: f 47 :: f 48 :: f 49 :: f 50 :: f 51 :: f 52 :: f 53 :: f 54 :: f 55 :: f 56 :: f 57 :: f 58 :: f 59 :: f 60 :: f 61 :: [])), []⟩ ∧ ∀ k, slot a k = f k := letters_li a hs.size hs.defers
  rw [hf] at e1
  rw [ea, e1]
  have HS := Lib.hid hs
  have HF := Lib.hid hf
  have E1 := Lib.hid e1
  clear hs ea hf hN hl h1 e1
  have HC := Lib.hid (wrong_any 11 k w)
  conv => arg 2; whnf
  go_wp2_with fail
  refine HC.out.mono ?_
  rintro e w' ⟨rfl, rfl⟩
  go_wp2_with fail
  refine HN.out _ ?_
  exact Sl.add (Sl.add (Sl.add (Sl.stay [] HS.out HF.out (by kernel_rfl) rfl trivial HL.out) (by kernel_rfl)) (by kernel_rfl)) (by kernel_rfl)
set_option maxHeartbeats 4000000 in
theorem li_r14 (a : Act) (w : World) (N : Act → World → Prop) (Q : Exit → Act → World → Prop) (l : List (Nat × Value)) (hs : Sl 62 a l) (hl : (l.map Prod.fst).all (fun k => [].contains k) = true)
    (k : Int)  (h8 : slot a 8 = .int .i64 k)
    (hN : ∀ a', Sl 62 a' ((6, .pointer (some ⟨w.heap.size, 0, none⟩)) :: ((5, .int .i64 0) :: ((4, .string ⟨#[]⟩) :: l))) → N a' (w.alloc (.cells #[.int .i64 11, .int .i64 k, .string ⟨#[]⟩] 26))) : (r_li 14).wp Tryd.prog (Exit.then N Q) a w := by
  have HN := Lib.hid hN
  have HL := Lib.hid hl
  have e8 := h8
  obtain ⟨f, ea, hf⟩ : ∃ f : Nat → Value, a = ⟨(List.toArray (f 0 :: f 1 :: f 2 :: f 3 :: f 4 :: f 5 :: f 6 :: f 7 :: f 8 :: f 9 :: f 10 :: f 11 :: f 12 :: f 13 :: f 14 :: f 15 :: f 16 :: f 17 :: f 18 :: f 19 :: f 20 :: f 21 :: f 22 :: f 23 :: f 24 :: f 25 :: f 26 :: f 27 :: f 28 :: f 29 :: f 30 :: f 31 :: f 32 :: f 33 :: f 34 :: f 35 :: f 36 :: f 37 :: f 38 :: f 39 :: f 40 :: f 41 :: f 42 :: f 43 :: f 44 :: f 45 :: f 46 :: f 47 :: f 48 :: f 49 :: f 50 :: f 51 :: f 52 :: f 53 :: f 54 :: f 55 :: f 56 :: f 57 :: f 58 :: f 59 :: f 60 :: f 61 :: [])), []⟩ ∧ ∀ k, slot a k = f k := letters_li a hs.size hs.defers
  rw [hf] at e8
  rw [ea, e8]
  have HS := Lib.hid hs
  have HF := Lib.hid hf
  have E8 := Lib.hid e8
  clear hs ea hf hN hl h8 e8
  have HC := Lib.hid (wrong_any 11 k w)
  conv => arg 2; whnf
  go_wp2_with fail
  refine HC.out.mono ?_
  rintro e w' ⟨rfl, rfl⟩
  go_wp2_with fail
  refine HN.out _ ?_
  exact Sl.add (Sl.add (Sl.add (Sl.stay [] HS.out HF.out (by kernel_rfl) rfl trivial HL.out) (by kernel_rfl)) (by kernel_rfl)) (by kernel_rfl)
set_option maxHeartbeats 4000000 in
theorem li_r17 (a : Act) (w : World) (N : Act → World → Prop) (Q : Exit → Act → World → Prop) (l : List (Nat × Value)) (hs : Sl 62 a l) (hl : (l.map Prod.fst).all (fun k => [].contains k) = true)
    (k : Int)  (h1 : slot a 1 = .int .i64 k)
    (hN : ∀ a', Sl 62 a' ((6, .pointer (some ⟨w.heap.size, 0, none⟩)) :: ((5, .int .i64 0) :: ((4, .string ⟨#[]⟩) :: l))) → N a' (w.alloc (.cells #[.int .i64 11, .int .i64 k, .string ⟨#[]⟩] 26))) : (r_li 17).wp Tryd.prog (Exit.then N Q) a w := by
  have HN := Lib.hid hN
  have HL := Lib.hid hl
  have e1 := h1
  obtain ⟨f, ea, hf⟩ : ∃ f : Nat → Value, a = ⟨(List.toArray (f 0 :: f 1 :: f 2 :: f 3 :: f 4 :: f 5 :: f 6 :: f 7 :: f 8 :: f 9 :: f 10 :: f 11 :: f 12 :: f 13 :: f 14 :: f 15 :: f 16 :: f 17 :: f 18 :: f 19 :: f 20 :: f 21 :: f 22 :: f 23 :: f 24 :: f 25 :: f 26 :: f 27 :: f 28 :: f 29 :: f 30 :: f 31 :: f 32 :: f 33 :: f 34 :: f 35 :: f 36 :: f 37 :: f 38 :: f 39 :: f 40 :: f 41 :: f 42 :: f 43 :: f 44 :: f 45 :: f 46 :: f 47 :: f 48 :: f 49 :: f 50 :: f 51 :: f 52 :: f 53 :: f 54 :: f 55 :: f 56 :: f 57 :: f 58 :: f 59 :: f 60 :: f 61 :: [])), []⟩ ∧ ∀ k, slot a k = f k := letters_li a hs.size hs.defers
  rw [hf] at e1
  rw [ea, e1]
  have HS := Lib.hid hs
  have HF := Lib.hid hf
  have E1 := Lib.hid e1
  clear hs ea hf hN hl h1 e1
  have HC := Lib.hid (wrong_any 11 k w)
  conv => arg 2; whnf
  go_wp2_with fail
  refine HC.out.mono ?_
  rintro e w' ⟨rfl, rfl⟩
  go_wp2_with fail
  refine HN.out _ ?_
  exact Sl.add (Sl.add (Sl.add (Sl.stay [] HS.out HF.out (by kernel_rfl) rfl trivial HL.out) (by kernel_rfl)) (by kernel_rfl)) (by kernel_rfl)
set_option maxHeartbeats 4000000 in
theorem li_r12 (a : Act) (w : World) (N : Act → World → Prop) (Q : Exit → Act → World → Prop) (l : List (Nat × Value)) (hs : Sl 62 a l) (hl : (l.map Prod.fst).all (fun k => [0, 1, 7, 8].contains k) = true)
    (s q : ByteArray) (i : Int) (i0 : 0 ≤ i) (i1 : i ≤ 140737488355328) (c n : Int) (hq : ∀ w, (Instr.slice 9 (.string s) (some (.int .i64 (i + 1))) none none).run Tryd.prog w = .ok (.string q) w) (HC : ∀ w, Calls Tryd.prog 56 #[.string q] w fun e w' => e = .returned (.tuple #[.int .u8 c, .int .i64 n]) ∧ Below w.heap.size w w')  (h0 : l.lookup 0 = some (.string s)) (h8 : l.lookup 8 = some (.int .i64 i))
    (hN : ∀ a' w', Sl 62 a' ((10, .int .i64 n) :: ((9, .int .u8 c) :: l)) → Below w.heap.size w w' → N a' w') : (r_li 12).wp Tryd.prog (Exit.then N Q) a w := by
  have HN := Lib.hid hN
  have HL := Lib.hid hl
  have e0 := hs.look 0 h0
  have e8 := hs.look 8 h8
  obtain ⟨f, ea, hf⟩ : ∃ f : Nat → Value, a = ⟨(List.toArray (f 0 :: f 1 :: f 2 :: f 3 :: f 4 :: f 5 :: f 6 :: f 7 :: f 8 :: f 9 :: f 10 :: f 11 :: f 12 :: f 13 :: f 14 :: f 15 :: f 16 :: f 17 :: f 18 :: f 19 :: f 20 :: f 21 :: f 22 :: f 23 :: f 24 :: f 25 :: f 26 :: f 27 :: f 28 :: f 29 :: f 30 :: f 31 :: f 32 :: f 33 :: f 34 :: f 35 :: f 36 :: f 37 :: f 38 :: f 39 :: f 40 :: f 41 :: f 42 :: f 43 :: f 44 :: f 45 :: f 46 :: f 47 :: f 48 :: f 49 :: f 50 :: f 51 :: f 52 :: f 53 :: f 54 :: f 55 :: f 56 :: f 57 :: f 58 :: f 59 :: f 60 :: f 61 :: [])), []⟩ ∧ ∀ k, slot a k = f k := letters_li a hs.size hs.defers
  rw [hf] at e0 e8
  rw [ea, e0, e8]
  have HS := Lib.hid hs
  have HF := Lib.hid hf
  have E0 := Lib.hid e0
  have E8 := Lib.hid e8
  clear hs ea hf hN hl h0 e0 h8 e8
  have HC := Lib.hid HC
  conv => arg 2; whnf
  go_wp2_with fail
  refine (HC.out _).mono ?_
  rintro e w' ⟨rfl, hb⟩
  go_wp2_with fail
  refine HN.out _ _ ?_ hb
  exact Sl.add (Sl.add (Sl.stay [0, 1, 7, 8] HS.out HF.out (by kernel_rfl) rfl ⟨Eq.trans (by kernel_rfl) E0.out.symm, by kernel_rfl, by kernel_rfl, Eq.trans (by kernel_rfl) E8.out.symm, trivial⟩ HL.out) (by kernel_rfl)) (by kernel_rfl)
set_option maxHeartbeats 4000000 in
theorem li_r13 (a : Act) (w : World) (N : Act → World → Prop) (Q : Exit → Act → World → Prop) (l : List (Nat × Value)) (hs : Sl 62 a l) (hl : (l.map Prod.fst).all (fun k => [0, 1, 7, 8, 9, 10].contains k) = true)
    (n : Int) (b : Bool) (hb : (n == 0) = b)  (h10 : l.lookup 10 = some (.int .i64 n))
    (hN : ∀ a', Sl 62 a' ((49, .bool b) :: l) → N a' (w)) : (r_li 13).wp Tryd.prog (Exit.then N Q) a w := by
  have HN := Lib.hid hN
  have HL := Lib.hid hl
  have e10 := hs.look 10 h10
  obtain ⟨f, ea, hf⟩ : ∃ f : Nat → Value, a = ⟨(List.toArray (f 0 :: f 1 :: f 2 :: f 3 :: f 4 :: f 5 :: f 6 :: f 7 :: f 8 :: f 9 :: f 10 :: f 11 :: f 12 :: f 13 :: f 14 :: f 15 :: f 16 :: f 17 :: f 18 :: f 19 :: f 20 :: f 21 :: f 22 :: f 23 :: f 24 :: f 25 :: f 26 :: f 27 :: f 28 :: f 29 :: f 30 :: f 31 :: f 32 :: f 33 :: f 34 :: f 35 :: f 36 :: f 37 :: f 38 :: f 39 :: f 40 :: f 41 :: f 42 :: f 43 :: f 44 :: f 45 :: f 46 :: f 47 :: f 48 :: f 49 :: f 50 :: f 51 :: f 52 :: f 53 :: f 54 :: f 55 :: f 56 :: f 57 :: f 58 :: f 59 :: f 60 :: f 61 :: [])), []⟩ ∧ ∀ k, slot a k = f k := letters_li a hs.size hs.defers
  rw [hf] at e10
  rw [ea, e10]
  have HS := Lib.hid hs
  have HF := Lib.hid hf
  have E10 := Lib.hid e10
  clear hs ea hf hN hl h10 e10
  conv => arg 2; whnf
  go_wp2_with fail
  refine HN.out _ ?_
  exact Sl.add (Sl.stay [0, 1, 7, 8, 9, 10] HS.out HF.out (by kernel_rfl) rfl ⟨by kernel_rfl, by kernel_rfl, by kernel_rfl, by kernel_rfl, by kernel_rfl, Eq.trans (by kernel_rfl) E10.out.symm, trivial⟩ HL.out) (by kernel_rfl)
set_option maxHeartbeats 4000000 in
theorem li_r15 (a : Act) (w : World) (N : Act → World → Prop) (Q : Exit → Act → World → Prop) (l : List (Nat × Value)) (hs : Sl 62 a l) (hl : (l.map Prod.fst).all (fun k => [0, 1, 8, 9, 10].contains k) = true)
    (c : Int) (v : Value) (B n : Nat) (xs : List Value) (hown : w.ownsRow B 5 1 v n xs) (hn : n ≤ 140737488355327) (hB : B ≤ w.heap.size)  (h7 : slot a 7 = v) (h9 : l.lookup 9 = some (.int .u8 c))
    (hN : ∀ a' w' v', Sl 62 a' ((7, v') :: l) → w'.ownsRow B 5 1 v' (n + 1) (xs ++ [.int .u8 c]) → Below B w w' → N a' w') : (r_li 15).wp Tryd.prog (Exit.then N Q) a w := by
  have HN := Lib.hid hN
  have HL := Lib.hid hl
  have e7 := h7
  have e9 := hs.look 9 h9
  obtain ⟨f, ea, hf⟩ : ∃ f : Nat → Value, a = ⟨(List.toArray (f 0 :: f 1 :: f 2 :: f 3 :: f 4 :: f 5 :: f 6 :: f 7 :: f 8 :: f 9 :: f 10 :: f 11 :: f 12 :: f 13 :: f 14 :: f 15 :: f 16 :: f 17 :: f 18 :: f 19 :: f 20 :: f 21 :: f 22 :: f 23 :: f 24 :: f 25 :: f 26 :: f 27 :: f 28 :: f 29 :: f 30 :: f 31 :: f 32 :: f 33 :: f 34 :: f 35 :: f 36 :: f 37 :: f 38 :: f 39 :: f 40 :: f 41 :: f 42 :: f 43 :: f 44 :: f 45 :: f 46 :: f 47 :: f 48 :: f 49 :: f 50 :: f 51 :: f 52 :: f 53 :: f 54 :: f 55 :: f 56 :: f 57 :: f 58 :: f 59 :: f 60 :: f 61 :: [])), []⟩ ∧ ∀ k, slot a k = f k := letters_li a hs.size hs.defers
  rw [hf] at e7 e9
  rw [ea, e7, e9]
  have HS := Lib.hid hs
  have HF := Lib.hid hf
  have E7 := Lib.hid e7
  have E9 := Lib.hid e9
  clear hs ea hf hN hl h7 e7 h9 e9
  obtain ⟨i0, hi, hz0, hz1, hz2⟩ := info_parts info_byte
  have HO := Lib.hid (hown.alloc (.cells #[.int .u8 c] 5))
  have hnews : ∀ (q : Nat) (u : Value), [Value.int .u8 c][q]? = some u → (w.alloc (.cells #[.int .u8 c] 5)).cell? ((⟨w.heap.size, 0, none⟩ : Addr).add q) = some u := news_one w _ _
  have HN2 := Lib.hid hnews
  clear hown hnews
  conv => arg 2; whnf
  go_wp2_with (at_builtin; refine wpList_append_own _ rfl (.tmp 52) (.tmp 54) 52 rfl B 5 i0 _ 1 1 Tryd.underlying52 hi hz0 hz1 hz2 rfl (by decide) v n xs rfl HO.out ⟨w.heap.size, 0, none⟩ 1 1 [.int .u8 c] rfl rfl HN2.out (by simp [Value.oneCell']) (by unfold maxLen; omega) (by omega) (by simp; omega) ?_; intro v' w' hown' hgrow _)
  refine HN.out _ _ _ ?_ hown' ((app_below HO.out hB hgrow))
  exact Sl.add (Sl.stay [0, 1, 8, 9, 10] HS.out HF.out (by kernel_rfl) rfl ⟨by kernel_rfl, by kernel_rfl, by kernel_rfl, Eq.trans (by kernel_rfl) E9.out.symm, by kernel_rfl, trivial⟩ HL.out) (by kernel_rfl)
set_option maxHeartbeats 4000000 in
theorem li_r5 (a : Act) (w : World) (N : Act → World → Prop) (Q : Exit → Act → World → Prop) (l : List (Nat × Value)) (hs : Sl 62 a l) (hl : (l.map Prod.fst).all (fun k => [0, 1, 8].contains k) = true)
    (s : ByteArray) (i c : Int) (hi : ∀ w, (Instr.index 9 (.string s) (.int .i64 i)).run Tryd.prog w = .ok (.int .u8 c) w) (v : Value) (B n : Nat) (xs : List Value) (hown : w.ownsRow B 5 1 v n xs) (hn : n ≤ 140737488355327) (hB : B ≤ w.heap.size)  (h0 : l.lookup 0 = some (.string s)) (h7 : slot a 7 = v) (h8 : l.lookup 8 = some (.int .i64 i))
    (hN : ∀ a' w' v', Sl 62 a' ((7, v') :: l) → w'.ownsRow B 5 1 v' (n + 1) (xs ++ [.int .u8 c]) → Below B w w' → N a' w') : (r_li 5).wp Tryd.prog (Exit.then N Q) a w := by
  have HN := Lib.hid hN
  have HL := Lib.hid hl
  have e0 := hs.look 0 h0
  have e7 := h7
  have e8 := hs.look 8 h8
  obtain ⟨f, ea, hf⟩ : ∃ f : Nat → Value, a = ⟨(List.toArray (f 0 :: f 1 :: f 2 :: f 3 :: f 4 :: f 5 :: f 6 :: f 7 :: f 8 :: f 9 :: f 10 :: f 11 :: f 12 :: f 13 :: f 14 :: f 15 :: f 16 :: f 17 :: f 18 :: f 19 :: f 20 :: f 21 :: f 22 :: f 23 :: f 24 :: f 25 :: f 26 :: f 27 :: f 28 :: f 29 :: f 30 :: f 31 :: f 32 :: f 33 :: f 34 :: f 35 :: f 36 :: f 37 :: f 38 :: f 39 :: f 40 :: f 41 :: f 42 :: f 43 :: f 44 :: f 45 :: f 46 :: f 47 :: f 48 :: f 49 :: f 50 :: f 51 :: f 52 :: f 53 :: f 54 :: f 55 :: f 56 :: f 57 :: f 58 :: f 59 :: f 60 :: f 61 :: [])), []⟩ ∧ ∀ k, slot a k = f k := letters_li a hs.size hs.defers
  rw [hf] at e0 e7 e8
  rw [ea, e0, e7, e8]
  have HS := Lib.hid hs
  have HF := Lib.hid hf
  have E0 := Lib.hid e0
  have E7 := Lib.hid e7
  have E8 := Lib.hid e8
  clear hs ea hf hN hl h0 e0 h7 e7 h8 e8
  obtain ⟨i0, hi, hz0, hz1, hz2⟩ := info_parts info_byte
  have HO := Lib.hid (hown.alloc (.cells #[.int .u8 c] 5))
  have hnews : ∀ (q : Nat) (u : Value), [Value.int .u8 c][q]? = some u → (w.alloc (.cells #[.int .u8 c] 5)).cell? ((⟨w.heap.size, 0, none⟩ : Addr).add q) = some u := news_one w _ _
  have HN2 := Lib.hid hnews
  clear hown hnews
  conv => arg 2; whnf
  go_wp2_with (at_builtin; refine wpList_append_own _ rfl (.tmp 20) (.tmp 24) 52 rfl B 5 i0 _ 1 1 Tryd.underlying52 hi hz0 hz1 hz2 rfl (by decide) v n xs rfl HO.out ⟨w.heap.size, 0, none⟩ 1 1 [.int .u8 c] rfl rfl HN2.out (by simp [Value.oneCell']) (by unfold maxLen; omega) (by omega) (by simp; omega) ?_; intro v' w' hown' hgrow _)
  refine HN.out _ _ _ ?_ hown' ((app_below HO.out hB hgrow))
  exact Sl.add (Sl.stay [0, 1, 8] HS.out HF.out (by kernel_rfl) rfl ⟨Eq.trans (by kernel_rfl) E0.out.symm, by kernel_rfl, Eq.trans (by kernel_rfl) E8.out.symm, trivial⟩ HL.out) (by kernel_rfl)
set_option maxHeartbeats 4000000 in
theorem li_r16 (a : Act) (w : World) (N : Act → World → Prop) (Q : Exit → Act → World → Prop) (l : List (Nat × Value)) (hs : Sl 62 a l) (hl : (l.map Prod.fst).all (fun k => [0, 1, 7].contains k) = true)
    (i : Int) (i0 : 0 ≤ i) (i1 : i ≤ 140737488355328) (n : Int) (n0 : 0 ≤ n) (n1 : n ≤ 3)  (h8 : slot a 8 = .int .i64 i) (h10 : slot a 10 = .int .i64 n)
    (hN : ∀ a', Sl 62 a' ((8, .int .i64 (i + (1 + n))) :: l) → N a' (w)) : (r_li 16).wp Tryd.prog (Exit.then N Q) a w := by
  have HN := Lib.hid hN
  have HL := Lib.hid hl
  have e8 := h8
  have e10 := h10
  obtain ⟨f, ea, hf⟩ : ∃ f : Nat → Value, a = ⟨(List.toArray (f 0 :: f 1 :: f 2 :: f 3 :: f 4 :: f 5 :: f 6 :: f 7 :: f 8 :: f 9 :: f 10 :: f 11 :: f 12 :: f 13 :: f 14 :: f 15 :: f 16 :: f 17 :: f 18 :: f 19 :: f 20 :: f 21 :: f 22 :: f 23 :: f 24 :: f 25 :: f 26 :: f 27 :: f 28 :: f 29 :: f 30 :: f 31 :: f 32 :: f 33 :: f 34 :: f 35 :: f 36 :: f 37 :: f 38 :: f 39 :: f 40 :: f 41 :: f 42 :: f 43 :: f 44 :: f 45 :: f 46 :: f 47 :: f 48 :: f 49 :: f 50 :: f 51 :: f 52 :: f 53 :: f 54 :: f 55 :: f 56 :: f 57 :: f 58 :: f 59 :: f 60 :: f 61 :: [])), []⟩ ∧ ∀ k, slot a k = f k := letters_li a hs.size hs.defers
  rw [hf] at e8 e10
  rw [ea, e8, e10]
  have HS := Lib.hid hs
  have HF := Lib.hid hf
  have E8 := Lib.hid e8
  have E10 := Lib.hid e10
  clear hs ea hf hN hl h8 e8 h10 e10
  conv => arg 2; whnf
  go_wp2_with fail
  refine HN.out _ ?_
  exact Sl.add (Sl.stay [0, 1, 7] HS.out HF.out (by kernel_rfl) rfl ⟨by kernel_rfl, by kernel_rfl, by kernel_rfl, trivial⟩ HL.out) (by kernel_rfl)
set_option maxHeartbeats 4000000 in
theorem li_r6 (a : Act) (w : World) (N : Act → World → Prop) (Q : Exit → Act → World → Prop) (l : List (Nat × Value)) (hs : Sl 62 a l) (hl : (l.map Prod.fst).all (fun k => [0, 1, 7].contains k) = true)
    (i : Int) (i0 : 0 ≤ i) (i1 : i ≤ 140737488355328)  (h8 : slot a 8 = .int .i64 i)
    (hN : ∀ a', Sl 62 a' ((8, .int .i64 (i + 1)) :: l) → N a' (w)) : (r_li 6).wp Tryd.prog (Exit.then N Q) a w := by
  have HN := Lib.hid hN
  have HL := Lib.hid hl
  have e8 := h8
  obtain ⟨f, ea, hf⟩ : ∃ f : Nat → Value, a = ⟨(List.toArray (f 0 :: f 1 :: f 2 :: f 3 :: f 4 :: f 5 :: f 6 :: f 7 :: f 8 :: f 9 :: f 10 :: f 11 :: f 12 :: f 13 :: f 14 :: f 15 :: f 16 :: f 17 :: f 18 :: f 19 :: f 20 :: f 21 :: f 22 :: f 23 :: f 24 :: f 25 :: f 26 :: f 27 :: f 28 :: f 29 :: f 30 :: f 31 :: f 32 :: f 33 :: f 34 :: f 35 :: f 36 :: f 37 :: f 38 :: f 39 :: f 40 :: f 41 :: f 42 :: f 43 :: f 44 :: f 45 :: f 46 :: f 47 :: f 48 :: f 49 :: f 50 :: f 51 :: f 52 :: f 53 :: f 54 :: f 55 :: f 56 :: f 57 :: f 58 :: f 59 :: f 60 :: f 61 :: [])), []⟩ ∧ ∀ k, slot a k = f k := letters_li a hs.size hs.defers
  rw [hf] at e8
  rw [ea, e8]
  have HS := Lib.hid hs
  have HF := Lib.hid hf
  have E8 := Lib.hid e8
  clear hs ea hf hN hl h8 e8
  conv => arg 2; whnf
  go_wp2_with fail
  refine HN.out _ ?_
  exact Sl.add (Sl.stay [0, 1, 7] HS.out HF.out (by kernel_rfl) rfl ⟨by kernel_rfl, by kernel_rfl, by kernel_rfl, trivial⟩ HL.out) (by kernel_rfl)
end Go.Proofs.YtpggcmlddmckcaaDoor

namespace Go.Proofs.YtpggcmlddmckcaaDoor
open Go.RowKit Go.Sort
set_option maxRecDepth 100000

theorem then_exit {id : Nat} {K : Act → World → Prop} {Q : Exit → Act → World → Prop} {a : Act} {w : World} (h : Q (.exit id) a w) : Exit.then K Q (.exit id) a w := h
theorem in_block' {id : Nat} {Q : Exit → Act → World → Prop} {a : Act} {w : World} (h : Q .normal a w) : Exit.inBlock id Q (.exit id) a w := by simpa [Exit.inBlock] using h

noncomputable def liArm : Code := .seq (r_li 12) (.seq (.seq (r_li 13) (.cond (.tmp 49) (.seq (r_li 14) .ret) .skip)) (.seq (r_li 15) (r_li 16)))
noncomputable def liTurn : Code := .seq (r_li 7) (.cond (.tmp 28) (.seq (r_li 8) .ret) (.seq (r_li 9) (.cond (.tmp 34) (.seq (r_li 10) .ret) (.seq (r_li 11) (.cond (.tmp 38) liArm (.seq (r_li 5) (r_li 6)))))))
noncomputable def liLoop : Code := .seq (.seq (r_li 3) (.cond (.tmp 16) .skip (.exit 0))) (.block 1 (.seq (r_li 4) (.block 2 liTurn)))
noncomputable def liBody : Code := .seq (r_li 0) (.seq (r_li 1) (.seq (.seq (r_li 2) (.block 0 (.loop liLoop))) (.seq (r_li 17) .ret)))
theorem li_body : Tryd.f39.body = some liBody := by kernel_rfl

/-- What a reader of a literal hands back. -/
def LitR (r : Ans (List UInt8 × Nat)) (w : World) (e : Ending) (w' : World) : Prop := Below w.heap.size w w' ∧ match r with
  | .ok x => e = .returned (.tuple #[.string (bs x.1), .int .i64 (x.2 : Int), .pointer none])
  | .bad b => ∃ g, e = .returned (.tuple #[.string ⟨#[]⟩, .int .i64 0, .pointer (some ⟨g, 0, none⟩)]) ∧ WrongB w w' g b
theorem LitR.ok {x : List UInt8 × Nat} {w w' : World} {e : Ending} (hb : Below w.heap.size w w') (he : e = .returned (.tuple #[.string (bs x.1), .int .i64 (x.2 : Int), .pointer none])) : LitR (.ok x) w e w' := ⟨hb, he⟩
theorem LitR.bad {b : Bad} {w w' : World} {e : Ending} (hb : Below w.heap.size w w') (g : Nat) (he : e = .returned (.tuple #[.string ⟨#[]⟩, .int .i64 0, .pointer (some ⟨g, 0, none⟩)])) (hg : WrongB w w' g b) : LitR (.bad b) w e w' := ⟨hb, g, he, hg⟩
theorem li_done {R : Ans (List UInt8 × Nat)} {w w3 : World} {a4 : Act} {v4 v5 v6 : Value} (hd : a4.defers = []) (h4 : slot a4 4 = v4) (h5 : slot a4 5 = v5) (h6 : slot a4 6 = v6) (hr : LitR R w (.returned (.tuple #[v4, v5, v6])) w3) :
    bodyPost Tryd.prog Tryd.f39 (LitR R w) .ret a4 w3 :=
  bodyPost_ret (v := .tuple #[v4, v5, v6]) (by
    unfold slot at h4 h5 h6
    simp only [Array.getD_eq_getD_getElem?] at h4 h5 h6
    simp [results, Tryd.results39, h4, h5, h6]) hd hr

theorem own_below {w w' : World} {B n sz : Nat} {t : TypeId} {v : Value} {xs : List Value} (h : w.ownsRow B t sz v n xs) (hb : Below w.heap.size w w') : w'.ownsRow B t sz v n xs :=
  h.kept (row := none) ⟨hb.os, hb.tape, hb.output, hb.size, fun k hk _ => hb.block k hk⟩ (by
    cases hq : v.ownBlock with
    | none => exact .inl rfl
    | some k => exact .inr (by simp))
theorem esc_three (l : List UInt8) : (escL l).2 ≤ 3 := by
  cases l with
  | nil => simp [escL]
  | cons c r =>
    simp only [escL]
    repeat' split
    all_goals simp
theorem li_loop (s : ByteArray) (hs : s.size ≤ 9223372036854775000) (a0 : Nat) (w : World) (R : Ans (List UInt8 × Nat)) (hbd : s.size ≤ 140737488355327 ∨ ∃ x, R = .ok x ∧ x.2 ≤ 140737488355327) (a5 : Act) (wr : World) (i : Nat) (out : List UInt8) (v : Value) (hi0 : a0 < i) (hi : i ≤ s.size) (hol : out.length ≤ i)
    (h5 : Sl 62 a5 [(8, .int .i64 (i : Int)), (7, v), (1, .int .i64 (a0 : Int)), (0, .string s)]) (hown : wr.ownsRow w.heap.size 5 1 v out.length (out.map byteV)) (hb : Below w.heap.size w wr) (hR : R = litL a0 i out (s.data.toList.drop i))
    (Q : Exit → Act → World → Prop) (hQ1 : ∀ a' w' (i' : Nat) (out' : List UInt8) (v' : Value), i < i' → i' ≤ s.size → out'.length ≤ i' → Sl 62 a' [(8, .int .i64 (i' : Int)), (7, v'), (1, .int .i64 (a0 : Int)), (0, .string s)] → w'.ownsRow w.heap.size 5 1 v' out'.length (out'.map byteV) → Below w.heap.size w w' → R = litL a0 i' out' (s.data.toList.drop i') → Q .normal a' w')
    (hQ2 : ∀ a' w', bodyPost Tryd.prog Tryd.f39 (LitR R w) .ret a' w' → Q .ret a' w') (hQ3 : ∀ a', Sl 62 a' [(8, .int .i64 (i : Int)), (7, v), (1, .int .i64 (a0 : Int)), (0, .string s)] → s.size = i → Q (.exit 0) a' wr) : liLoop.wp Tryd.prog Q a5 wr := by
  have hbz := hb.size
  unfold liLoop
  refine wp_seq (wp_seq ?_)
  by_cases hlt : i < s.size
  · have hi2 : i ≤ 140737488355326 := by
      rcases hbd with hbd | ⟨x, hx, hbd⟩
      · omega
      · have := lit_len a0 _ _ _ _ x (Nat.le_refl _) (hR.symm.trans hx)
        omega
    refine li_r3T a5 wr _ _ _ h5 rfl s i (by omega) rfl rfl fun a6 h6 => ?_
    refine wpc_on (h6.look 16 rfl) ?_
    refine wp_block ?_
    have hix := fun w => idx_str hlt (x := (i : Int)) rfl w
    have hdr := drop_str s i hlt
    obtain ⟨c, hc⟩ : ∃ c, s[i]'hlt = c := ⟨_, rfl⟩
    rw [hc] at hix hdr
    refine wp_seq (li_r4 a6 wr _ _ _ h6.tl rfl s i _ hix rfl rfl fun a7 h7 => ?_)
    refine wp_block ?_
    rw [hdr, litL] at hR
    unfold liTurn
    have b34 : ((c.toNat : Int) == 34) = decide (c = 34) := by rw [show (34 : Int) = ((34 : UInt8).toNat : Int) from rfl, byte_eq]
    have b10 : ((c.toNat : Int) == 10) = decide (c = 10) := by rw [show (10 : Int) = ((10 : UInt8).toNat : Int) from rfl, byte_eq]
    have b92 : ((c.toNat : Int) == 92) = decide (c = 92) := by rw [show (92 : Int) = ((92 : UInt8).toNat : Int) from rfl, byte_eq]
    refine wp_seq (li_r7 a7 wr _ _ _ h7 rfl _ _ b34 rfl fun a8 h8 => ?_)
    by_cases h34 : c = 34
    · rw [decide_eq_true h34] at h8
      rw [if_pos h34] at hR
      refine wp_cond_true (h8.look 28 rfl) ?_
      refine wp_seq (li_r8 a8 wr _ _ _ h8.none rfl v (bs out) i (by omega) (by omega) (own_string hown) (h8.look 7 rfl) (h8.look 8 rfl) fun a9 h9 => wp_ret ?_)
      refine hQ2 _ _ (li_done h9.defers (h9.look 4 rfl) (h9.look 5 rfl) (h9.look 6 rfl) ?_)
      rw [hR]
      exact LitR.ok hb (by simp)
    rw [decide_eq_false h34] at h8
    rw [if_neg h34] at hR
    refine wp_cond_false (h8.look 28 rfl) ?_
    refine wp_seq (li_r9 a8 wr _ _ _ h8.tl rfl _ _ b10 rfl fun a9 h9 => ?_)
    by_cases h10 : c = 10
    · rw [decide_eq_true h10] at h9
      rw [if_pos h10] at hR
      refine wp_cond_true (h9.look 34 rfl) ?_
      refine wp_seq (li_r10 a9 wr _ _ _ h9.none rfl a0 (h9.look 1 rfl) fun a10 h10' => wp_ret ?_)
      refine hQ2 _ _ (li_done h10'.defers (h10'.look 4 rfl) (h10'.look 5 rfl) (h10'.look 6 rfl) ?_)
      rw [hR]
      exact LitR.bad (bl_alloc hb _) _ rfl ⟨hbz, Blk.new _ _ _⟩
    rw [decide_eq_false h10] at h9
    rw [if_neg h10] at hR
    refine wp_cond_false (h9.look 34 rfl) ?_
    refine wp_seq (li_r11 a9 wr _ _ _ h9.tl rfl _ _ b92 rfl fun a10 h10' => ?_)
    by_cases h92 : c = 92
    · rw [decide_eq_true h92] at h10'
      rw [if_pos h92] at hR
      refine wp_cond_true (h10'.look 38 rfl) ?_
      unfold liArm
      have hq := fun w => sl_from (s := s) (k := i + 1) (by omega) (x := (i : Int) + 1) (by omega) w
      have hel := esc_le (s.data.toList.drop (i + 1))
      simp only [List.length_drop, Array.length_toList] at hel
      have hsz : s.data.size = s.size := rfl
      have hE := fun w => esc_any (bs (s.data.toList.drop (i + 1))) (by rw [bs_size, List.length_drop]; simp; omega) w
      simp only [bs_list] at hE
      have h11 := h10'.tl.none.add (h10'.look 0 rfl) |>.add (h10'.look 1 rfl) |>.add (h10'.look 7 rfl) |>.add (h10'.look 8 rfl)
      refine wp_seq (li_r12 a10 wr _ _ _ h11 rfl s _ i (by omega) (by omega) _ _ hq hE rfl rfl fun a11 w11 h12 hb11 => ?_)
      have hown11 : w11.ownsRow w.heap.size 5 1 v out.length (out.map byteV) := own_below hown hb11
      have hbw := bl_trans hb hb11
      refine wp_seq (wp_seq (li_r13 a11 w11 _ _ _ h12 rfl _ _ rfl rfl fun a12 h13 => ?_))
      by_cases hn0 : (escL (s.data.toList.drop (i + 1))).2 = 0
      · rw [if_pos hn0] at hR
        have hz : (((escL (s.data.toList.drop (i + 1))).2 : Int) == 0) = true := by rw [hn0]; rfl
        rw [hz] at h13
        refine wp_cond_true (h13.look 49 rfl) ?_
        refine wp_seq (li_r14 a12 w11 _ _ _ h13.none rfl i (h13.look 8 rfl) fun a13 h14 => wp_ret ?_)
        refine hQ2 _ _ (li_done h14.defers (h14.look 4 rfl) (h14.look 5 rfl) (h14.look 6 rfl) ?_)
        rw [hR]
        exact LitR.bad (bl_alloc hbw _) _ rfl ⟨hbw.size, Blk.new _ _ _⟩
      · rw [if_neg hn0] at hR
        have hz : (((escL (s.data.toList.drop (i + 1))).2 : Int) == 0) = false := by rw [beq_eq_false_iff_ne]; omega
        rw [hz] at h13
        refine wpc_off (h13.look 49 rfl) ?_
        show Code.wp _ (Code.seq (r_li 15) (r_li 16)) _ a12 w11
        have hn3 := esc_three (s.data.toList.drop (i + 1))
        have h14 := h13.none.add (h13.look 0 rfl) |>.add (h13.look 1 rfl) |>.add (h13.look 8 rfl) |>.add (h13.look 9 rfl) |>.add (h13.look 10 rfl)
        refine wp_seq (li_r15 a12 w11 _ _ _ h14 rfl _ v w.heap.size out.length _ hown11 (by omega) hbw.size (h13.look 7 rfl) rfl fun a13 w13 v' h15 hown13 hb13 => ?_)
        refine wp_then ?_
        have h15' := h15.none.add (h15.look 0 rfl) |>.add (h15.look 1 rfl) |>.add (h15.look 7 rfl)
        refine li_r16 a13 w13 _ _ _ h15' rfl i (by omega) (by omega) _ (by omega) (by omega) (h15.look 8 rfl) (h15.look 10 rfl) fun a14 h16 => ?_
        refine hQ1 a14 w13 (i + 1 + (escL (s.data.toList.drop (i + 1))).2) (out ++ [(escL (s.data.toList.drop (i + 1))).1]) v' (by omega) (by omega) (by simp; omega) ?_ ?_ (hbw.trans hb13) ?_
        · have e8 : slot a14 8 = .int .i64 ((i + 1 + (escL (s.data.toList.drop (i + 1))).2 : Nat) : Int) := by rw [h16.look 8 rfl]; congr 1; omega
          exact h16.none.add (h16.look 0 rfl) |>.add (h16.look 1 rfl) |>.add (h16.look 7 rfl) |>.add e8
        · simpa [byteV] using hown13
        · rw [hR, List.drop_drop]
    · rw [decide_eq_false h92] at h10'
      rw [if_neg h92] at hR
      refine wp_cond_false (h10'.look 38 rfl) ?_
      have h11 := h10'.none.add (h10'.look 0 rfl) |>.add (h10'.look 1 rfl) |>.add (h10'.look 8 rfl)
      refine wp_seq (li_r5 a10 wr _ _ _ h11 rfl s i _ hix v w.heap.size out.length _ hown (by omega) hbz rfl (h10'.look 7 rfl) rfl fun a11 w11 v' h12 hown11 hb11 => ?_)
      refine wp_then ?_
      have h12' := h12.none.add (h12.look 0 rfl) |>.add (h12.look 1 rfl) |>.add (h12.look 7 rfl)
      refine li_r6 a11 w11 _ _ _ h12' rfl i (by omega) (by omega) (h12.look 8 rfl) fun a12 h13 => ?_
      refine hQ1 a12 w11 (i + 1) (out ++ [c]) v' (by omega) (by omega) (by simp; omega) ?_ ?_ (hb.trans hb11) hR
      · have e8 : slot a12 8 = .int .i64 ((i + 1 : Nat) : Int) := by rw [h13.look 8 rfl]; congr 1
        exact h13.none.add (h13.look 0 rfl) |>.add (h13.look 1 rfl) |>.add (h13.look 7 rfl) |>.add e8
      · simpa [byteV] using hown11
  · refine li_r3F a5 wr _ _ _ h5 rfl s i (decide_eq_false (by omega)) rfl rfl fun a6 h6 => ?_
    refine wpc_exit (h6.look 16 rfl) ?_
    exact hQ3 a6 h6.tl (by omega)

theorem literal_wide (s : ByteArray) (hs : s.size ≤ 9223372036854775000) (a0 : Nat) (ha : a0 < s.size) (hbd : s.size ≤ 140737488355327 ∨ ∃ x, litL a0 (a0 + 1) [] (s.data.toList.drop (a0 + 1)) = .ok x ∧ x.2 ≤ 140737488355327) (w : World) :
    Calls Tryd.prog 39 #[.string s, .int .i64 a0] w (LitR (litL a0 (a0 + 1) [] (s.data.toList.drop (a0 + 1))) w) := by
  have ha2 : a0 ≤ 140737488355326 := by
    rcases hbd with hbd | ⟨x, hx, hbd⟩
    · omega
    · have := lit_len a0 _ _ _ _ x (Nat.le_refl _) hx
      omega
  refine calls_of_wp Tryd.func39 li_body ?_
  have h0 : Sl 62 { tmps := #[Value.string s, .int .i64 (a0 : Int)] ++ Array.replicate (Tryd.f39.ntmps - #[Value.string s, .int .i64 (a0 : Int)].size) undef, defers := [] } [(1, .int .i64 (a0 : Int)), (0, .string s)] :=
    ⟨by simp [Tryd.ntmps39], rfl, fun p hp => by
      simp only [List.mem_cons, List.not_mem_nil, or_false] at hp
      rcases hp with rfl | rfl <;> simp [slot]⟩
  generalize { tmps := #[Value.string s, .int .i64 (a0 : Int)] ++ Array.replicate (Tryd.f39.ntmps - #[Value.string s, .int .i64 (a0 : Int)].size) undef, defers := [] : Act } = b0 at h0 ⊢
  unfold liBody
  refine wp_seq (li_r0 b0 w _ _ _ h0 rfl fun a1 h1 => ?_)
  have h1 := h1.none.add (h1.look 0 rfl) |>.add (h1.look 1 rfl)
  refine wp_seq (li_r1 a1 w _ _ _ h1 rfl fun a2 h2 => ?_)
  refine wp_seq (wp_seq (li_r2 a2 w _ _ _ h2 rfl a0 (by omega) (by omega) rfl fun a3 h3 => ?_))
  refine wp_block ?_
  refine wp_loop (fun a' wr => ∃ (i : Nat) (out : List UInt8) (v : Value), a0 < i ∧ i ≤ s.size ∧ out.length ≤ i ∧ Sl 62 a' [(8, .int .i64 (i : Int)), (7, v), (1, .int .i64 (a0 : Int)), (0, .string s)] ∧ wr.ownsRow w.heap.size 5 1 v out.length (out.map byteV) ∧ Below w.heap.size w wr ∧
    litL a0 (a0 + 1) [] (s.data.toList.drop (a0 + 1)) = litL a0 i out (s.data.toList.drop i)) (fun a' _ => muTo s.size (slot a' 8))
    ⟨a0 + 1, [], .slice none 0 0, by omega, by omega, by simp, h3, World.ownsRow_nil _ _ _ _, Below.refl _ _, rfl⟩ ?_
  rintro a5 wr ⟨i, out, v, hi0, hi, hol, h5, hown, hb, hR⟩
  rw [h5.look 8 rfl, muTo_int]
  refine li_loop s hs a0 w _ hbd a5 wr i out v hi0 hi hol h5 hown hb hR _ (fun a' w' i' out' v' g1 g2 g3 g4 g5 g6 g7 => ⟨⟨i', out', v', by omega, g2, g3, g4, g5, g6, g7⟩, ?_⟩) (fun a' w' h => h) (fun a' h6 he => ?_)
  · rw [g4.look 8 rfl, muTo_int]
    omega
  · refine then_exit (in_block' ?_)
    show Code.wp _ (Code.seq (r_li 17) .ret) _ a' wr
    refine wp_seq (li_r17 a' wr _ _ _ h6.none rfl a0 (h6.look 1 rfl) fun a7 h7 => wp_ret ?_)
    refine li_done h7.defers (h7.look 4 rfl) (h7.look 5 rfl) (h7.look 6 rfl) ?_
    rw [hR, drop_end s i (by omega), litL]
    exact LitR.bad (bl_alloc hb _) _ rfl ⟨hb.size, Blk.new _ _ _⟩
theorem literal_any (s : ByteArray) (hs : s.size ≤ 140737488355327) (a0 : Nat) (ha : a0 < s.size) (w : World) :
    Calls Tryd.prog 39 #[.string s, .int .i64 a0] w (LitR (litL a0 (a0 + 1) [] (s.data.toList.drop (a0 + 1))) w) := literal_wide s (by omega) a0 ha (.inl hs) w
end Go.Proofs.YtpggcmlddmckcaaDoor
