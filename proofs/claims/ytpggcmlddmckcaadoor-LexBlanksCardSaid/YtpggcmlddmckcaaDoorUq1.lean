/-
  The regions of package lex's Unquote, one by one. Written by an AI agent.
-/
import Derived.Test.YtpggcmlddmckcaaDoorSc3
namespace Go.Proofs.YtpggcmlddmckcaaDoor
open Go.RowKit Go.Sort
set_option maxRecDepth 100000
theorem letters_uq (a : Act) (h1 : a.tmps.size = 38) (h2 : a.defers = []) : ∃ f : Nat → Value, a = ⟨(List.toArray (f 0 :: f 1 :: f 2 :: f 3 :: f 4 :: f 5 :: f 6 :: f 7 :: f 8 :: f 9 :: f 10 :: f 11 :: f 12 :: f 13 :: f 14 :: f 15 :: f 16 :: f 17 :: f 18 :: f 19 :: f 20 :: f 21 :: f 22 :: f 23 :: f 24 :: f 25 :: f 26 :: f 27 :: f 28 :: f 29 :: f 30 :: f 31 :: f 32 :: f 33 :: f 34 :: f 35 :: f 36 :: f 37 :: [])), []⟩ ∧ ∀ k, slot a k = f k :=
  ⟨slot a, (spread a 38 h1 h2).trans (by kernel_rfl), fun _ => rfl⟩
noncomputable def r_uq (n : Nat) : Code := ((Tryd.f18.body.bind (findR n)).getD .skip)
set_option maxHeartbeats 4000000 in
theorem uq_r0 (a : Act) (w : World) (N : Act → World → Prop) (Q : Exit → Act → World → Prop) (l : List (Nat × Value)) (hs : Sl 38 a l) (hl : (l.map Prod.fst).all (fun k => [0].contains k) = true)
     
    (hN : ∀ a', Sl 38 a' ((3, .nilIface) :: ((2, .string ⟨#[]⟩) :: l)) → N a' (w)) : (r_uq 0).wp Tryd.prog (Exit.then N Q) a w := by
  have HN := Lib.hid hN
  have HL := Lib.hid hl
  obtain ⟨f, ea, hf⟩ : ∃ f : Nat → Value, a = ⟨(List.toArray (f 0 :: f 1 :: f 2 :: f 3 :: f 4 :: f 5 :: f 6 :: f 7 :: f 8 :: f 9 :: f 10 :: f 11 :: f 12 :: f 13 :: f 14 :: f 15 :: f 16 :: f 17 :: f 18 :: f 19 :: f 20 :: f 21 :: f 22 :: f 23 :: f 24 :: f 25 :: f 26 :: f 27 :: f 28 :: f 29 :: f 30 :: f 31 :: f 32 :: f 33 :: f 34 :: f 35 :: f 36 :: f 37 :: [])), []⟩ ∧ ∀ k, slot a k = f k := letters_uq a hs.size hs.defers
  rw [ea]
  have HS := Lib.hid hs
  have HF := Lib.hid hf
  clear hs ea hf hN hl 
  conv => arg 2; whnf
  go_wp2_with fail
  refine HN.out _ ?_
  exact Sl.add (Sl.add (Sl.stay [0] HS.out HF.out (by kernel_rfl) rfl ⟨by kernel_rfl, trivial⟩ HL.out) (by kernel_rfl)) (by kernel_rfl)
set_option maxHeartbeats 4000000 in
theorem uq_r1t (a : Act) (w : World) (N : Act → World → Prop) (Q : Exit → Act → World → Prop) (l : List (Nat × Value)) (hs : Sl 38 a l) (hl : (l.map Prod.fst).all (fun k => [0].contains k) = true)
    (s : ByteArray) (HC : ∀ w, Calls Tryd.prog 35 #[.string s, .string ⟨#[34]⟩] w fun e w' => e = .returned (.bool true) ∧ w' = w)  (h0 : l.lookup 0 = some (.string s))
    (hN : ∀ a', Sl 38 a' ((9, .bool false) :: l) → N a' (w)) : (r_uq 1).wp Tryd.prog (Exit.then N Q) a w := by
  have HN := Lib.hid hN
  have HL := Lib.hid hl
  have e0 := hs.look 0 h0
  obtain ⟨f, ea, hf⟩ : ∃ f : Nat → Value, a = ⟨(List.toArray (f 0 :: f 1 :: f 2 :: f 3 :: f 4 :: f 5 :: f 6 :: f 7 :: f 8 :: f 9 :: f 10 :: f 11 :: f 12 :: f 13 :: f 14 :: f 15 :: f 16 :: f 17 :: f 18 :: f 19 :: f 20 :: f 21 :: f 22 :: f 23 :: f 24 :: f 25 :: f 26 :: f 27 :: f 28 :: f 29 :: f 30 :: f 31 :: f 32 :: f 33 :: f 34 :: f 35 :: f 36 :: f 37 :: [])), []⟩ ∧ ∀ k, slot a k = f k := letters_uq a hs.size hs.defers
  rw [hf] at e0
  rw [ea, e0]
  have HS := Lib.hid hs
  have HF := Lib.hid hf
  have E0 := Lib.hid e0
  clear hs ea hf hN hl h0 e0
  have HC := Lib.hid HC
  conv => arg 2; whnf
  go_wp2_with fail
  refine (HC.out _).mono ?_
  rintro e w' ⟨rfl, rfl⟩
  go_wp2_with fail
  refine HN.out _ ?_
  exact Sl.add (Sl.stay [0] HS.out HF.out (by kernel_rfl) rfl ⟨Eq.trans (by kernel_rfl) E0.out.symm, trivial⟩ HL.out) (by kernel_rfl)
set_option maxHeartbeats 4000000 in
theorem uq_r1f (a : Act) (w : World) (N : Act → World → Prop) (Q : Exit → Act → World → Prop) (l : List (Nat × Value)) (hs : Sl 38 a l) (hl : (l.map Prod.fst).all (fun k => [0].contains k) = true)
    (s : ByteArray) (HC : ∀ w, Calls Tryd.prog 35 #[.string s, .string ⟨#[34]⟩] w fun e w' => e = .returned (.bool false) ∧ w' = w)  (h0 : l.lookup 0 = some (.string s))
    (hN : ∀ a', Sl 38 a' ((9, .bool true) :: l) → N a' (w)) : (r_uq 1).wp Tryd.prog (Exit.then N Q) a w := by
  have HN := Lib.hid hN
  have HL := Lib.hid hl
  have e0 := hs.look 0 h0
  obtain ⟨f, ea, hf⟩ : ∃ f : Nat → Value, a = ⟨(List.toArray (f 0 :: f 1 :: f 2 :: f 3 :: f 4 :: f 5 :: f 6 :: f 7 :: f 8 :: f 9 :: f 10 :: f 11 :: f 12 :: f 13 :: f 14 :: f 15 :: f 16 :: f 17 :: f 18 :: f 19 :: f 20 :: f 21 :: f 22 :: f 23 :: f 24 :: f 25 :: f 26 :: f 27 :: f 28 :: f 29 :: f 30 :: f 31 :: f 32 :: f 33 :: f 34 :: f 35 :: f 36 :: f 37 :: [])), []⟩ ∧ ∀ k, slot a k = f k := letters_uq a hs.size hs.defers
  rw [hf] at e0
  rw [ea, e0]
  have HS := Lib.hid hs
  have HF := Lib.hid hf
  have E0 := Lib.hid e0
  clear hs ea hf hN hl h0 e0
  have HC := Lib.hid HC
  conv => arg 2; whnf
  go_wp2_with fail
  refine (HC.out _).mono ?_
  rintro e w' ⟨rfl, rfl⟩
  go_wp2_with fail
  refine HN.out _ ?_
  exact Sl.add (Sl.stay [0] HS.out HF.out (by kernel_rfl) rfl ⟨Eq.trans (by kernel_rfl) E0.out.symm, trivial⟩ HL.out) (by kernel_rfl)
set_option maxHeartbeats 4000000 in
theorem uq_r2 (a : Act) (w : World) (N : Act → World → Prop) (Q : Exit → Act → World → Prop) (l : List (Nat × Value)) (hs : Sl 38 a l) (hl : (l.map Prod.fst).all (fun k => [].contains k) = true)
     
    (hN : ∀ a', Sl 38 a' ((3, .iface 58 (.pointer (some ⟨w.heap.size, 0, none⟩))) :: ((2, .string ⟨#[]⟩) :: l)) → N a' (w.alloc (.cells #[.int .i64 11, .int .i64 0, .string ⟨#[]⟩] 26))) : (r_uq 2).wp Tryd.prog (Exit.then N Q) a w := by
  have HN := Lib.hid hN
  have HL := Lib.hid hl
  obtain ⟨f, ea, hf⟩ : ∃ f : Nat → Value, a = ⟨(List.toArray (f 0 :: f 1 :: f 2 :: f 3 :: f 4 :: f 5 :: f 6 :: f 7 :: f 8 :: f 9 :: f 10 :: f 11 :: f 12 :: f 13 :: f 14 :: f 15 :: f 16 :: f 17 :: f 18 :: f 19 :: f 20 :: f 21 :: f 22 :: f 23 :: f 24 :: f 25 :: f 26 :: f 27 :: f 28 :: f 29 :: f 30 :: f 31 :: f 32 :: f 33 :: f 34 :: f 35 :: f 36 :: f 37 :: [])), []⟩ ∧ ∀ k, slot a k = f k := letters_uq a hs.size hs.defers
  rw [ea]
  have HS := Lib.hid hs
  have HF := Lib.hid hf
  clear hs ea hf hN hl 
  have HC := Lib.hid (wrong_any 11 0 w)
  conv => arg 2; whnf
  go_wp2_with fail
  refine HC.out.mono ?_
  rintro e w' ⟨rfl, rfl⟩
  go_wp2_with fail
  refine HN.out _ ?_
  exact Sl.add (Sl.add (Sl.stay [] HS.out HF.out (by kernel_rfl) rfl trivial HL.out) (by kernel_rfl)) (by kernel_rfl)
set_option maxHeartbeats 4000000 in
theorem uq_r3 (a : Act) (w : World) (N : Act → World → Prop) (Q : Exit → Act → World → Prop) (l : List (Nat × Value)) (hs : Sl 38 a l) (hl : (l.map Prod.fst).all (fun k => [0].contains k) = true)
    (s : ByteArray) (PO : World → ByteArray → Int → Value → Prop) (HC : Calls Tryd.prog 39 #[.string s, .int .i64 0] w fun e w' => ∃ tx nx ev, e = .returned (.tuple #[.string tx, .int .i64 nx, ev]) ∧ PO w' tx nx ev ∧ Below w.heap.size w w')  (h0 : l.lookup 0 = some (.string s))
    (hN : ∀ a' w' tx nx ev, Sl 38 a' ((6, ev) :: ((5, .int .i64 nx) :: ((4, .string tx) :: l))) → PO w' tx nx ev → Below w.heap.size w w' → N a' w') : (r_uq 3).wp Tryd.prog (Exit.then N Q) a w := by
  have HN := Lib.hid hN
  have HL := Lib.hid hl
  have e0 := hs.look 0 h0
  obtain ⟨f, ea, hf⟩ : ∃ f : Nat → Value, a = ⟨(List.toArray (f 0 :: f 1 :: f 2 :: f 3 :: f 4 :: f 5 :: f 6 :: f 7 :: f 8 :: f 9 :: f 10 :: f 11 :: f 12 :: f 13 :: f 14 :: f 15 :: f 16 :: f 17 :: f 18 :: f 19 :: f 20 :: f 21 :: f 22 :: f 23 :: f 24 :: f 25 :: f 26 :: f 27 :: f 28 :: f 29 :: f 30 :: f 31 :: f 32 :: f 33 :: f 34 :: f 35 :: f 36 :: f 37 :: [])), []⟩ ∧ ∀ k, slot a k = f k := letters_uq a hs.size hs.defers
  rw [hf] at e0
  rw [ea, e0]
  have HS := Lib.hid hs
  have HF := Lib.hid hf
  have E0 := Lib.hid e0
  clear hs ea hf hN hl h0 e0
  have HC := Lib.hid HC
  conv => arg 2; whnf
  go_wp2_with fail
  refine HC.out.mono ?_
  rintro e w' ⟨tx, nx, ev, rfl, hpo, hb⟩
  go_wp2_with fail
  refine HN.out _ _ _ _ _ ?_ hpo hb
  exact Sl.add (Sl.add (Sl.add (Sl.stay [0] HS.out HF.out (by kernel_rfl) rfl ⟨Eq.trans (by kernel_rfl) E0.out.symm, trivial⟩ HL.out) (by kernel_rfl)) (by kernel_rfl)) (by kernel_rfl)
set_option maxHeartbeats 4000000 in
theorem uq_r4n (a : Act) (w : World) (N : Act → World → Prop) (Q : Exit → Act → World → Prop) (l : List (Nat × Value)) (hs : Sl 38 a l) (hl : (l.map Prod.fst).all (fun k => [0, 4, 5, 6].contains k) = true)
     (h6 : l.lookup 6 = some (.pointer none))
    (hN : ∀ a', Sl 38 a' ((18, .bool false) :: l) → N a' (w)) : (r_uq 4).wp Tryd.prog (Exit.then N Q) a w := by
  have HN := Lib.hid hN
  have HL := Lib.hid hl
  have e6 := hs.look 6 h6
  obtain ⟨f, ea, hf⟩ : ∃ f : Nat → Value, a = ⟨(List.toArray (f 0 :: f 1 :: f 2 :: f 3 :: f 4 :: f 5 :: f 6 :: f 7 :: f 8 :: f 9 :: f 10 :: f 11 :: f 12 :: f 13 :: f 14 :: f 15 :: f 16 :: f 17 :: f 18 :: f 19 :: f 20 :: f 21 :: f 22 :: f 23 :: f 24 :: f 25 :: f 26 :: f 27 :: f 28 :: f 29 :: f 30 :: f 31 :: f 32 :: f 33 :: f 34 :: f 35 :: f 36 :: f 37 :: [])), []⟩ ∧ ∀ k, slot a k = f k := letters_uq a hs.size hs.defers
  rw [hf] at e6
  rw [ea, e6]
  have HS := Lib.hid hs
  have HF := Lib.hid hf
  have E6 := Lib.hid e6
  clear hs ea hf hN hl h6 e6
  conv => arg 2; whnf
  go_wp2_with fail
  refine HN.out _ ?_
  exact Sl.add (Sl.stay [0, 4, 5, 6] HS.out HF.out (by kernel_rfl) rfl ⟨by kernel_rfl, by kernel_rfl, by kernel_rfl, Eq.trans (by kernel_rfl) E6.out.symm, trivial⟩ HL.out) (by kernel_rfl)
set_option maxHeartbeats 4000000 in
theorem uq_r4p (a : Act) (w : World) (N : Act → World → Prop) (Q : Exit → Act → World → Prop) (l : List (Nat × Value)) (hs : Sl 38 a l) (hl : (l.map Prod.fst).all (fun k => [0, 4, 5, 6].contains k) = true)
    (g : Nat)  (h6 : l.lookup 6 = some (.pointer (some ⟨g, 0, none⟩)))
    (hN : ∀ a', Sl 38 a' ((18, .bool true) :: l) → N a' (w)) : (r_uq 4).wp Tryd.prog (Exit.then N Q) a w := by
  have HN := Lib.hid hN
  have HL := Lib.hid hl
  have e6 := hs.look 6 h6
  obtain ⟨f, ea, hf⟩ : ∃ f : Nat → Value, a = ⟨(List.toArray (f 0 :: f 1 :: f 2 :: f 3 :: f 4 :: f 5 :: f 6 :: f 7 :: f 8 :: f 9 :: f 10 :: f 11 :: f 12 :: f 13 :: f 14 :: f 15 :: f 16 :: f 17 :: f 18 :: f 19 :: f 20 :: f 21 :: f 22 :: f 23 :: f 24 :: f 25 :: f 26 :: f 27 :: f 28 :: f 29 :: f 30 :: f 31 :: f 32 :: f 33 :: f 34 :: f 35 :: f 36 :: f 37 :: [])), []⟩ ∧ ∀ k, slot a k = f k := letters_uq a hs.size hs.defers
  rw [hf] at e6
  rw [ea, e6]
  have HS := Lib.hid hs
  have HF := Lib.hid hf
  have E6 := Lib.hid e6
  clear hs ea hf hN hl h6 e6
  conv => arg 2; whnf
  go_wp2_with fail
  refine HN.out _ ?_
  exact Sl.add (Sl.stay [0, 4, 5, 6] HS.out HF.out (by kernel_rfl) rfl ⟨by kernel_rfl, by kernel_rfl, by kernel_rfl, Eq.trans (by kernel_rfl) E6.out.symm, trivial⟩ HL.out) (by kernel_rfl)
set_option maxHeartbeats 4000000 in
theorem uq_r5 (a : Act) (w : World) (N : Act → World → Prop) (Q : Exit → Act → World → Prop) (l : List (Nat × Value)) (hs : Sl 38 a l) (hl : (l.map Prod.fst).all (fun k => [].contains k) = true)
    (v : Value)  (h6 : slot a 6 = v)
    (hN : ∀ a', Sl 38 a' ((3, .iface 58 v) :: ((2, .string ⟨#[]⟩) :: l)) → N a' (w)) : (r_uq 5).wp Tryd.prog (Exit.then N Q) a w := by
  have HN := Lib.hid hN
  have HL := Lib.hid hl
  have e6 := h6
  obtain ⟨f, ea, hf⟩ : ∃ f : Nat → Value, a = ⟨(List.toArray (f 0 :: f 1 :: f 2 :: f 3 :: f 4 :: f 5 :: f 6 :: f 7 :: f 8 :: f 9 :: f 10 :: f 11 :: f 12 :: f 13 :: f 14 :: f 15 :: f 16 :: f 17 :: f 18 :: f 19 :: f 20 :: f 21 :: f 22 :: f 23 :: f 24 :: f 25 :: f 26 :: f 27 :: f 28 :: f 29 :: f 30 :: f 31 :: f 32 :: f 33 :: f 34 :: f 35 :: f 36 :: f 37 :: [])), []⟩ ∧ ∀ k, slot a k = f k := letters_uq a hs.size hs.defers
  rw [hf] at e6
  rw [ea, e6]
  have HS := Lib.hid hs
  have HF := Lib.hid hf
  have E6 := Lib.hid e6
  clear hs ea hf hN hl h6 e6
  conv => arg 2; whnf
  go_wp2_with fail
  refine HN.out _ ?_
  exact Sl.add (Sl.add (Sl.stay [] HS.out HF.out (by kernel_rfl) rfl trivial HL.out) (by kernel_rfl)) (by kernel_rfl)
set_option maxHeartbeats 4000000 in
theorem uq_r6 (a : Act) (w : World) (N : Act → World → Prop) (Q : Exit → Act → World → Prop) (l : List (Nat × Value)) (hs : Sl 38 a l) (hl : (l.map Prod.fst).all (fun k => [0, 4, 5, 6].contains k) = true)
    (s : ByteArray) (n : Int) (b : Bool) (h : decide (n < (s.size : Int)) = b)  (h0 : l.lookup 0 = some (.string s)) (h5 : l.lookup 5 = some (.int .i64 n))
    (hN : ∀ a', Sl 38 a' ((23, .bool b) :: l) → N a' (w)) : (r_uq 6).wp Tryd.prog (Exit.then N Q) a w := by
  have HN := Lib.hid hN
  have HL := Lib.hid hl
  have e0 := hs.look 0 h0
  have e5 := hs.look 5 h5
  obtain ⟨f, ea, hf⟩ : ∃ f : Nat → Value, a = ⟨(List.toArray (f 0 :: f 1 :: f 2 :: f 3 :: f 4 :: f 5 :: f 6 :: f 7 :: f 8 :: f 9 :: f 10 :: f 11 :: f 12 :: f 13 :: f 14 :: f 15 :: f 16 :: f 17 :: f 18 :: f 19 :: f 20 :: f 21 :: f 22 :: f 23 :: f 24 :: f 25 :: f 26 :: f 27 :: f 28 :: f 29 :: f 30 :: f 31 :: f 32 :: f 33 :: f 34 :: f 35 :: f 36 :: f 37 :: [])), []⟩ ∧ ∀ k, slot a k = f k := letters_uq a hs.size hs.defers
  rw [hf] at e0 e5
  rw [ea, e0, e5]
  have HS := Lib.hid hs
  have HF := Lib.hid hf
  have E0 := Lib.hid e0
  have E5 := Lib.hid e5
  clear hs ea hf hN hl h0 e0 h5 e5
  have HB := Lib.hid h
  clear h
  conv => arg 2; whnf
  go_wp2_with fail
  refine HN.out _ ?_
  exact Sl.add (Sl.stay [0, 4, 5, 6] HS.out HF.out (by kernel_rfl) rfl ⟨Eq.trans (by kernel_rfl) E0.out.symm, by kernel_rfl, Eq.trans (by kernel_rfl) E5.out.symm, by kernel_rfl, trivial⟩ HL.out) (Eq.trans (b := .bool (decide (n < (s.size : Int)))) (by kernel_rfl) (by rw [HB.out]))
set_option maxHeartbeats 4000000 in
theorem uq_r7 (a : Act) (w : World) (N : Act → World → Prop) (Q : Exit → Act → World → Prop) (l : List (Nat × Value)) (hs : Sl 38 a l) (hl : (l.map Prod.fst).all (fun k => [].contains k) = true)
    (n : Int)  (h5 : slot a 5 = .int .i64 n)
    (hN : ∀ a', Sl 38 a' ((3, .iface 58 (.pointer (some ⟨w.heap.size, 0, none⟩))) :: ((2, .string ⟨#[]⟩) :: l)) → N a' (w.alloc (.cells #[.int .i64 11, .int .i64 n, .string ⟨#[]⟩] 26))) : (r_uq 7).wp Tryd.prog (Exit.then N Q) a w := by
  have HN := Lib.hid hN
  have HL := Lib.hid hl
  have e5 := h5
  obtain ⟨f, ea, hf⟩ : ∃ f : Nat → Value, a = ⟨(List.toArray (f 0 :: f 1 :: f 2 :: f 3 :: f 4 :: f 5 :: f 6 :: f 7 :: f 8 :: f 9 :: f 10 :: f 11 :: f 12 :: f 13 :: f 14 :: f 15 :: f 16 :: f 17 :: f 18 :: f 19 :: f 20 :: f 21 :: f 22 :: f 23 :: f 24 :: f 25 :: f 26 :: f 27 :: f 28 :: f 29 :: f 30 :: f 31 :: f 32 :: f 33 :: f 34 :: f 35 :: f 36 :: f 37 :: [])), []⟩ ∧ ∀ k, slot a k = f k := letters_uq a hs.size hs.defers
  rw [hf] at e5
  rw [ea, e5]
  have HS := Lib.hid hs
  have HF := Lib.hid hf
  have E5 := Lib.hid e5
  clear hs ea hf hN hl h5 e5
  have HC := Lib.hid (wrong_any 11 n w)
  conv => arg 2; whnf
  go_wp2_with fail
  refine HC.out.mono ?_
  rintro e w' ⟨rfl, rfl⟩
  go_wp2_with fail
  refine HN.out _ ?_
  exact Sl.add (Sl.add (Sl.stay [] HS.out HF.out (by kernel_rfl) rfl trivial HL.out) (by kernel_rfl)) (by kernel_rfl)
set_option maxHeartbeats 4000000 in
theorem uq_r8 (a : Act) (w : World) (N : Act → World → Prop) (Q : Exit → Act → World → Prop) (l : List (Nat × Value)) (hs : Sl 38 a l) (hl : (l.map Prod.fst).all (fun k => [0, 4, 5, 6].contains k) = true)
    (t : ByteArray) (b : Bool) (h : decide ((65536 : Int) < (t.size : Int)) = b)  (h4 : l.lookup 4 = some (.string t))
    (hN : ∀ a', Sl 38 a' ((31, .bool b) :: l) → N a' (w)) : (r_uq 8).wp Tryd.prog (Exit.then N Q) a w := by
  have HN := Lib.hid hN
  have HL := Lib.hid hl
  have e4 := hs.look 4 h4
  obtain ⟨f, ea, hf⟩ : ∃ f : Nat → Value, a = ⟨(List.toArray (f 0 :: f 1 :: f 2 :: f 3 :: f 4 :: f 5 :: f 6 :: f 7 :: f 8 :: f 9 :: f 10 :: f 11 :: f 12 :: f 13 :: f 14 :: f 15 :: f 16 :: f 17 :: f 18 :: f 19 :: f 20 :: f 21 :: f 22 :: f 23 :: f 24 :: f 25 :: f 26 :: f 27 :: f 28 :: f 29 :: f 30 :: f 31 :: f 32 :: f 33 :: f 34 :: f 35 :: f 36 :: f 37 :: [])), []⟩ ∧ ∀ k, slot a k = f k := letters_uq a hs.size hs.defers
  rw [hf] at e4
  rw [ea, e4]
  have HS := Lib.hid hs
  have HF := Lib.hid hf
  have E4 := Lib.hid e4
  clear hs ea hf hN hl h4 e4
  have HB := Lib.hid h
  clear h
  conv => arg 2; whnf
  go_wp2_with fail
  refine HN.out _ ?_
  exact Sl.add (Sl.stay [0, 4, 5, 6] HS.out HF.out (by kernel_rfl) rfl ⟨by kernel_rfl, Eq.trans (by kernel_rfl) E4.out.symm, by kernel_rfl, by kernel_rfl, trivial⟩ HL.out) (Eq.trans (b := .bool (decide ((65536 : Int) < (t.size : Int)))) (by kernel_rfl) (by rw [HB.out]))
set_option maxHeartbeats 4000000 in
theorem uq_r9 (a : Act) (w : World) (N : Act → World → Prop) (Q : Exit → Act → World → Prop) (l : List (Nat × Value)) (hs : Sl 38 a l) (hl : (l.map Prod.fst).all (fun k => [].contains k) = true)
     
    (hN : ∀ a', Sl 38 a' ((3, .iface 58 (.pointer (some ⟨w.heap.size, 0, none⟩))) :: ((2, .string ⟨#[]⟩) :: l)) → N a' (w.alloc (.cells #[.int .i64 13, .int .i64 0, .string ⟨#[]⟩] 26))) : (r_uq 9).wp Tryd.prog (Exit.then N Q) a w := by
  have HN := Lib.hid hN
  have HL := Lib.hid hl
  obtain ⟨f, ea, hf⟩ : ∃ f : Nat → Value, a = ⟨(List.toArray (f 0 :: f 1 :: f 2 :: f 3 :: f 4 :: f 5 :: f 6 :: f 7 :: f 8 :: f 9 :: f 10 :: f 11 :: f 12 :: f 13 :: f 14 :: f 15 :: f 16 :: f 17 :: f 18 :: f 19 :: f 20 :: f 21 :: f 22 :: f 23 :: f 24 :: f 25 :: f 26 :: f 27 :: f 28 :: f 29 :: f 30 :: f 31 :: f 32 :: f 33 :: f 34 :: f 35 :: f 36 :: f 37 :: [])), []⟩ ∧ ∀ k, slot a k = f k := letters_uq a hs.size hs.defers
  rw [ea]
  have HS := Lib.hid hs
  have HF := Lib.hid hf
  clear hs ea hf hN hl 
  have HC := Lib.hid (wrong_any 13 0 w)
  conv => arg 2; whnf
  go_wp2_with fail
  refine HC.out.mono ?_
  rintro e w' ⟨rfl, rfl⟩
  go_wp2_with fail
  refine HN.out _ ?_
  exact Sl.add (Sl.add (Sl.stay [] HS.out HF.out (by kernel_rfl) rfl trivial HL.out) (by kernel_rfl)) (by kernel_rfl)
set_option maxHeartbeats 4000000 in
theorem uq_r10 (a : Act) (w : World) (N : Act → World → Prop) (Q : Exit → Act → World → Prop) (l : List (Nat × Value)) (hs : Sl 38 a l) (hl : (l.map Prod.fst).all (fun k => [].contains k) = true)
    (v : Value)  (h4 : slot a 4 = v)
    (hN : ∀ a', Sl 38 a' ((3, .nilIface) :: ((2, v) :: l)) → N a' (w)) : (r_uq 10).wp Tryd.prog (Exit.then N Q) a w := by
  have HN := Lib.hid hN
  have HL := Lib.hid hl
  have e4 := h4
  obtain ⟨f, ea, hf⟩ : ∃ f : Nat → Value, a = ⟨(List.toArray (f 0 :: f 1 :: f 2 :: f 3 :: f 4 :: f 5 :: f 6 :: f 7 :: f 8 :: f 9 :: f 10 :: f 11 :: f 12 :: f 13 :: f 14 :: f 15 :: f 16 :: f 17 :: f 18 :: f 19 :: f 20 :: f 21 :: f 22 :: f 23 :: f 24 :: f 25 :: f 26 :: f 27 :: f 28 :: f 29 :: f 30 :: f 31 :: f 32 :: f 33 :: f 34 :: f 35 :: f 36 :: f 37 :: [])), []⟩ ∧ ∀ k, slot a k = f k := letters_uq a hs.size hs.defers
  rw [hf] at e4
  rw [ea, e4]
  have HS := Lib.hid hs
  have HF := Lib.hid hf
  have E4 := Lib.hid e4
  clear hs ea hf hN hl h4 e4
  conv => arg 2; whnf
  go_wp2_with fail
  refine HN.out _ ?_
  exact Sl.add (Sl.add (Sl.stay [] HS.out HF.out (by kernel_rfl) rfl trivial HL.out) (by kernel_rfl)) (by kernel_rfl)
end Go.Proofs.YtpggcmlddmckcaaDoor
