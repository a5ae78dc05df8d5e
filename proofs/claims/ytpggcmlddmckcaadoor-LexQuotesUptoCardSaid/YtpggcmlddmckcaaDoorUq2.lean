/-
  The regions of package lex's Unquote, one by one. Contract of Unquote in package lex. Written by an AI agent.
-/
import Derived.Test.YtpggcmlddmckcaaDoorSc3
namespace Go.Proofs.YtpggcmlddmckcaaDoor
open Go.RowKit Go.Sort
set_option maxRecDepth 100000
theorem letters_uq (a : Act) (h1 : a.tmps.size = 38) (h2 : a.defers = []) : ∃ f : Nat → Value, a = ⟨(List.toArray (f 0 :: f 1 :: f 2 :: f 3 :: f 4 :: f 5 :: f 6 :: f 7 :: f 8 :: f 9 :: f 10 :: f 11 :: f 12 :: f 13 :: f 14 :: f 15 :: f 16 :: f 17 :: f 18 :: f 19 :: f 20 :: f 21 :: f 22 :: f 23 :: f 24 :: f 25 :: f 26 :: f 27 :: f 28 :: f 29 :: f 30 :: f 31 :: f 32 :: f 33 :: f 34 :: f 35 :: f 36 :: f 37 :: [])), []⟩ ∧ ∀ k, slot a k = f k :=
  ⟨slot a, (spread a 38 h1 h2).trans (by kernel_rfl), fun _ => rfl⟩
noncomputable def r_uq (n : Nat) : Code := ((Tryd.f18.body.bind (findR n)).getD .skip)
set_option maxHeartbeats 4000000 in
theorem uq_r0 (a : Act) (w : World) (N : Act → World → Prop) (Q : Exit → Act → World → Prop) (l : List (Nat × Value)) (hs : Sl 38 a l) (hl : (l.map Prod.fst).all (fun k => [0].contains k) = true)
     
    (hN : ∀ a', Sl 38 a' ((3, .nilIface) :: ((2, .string ⟨#[]⟩) :: l)) → N a' (w)) : (r_uq 0).wp Tryd.prog (Exit.then N Q) a w := by
  have HN := Lib.hid hN
  have HL := Lib.hid hl
  obtain ⟨f, ea, hf⟩ : ∃ f : Nat → Value, a = ⟨(List.toArray (f 0 :: f 1 :: f 2 :: f 3 :: f 4 :: f 5 :: f 6 :: f 7 :: f 8 :: f 9 :: f 10 :: f 11 :: f 12 :: f 13 :: f 14 :: f 15 :: f 16 :: f 17 :: f 18 :: f 19 :: f 20 :: f 21 :: f 22 :: f 23 :: f 24 :: f 25 :: f 26 :: f 27 :: f 28 :: f 29 :: f 30 :: f 31 :: f 32 :: f 33 :: f 34 :: f 35 :: f 36 :: f 37 :: [])), []⟩ ∧ ∀ k, slot a k = f k := letters_uq a hs.size hs.defers
  rw [ea]
  have HS := Lib.hid hs
  have HF := Lib.hid hf
  clear hs ea hf hN hl 
  conv => arg 2; whnf
  go_wp2_with fail
  refine HN.out _ ?_
  exact Sl.add (Sl.add (Sl.stay [0] HS.out HF.out (by kernel_rfl) rfl ⟨by kernel_rfl, trivial⟩ HL.out) (by kernel_rfl)) (by kernel_rfl)
set_option maxHeartbeats 4000000 in
theorem uq_r1t (a : Act) (w : World) (N : Act → World → Prop) (Q : Exit → Act → World → Prop) (l : List (Nat × Value)) (hs : Sl 38 a l) (hl : (l.map Prod.fst).all (fun k => [0].contains k) = true)
    (s : ByteArray) (HC : ∀ w, Calls Tryd.prog 35 #[.string s, .string ⟨#[34]⟩] w fun e w' => e = .returned (.bool true) ∧ w' = w)  (h0 : l.lookup 0 = some (.string s))
    (hN : ∀ a', Sl 38 a' ((9, .bool false) :: l) → N a' (w)) : (r_uq 1).wp Tryd.prog (Exit.then N Q) a w := by
  have HN := Lib.hid hN
  have HL := Lib.hid hl
  have e0 := hs.look 0 h0
  obtain ⟨f, ea, hf⟩ : ∃ f : Nat → Value, a = ⟨(List.toArray (f 0 :: f 1 :: f 2 :: f 3 :: f 4 :: f 5 :: f 6 :: f 7 :: f 8 :: f 9 :: f 10 :: f 11 :: f 12 :: f 13 :: f 14 :: f 15 :: f 16 :: f 17 :: f 18 :: f 19 :: f 20 :: f 21 :: f 22 :: f 23 :: f 24 :: f 25 :: f 26 :: f 27 :: f 28 :: f 29 :: f 30 :: f 31 :: f 32 :: f 33 :: f 34 :: f 35 :: f 36 :: f 37 :: [])), []⟩ ∧ ∀ k, slot a k = f k := letters_uq a hs.size hs.defers
  rw [hf] at e0
  rw [ea, e0]
  have HS := Lib.hid hs
  have HF := Lib.hid hf
  have E0 := Lib.hid e0
  clear hs ea hf hN hl h0 e0
  have HC := Lib.hid HC
  conv => arg 2; whnf
  go_wp2_with fail
  refine (HC.out _).mono ?_
  rintro e w' ⟨rfl, rfl⟩
  go_wp2_with fail
  refine HN.out _ ?_
  exact Sl.add (Sl.stay [0] HS.out HF.out (by kernel_rfl) rfl ⟨Eq.trans (by kernel_rfl) E0.out.symm, trivial⟩ HL.out) (by kernel_rfl)
set_option maxHeartbeats 4000000 in
theorem uq_r1f (a : Act) (w : World) (N : Act → World → Prop) (Q : Exit → Act → World → Prop) (l : List (Nat × Value)) (hs : Sl 38 a l) (hl : (l.map Prod.fst).all (fun k => [0].contains k) = true)
    (s : ByteArray) (HC : ∀ w, Calls Tryd.prog 35 #[.string s, .string ⟨#[34]⟩] w fun e w' => e = .returned (.bool false) ∧ w' = w)  (h0 : l.lookup 0 = some (.string s))
    (hN : ∀ a', Sl 38 a' ((9, .bool true) :: l) → N a' (w)) : (r_uq 1).wp Tryd.prog (Exit.then N Q) a w := by
  have HN := Lib.hid hN
  have HL := Lib.hid hl
  have e0 := hs.look 0 h0
  obtain ⟨f, ea, hf⟩ : ∃ f : Nat → Value, a = ⟨(List.toArray (f 0 :: f 1 :: f 2 :: f 3 :: f 4 :: f 5 :: f 6 :: f 7 :: f 8 :: f 9 :: f 10 :: f 11 :: f 12 :: f 13 :: f 14 :: f 15 :: f 16 :: f 17 :: f 18 :: f 19 :: f 20 :: f 21 :: f 22 :: f 23 :: f 24 :: f 25 :: f 26 :: f 27 :: f 28 :: f 29 :: f 30 :: f 31 :: f 32 :: f 33 :: f 34 :: f 35 :: f 36 :: f 37 :: [])), []⟩ ∧ ∀ k, slot a k = f k := letters_uq a hs.size hs.defers
  rw [hf] at e0
  rw [ea, e0]
  have HS := Lib.hid hs
  have HF := Lib.hid hf
  have E0 := Lib.hid e0
  clear hs ea hf hN hl h0 e0
  have HC := Lib.hid HC
  conv => arg 2; whnf
  go_wp2_with fail
  refine (HC.out _).mono ?_
  rintro e w' ⟨rfl, rfl⟩
  go_wp2_with fail
  refine HN.out _ ?_
  exact Sl.add (Sl.stay [0] HS.out HF.out (by kernel_rfl) rfl ⟨Eq.trans (by kernel_rfl) E0.out.symm, trivial⟩ HL.out) (by kernel_rfl)
set_option maxHeartbeats 4000000 in
theorem uq_r2 (a : Act) (w : World) (N : Act → World → Prop) (Q : Exit → Act → World → Prop) (l : List (Nat × Value)) (hs : Sl 38 a l) (hl : (l.map Prod.fst).all (fun k => [].contains k) = true)
     
    (hN : ∀ a', Sl 38 a' ((3, .iface 58 (.pointer (some ⟨w.heap.size, 0, none⟩))) :: ((2, .string ⟨#[]⟩) :: l)) → N a' (w.alloc (.cells #[.int .i64 11, .int .i64 0, .string ⟨#[]⟩] 26))) : (r_uq 2).wp Tryd.prog (Exit.then N Q) a w := by
  have HN := Lib.hid hN
  have HL := Lib.hid hl
  obtain ⟨f, ea, hf⟩ : ∃ f : Nat → Value, a = ⟨(List.toArray (f 0 :: f 1 :: f 2 :: f 3 :: f 4 :: f 5 :: f 6 :: f 7 :: f 8 :: f 9 :: f 10 :: f 11 :: f 12 :: f 13 :: f 14 :: f 15 :: f 16 :: f 17 :: f 18 :: f 19 :: f 20 :: f 21 :: f 22 :: f 23 :: f 24 :: f 25 :: f 26 :: f 27 :: f 28 :: f 29 :: f 30 :: f 31 :: f 32 :: f 33 :: f 34 :: f 35 :: f 36 :: f 37 :: [])), []⟩ ∧ ∀ k, slot a k = f k := letters_uq a hs.size hs.defers
  rw [ea]
  have HS := Lib.hid hs
  have HF := Lib.hid hf
  clear hs ea hf hN hl 
  have HC := Lib.hid (wrong_any 11 0 w)
  conv => arg 2; whnf
  go_wp2_with fail
  refine HC.out.mono ?_
  rintro e w' ⟨rfl, rfl⟩
  go_wp2_with fail
  refine HN.out _ ?_
  exact Sl.add (Sl.add (Sl.stay [] HS.out HF.out (by kernel_rfl) rfl trivial HL.out) (by kernel_rfl)) (by kernel_rfl)
set_option maxHeartbeats 4000000 in
theorem uq_r3 (a : Act) (w : World) (N : Act → World → Prop) (Q : Exit → Act → World → Prop) (l : List (Nat × Value)) (hs : Sl 38 a l) (hl : (l.map Prod.fst).all (fun k => [0].contains k) = true)
    (s : ByteArray) (PO : World → ByteArray → Int → Value → Prop) (HC : Calls Tryd.prog 39 #[.string s, .int .i64 0] w fun e w' => ∃ tx nx ev, e = .returned (.tuple #[.string tx, .int .i64 nx, ev]) ∧ PO w' tx nx ev ∧ Below w.heap.size w w')  (h0 : l.lookup 0 = some (.string s))
    (hN : ∀ a' w' tx nx ev, Sl 38 a' ((6, ev) :: ((5, .int .i64 nx) :: ((4, .string tx) :: l))) → PO w' tx nx ev → Below w.heap.size w w' → N a' w') : (r_uq 3).wp Tryd.prog (Exit.then N Q) a w := by
  have HN := Lib.hid hN
  have HL := Lib.hid hl
  have e0 := hs.look 0 h0
  obtain ⟨f, ea, hf⟩ : ∃ f : Nat → Value, a = ⟨(List.toArray (f 0 :: f 1 :: f 2 :: f 3 :: f 4 :: f 5 :: f 6 :: f 7 :: f 8 :: f 9 :: f 10 :: f 11 :: f 12 :: f 13 :: f 14 :: f 15 :: f 16 :: f 17 :: f 18 :: f 19 :: f 20 :: f 21 :: f 22 :: f 23 :: f 24 :: f 25 :: f 26 :: f 27 :: f 28 :: f 29 :: f 30 :: f 31 :: f 32 :: f 33 :: f 34 :: f 35 :: f 36 :: f 37 :: [])), []⟩ ∧ ∀ k, slot a k = f k := letters_uq a hs.size hs.defers
  rw [hf] at e0
  rw [ea, e0]
  have HS := Lib.hid hs
  have HF := Lib.hid hf
  have E0 := Lib.hid e0
  clear hs ea hf hN hl h0 e0
  have HC := Lib.hid HC
  conv => arg 2; whnf
  go_wp2_with fail
  refine HC.out.mono ?_
  rintro e w' ⟨tx, nx, ev, rfl, hpo, hb⟩
  go_wp2_with fail
  refine HN.out _ _ _ _ _ ?_ hpo hb
  exact Sl.add (Sl.add (Sl.add (Sl.stay [0] HS.out HF.out (by kernel_rfl) rfl ⟨Eq.trans (by kernel_rfl) E0.out.symm, trivial⟩ HL.out) (by kernel_rfl)) (by kernel_rfl)) (by kernel_rfl)
set_option maxHeartbeats 4000000 in
theorem uq_r4n (a : Act) (w : World) (N : Act → World → Prop) (Q : Exit → Act → World → Prop) (l : List (Nat × Value)) (hs : Sl 38 a l) (hl : (l.map Prod.fst).all (fun k => [0, 4, 5, 6].contains k) = true)
     (h6 : l.lookup 6 = some (.pointer none))
    (hN : ∀ a', Sl 38 a' ((18, .bool false) :: l) → N a' (w)) : (r_uq 4).wp Tryd.prog (Exit.then N Q) a w := by
  have HN := Lib.hid hN
  have HL := Lib.hid hl
  have e6 := hs.look 6 h6
  obtain ⟨f, ea, hf⟩ : ∃ f : Nat → Value, a = ⟨(List.toArray (f 0 :: f 1 :: f 2 :: f 3 :: f 4 :: f 5 :: f 6 :: f 7 :: f 8 :: f 9 :: f 10 :: f 11 :: f 12 :: f 13 :: f 14 :: f 15 :: f 16 :: f 17 :: f 18 :: f 19 :: f 20 :: f 21 :: f 22 :: f 23 :: f 24 :: f 25 :: f 26 :: f 27 :: f 28 :: f 29 :: f 30 :: f 31 :: f 32 :: f 33 :: f 34 :: f 35 :: f 36 :: f 37 :: [])), []⟩ ∧ ∀ k, slot a k = f k := letters_uq a hs.size hs.defers
  rw [hf] at e6
  rw [ea, e6]
  have HS := Lib.hid hs
  have HF := Lib.hid hf
  have E6 := Lib.hid e6
  clear hs ea hf hN hl h6 e6
  conv => arg 2; whnf
  go_wp2_with fail
  refine HN.out _ ?_
  exact Sl.add (Sl.stay [0, 4, 5, 6] HS.out HF.out (by kernel_rfl) rfl ⟨by kernel_rfl, by kernel_rfl, by kernel_rfl, Eq.trans (by kernel_rfl) E6.out.symm, trivial⟩ HL.out) (by kernel_rfl)
set_option maxHeartbeats 4000000 in
theorem uq_r4p (a : Act) (w : World) (N : Act → World → Prop) (Q : Exit → Act → World → Prop) (l : List (Nat × Value)) (hs : Sl 38 a l) (hl : (l.map Prod.fst).all (fun k => [0, 4, 5, 6].contains k) = true)
    (g : Nat)  (h6 : l.lookup 6 = some (.pointer (some ⟨g, 0, none⟩)))
    (hN : ∀ a', Sl 38 a' ((18, .bool true) :: l) → N a' (w)) : (r_uq 4).wp Tryd.prog (Exit.then N Q) a w := by
  have HN := Lib.hid hN
  have HL := Lib.hid hl
  have e6 := hs.look 6 h6
  obtain ⟨f, ea, hf⟩ : ∃ f : Nat → Value, a = ⟨(List.toArray (f 0 :: f 1 :: f 2 :: f 3 :: f 4 :: f 5 :: f 6 :: f 7 :: f 8 :: f 9 :: f 10 :: f 11 :: f 12 :: f 13 :: f 14 :: f 15 :: f 16 :: f 17 :: f 18 :: f 19 :: f 20 :: f 21 :: f 22 :: f 23 :: f 24 :: f 25 :: f 26 :: f 27 :: f 28 :: f 29 :: f 30 :: f 31 :: f 32 :: f 33 :: f 34 :: f 35 :: f 36 :: f 37 :: [])), []⟩ ∧ ∀ k, slot a k = f k := letters_uq a hs.size hs.defers
  rw [hf] at e6
  rw [ea, e6]
  have HS := Lib.hid hs
  have HF := Lib.hid hf
  have E6 := Lib.hid e6
  clear hs ea hf hN hl h6 e6
  conv => arg 2; whnf
  go_wp2_with fail
  refine HN.out _ ?_
  exact Sl.add (Sl.stay [0, 4, 5, 6] HS.out HF.out (by kernel_rfl) rfl ⟨by kernel_rfl, by kernel_rfl, by kernel_rfl, Eq.trans (by kernel_rfl) E6.out.symm, trivial⟩ HL.out) (by kernel_rfl)
set_option maxHeartbeats 4000000 in
theorem uq_r5 (a : Act) (w : World) (N : Act → World → Prop) (Q : Exit → Act → World → Prop) (l : List (Nat × Value)) (hs : Sl 38 a l) (hl : (l.map Prod.fst).all (fun k => [].contains k) = true)
    (v : Value)  (h6 : slot a 6 = v)
    (hN : ∀ a', Sl 38 a' ((3, .iface 58 v) :: ((2, .string ⟨#[]⟩) :: l)) → N a' (w)) : (r_uq 5).wp Tryd.prog (Exit.then N Q) a w := by
  have HN := Lib.hid hN
  have HL := Lib.hid hl
  have e6 := h6
  obtain ⟨f, ea, hf⟩ : ∃ f : Nat → Value, a = ⟨(List.toArray (f 0 :: f 1 :: f 2 :: f 3 :: f 4 :: f 5 :: f 6 :: f 7 :: f 8 :: f 9 :: f 10 :: f 11 :: f 12 :: f 13 :: f 14 :: f 15 :: f 16 :: f 17 :: f 18 :: f 19 :: f 20 :: f 21 :: f 22 :: f 23 :: f 24 :: f 25 :: f 26 :: f 27 :: f 28 :: f 29 :: f 30 :: f 31 :: f 32 :: f 33 :: f 34 :: f 35 :: f 36 :: f 37 :: [])), []⟩ ∧ ∀ k, slot a k = f k := letters_uq a hs.size hs.defers
  rw [hf] at e6
  rw [ea, e6]
  have HS := Lib.hid hs
  have HF := Lib.hid hf
  have E6 := Lib.hid e6
  clear hs ea hf hN hl h6 e6
  conv => arg 2; whnf
  go_wp2_with fail
  refine HN.out _ ?_
  exact Sl.add (Sl.add (Sl.stay [] HS.out HF.out (by kernel_rfl) rfl trivial HL.out) (by kernel_rfl)) (by kernel_rfl)
set_option maxHeartbeats 4000000 in
theorem uq_r6 (a : Act) (w : World) (N : Act → World → Prop) (Q : Exit → Act → World → Prop) (l : List (Nat × Value)) (hs : Sl 38 a l) (hl : (l.map Prod.fst).all (fun k => [0, 4, 5, 6].contains k) = true)
    (s : ByteArray) (n : Int) (b : Bool) (h : decide (n < (s.size : Int)) = b)  (h0 : l.lookup 0 = some (.string s)) (h5 : l.lookup 5 = some (.int .i64 n))
    (hN : ∀ a', Sl 38 a' ((23, .bool b) :: l) → N a' (w)) : (r_uq 6).wp Tryd.prog (Exit.then N Q) a w := by
  have HN := Lib.hid hN
  have HL := Lib.hid hl
  have e0 := hs.look 0 h0
  have e5 := hs.look 5 h5
  obtain ⟨f, ea, hf⟩ : ∃ f : Nat → Value, a = ⟨(List.toArray (f 0 :: f 1 :: f 2 :: f 3 :: f 4 :: f 5 :: f 6 :: f 7 :: f 8 :: f 9 :: f 10 :: f 11 :: f 12 :: f 13 :: f 14 :: f 15 :: f 16 :: f 17 :: f 18 :: f 19 :: f 20 :: f 21 :: f 22 :: f 23 :: f 24 :: f 25 :: f 26 :: f 27 :: f 28 :: f 29 :: f 30 :: f 31 :: f 32 :: f 33 :: f 34 :: f 35 :: f 36 :: f 37 :: [])), []⟩ ∧ ∀ k, slot a k = f k := letters_uq a hs.size hs.defers
  rw [hf] at e0 e5
  rw [ea, e0, e5]
  have HS := Lib.hid hs
  have HF := Lib.hid hf
  have E0 := Lib.hid e0
  have E5 := Lib.hid e5
  clear hs ea hf hN hl h0 e0 h5 e5
  have HB := Lib.hid h
  clear h
  conv => arg 2; whnf
  go_wp2_with fail
  refine HN.out _ ?_
  exact Sl.add (Sl.stay [0, 4, 5, 6] HS.out HF.out (by kernel_rfl) rfl ⟨Eq.trans (by kernel_rfl) E0.out.symm, by kernel_rfl, Eq.trans (by kernel_rfl) E5.out.symm, by kernel_rfl, trivial⟩ HL.out) (Eq.trans (b := .bool (decide (n < (s.size : Int)))) (by kernel_rfl) (by rw [HB.out]))
set_option maxHeartbeats 4000000 in
theorem uq_r7 (a : Act) (w : World) (N : Act → World → Prop) (Q : Exit → Act → World → Prop) (l : List (Nat × Value)) (hs : Sl 38 a l) (hl : (l.map Prod.fst).all (fun k => [].contains k) = true)
    (n : Int)  (h5 : slot a 5 = .int .i64 n)
    (hN : ∀ a', Sl 38 a' ((3, .iface 58 (.pointer (some ⟨w.heap.size, 0, none⟩))) :: ((2, .string ⟨#[]⟩) :: l)) → N a' (w.alloc (.cells #[.int .i64 11, .int .i64 n, .string ⟨#[]⟩] 26))) : (r_uq 7).wp Tryd.prog (Exit.then N Q) a w := by
  have HN := Lib.hid hN
  have HL := Lib.hid hl
  have e5 := h5
  obtain ⟨f, ea, hf⟩ : ∃ f : Nat → Value, a = ⟨(List.toArray (f 0 :: f 1 :: f 2 :: f 3 :: f 4 :: f 5 :: f 6 :: f 7 :: f 8 :: f 9 :: f 10 :: f 11 :: f 12 :: f 13 :: f 14 :: f 15 :: f 16 :: f 17 :: f 18 :: f 19 :: f 20 :: f 21 :: f 22 :: f 23 :: f 24 :: f 25 :: f 26 :: f 27 :: f 28 :: f 29 :: f 30 :: f 31 :: f 32 :: f 33 :: f 34 :: f 35 :: f 36 :: f 37 :: [])), []⟩ ∧ ∀ k, slot a k = f k := letters_uq a hs.size hs.defers
  rw [hf] at e5
  rw [ea, e5]
  have HS := Lib.hid hs
  have HF := Lib.hid hf
  have E5 := Lib.hid e5
  clear hs ea hf hN hl h5 e5
  have HC := Lib.hid (wrong_any 11 n w)
  conv => arg 2; whnf
  go_wp2_with fail
  refine HC.out.mono ?_
  rintro e w' ⟨rfl, rfl⟩
  go_wp2_with fail
  refine HN.out _ ?_
  exact Sl.add (Sl.add (Sl.stay [] HS.out HF.out (by kernel_rfl) rfl trivial HL.out) (by kernel_rfl)) (by kernel_rfl)
set_option maxHeartbeats 4000000 in
theorem uq_r8 (a : Act) (w : World) (N : Act → World → Prop) (Q : Exit → Act → World → Prop) (l : List (Nat × Value)) (hs : Sl 38 a l) (hl : (l.map Prod.fst).all (fun k => [0, 4, 5, 6].contains k) = true)
    (t : ByteArray) (b : Bool) (h : decide ((65536 : Int) < (t.size : Int)) = b)  (h4 : l.lookup 4 = some (.string t))
    (hN : ∀ a', Sl 38 a' ((31, .bool b) :: l) → N a' (w)) : (r_uq 8).wp Tryd.prog (Exit.then N Q) a w := by
  have HN := Lib.hid hN
  have HL := Lib.hid hl
  have e4 := hs.look 4 h4
  obtain ⟨f, ea, hf⟩ : ∃ f : Nat → Value, a = ⟨(List.toArray (f 0 :: f 1 :: f 2 :: f 3 :: f 4 :: f 5 :: f 6 :: f 7 :: f 8 :: f 9 :: f 10 :: f 11 :: f 12 :: f 13 :: f 14 :: f 15 :: f 16 :: f 17 :: f 18 :: f 19 :: f 20 :: f 21 :: f 22 :: f 23 :: f 24 :: f 25 :: f 26 :: f 27 :: f 28 :: f 29 :: f 30 :: f 31 :: f 32 :: f 33 :: f 34 :: f 35 :: f 36 :: f 37 :: [])), []⟩ ∧ ∀ k, slot a k = f k := letters_uq a hs.size hs.defers
  rw [hf] at e4
  rw [ea, e4]
  have HS := Lib.hid hs
  have HF := Lib.hid hf
  have E4 := Lib.hid e4
  clear hs ea hf hN hl h4 e4
  have HB := Lib.hid h
  clear h
  conv => arg 2; whnf
  go_wp2_with fail
  refine HN.out _ ?_
  exact Sl.add (Sl.stay [0, 4, 5, 6] HS.out HF.out (by kernel_rfl) rfl ⟨by kernel_rfl, Eq.trans (by kernel_rfl) E4.out.symm, by kernel_rfl, by kernel_rfl, trivial⟩ HL.out) (Eq.trans (b := .bool (decide ((65536 : Int) < (t.size : Int)))) (by kernel_rfl) (by rw [HB.out]))
set_option maxHeartbeats 4000000 in
theorem uq_r9 (a : Act) (w : World) (N : Act → World → Prop) (Q : Exit → Act → World → Prop) (l : List (Nat × Value)) (hs : Sl 38 a l) (hl : (l.map Prod.fst).all (fun k => [].contains k) = true)
     
    (hN : ∀ a', Sl 38 a' ((3, .iface 58 (.pointer (some ⟨w.heap.size, 0, none⟩))) :: ((2, .string ⟨#[]⟩) :: l)) → N a' (w.alloc (.cells #[.int .i64 13, .int .i64 0, .string ⟨#[]⟩] 26))) : (r_uq 9).wp Tryd.prog (Exit.then N Q) a w := by
  have HN := Lib.hid hN
  have HL := Lib.hid hl
  obtain ⟨f, ea, hf⟩ : ∃ f : Nat → Value, a = ⟨(List.toArray (f 0 :: f 1 :: f 2 :: f 3 :: f 4 :: f 5 :: f 6 :: f 7 :: f 8 :: f 9 :: f 10 :: f 11 :: f 12 :: f 13 :: f 14 :: f 15 :: f 16 :: f 17 :: f 18 :: f 19 :: f 20 :: f 21 :: f 22 :: f 23 :: f 24 :: f 25 :: f 26 :: f 27 :: f 28 :: f 29 :: f 30 :: f 31 :: f 32 :: f 33 :: f 34 :: f 35 :: f 36 :: f 37 :: [])), []⟩ ∧ ∀ k, slot a k = f k := letters_uq a hs.size hs.defers
  rw [ea]
  have HS := Lib.hid hs
  have HF := Lib.hid hf
  clear hs ea hf hN hl 
  have HC := Lib.hid (wrong_any 13 0 w)
  conv => arg 2; whnf
  go_wp2_with fail
  refine HC.out.mono ?_
  rintro e w' ⟨rfl, rfl⟩
  go_wp2_with fail
  refine HN.out _ ?_
  exact Sl.add (Sl.add (Sl.stay [] HS.out HF.out (by kernel_rfl) rfl trivial HL.out) (by kernel_rfl)) (by kernel_rfl)
set_option maxHeartbeats 4000000 in
theorem uq_r10 (a : Act) (w : World) (N : Act → World → Prop) (Q : Exit → Act → World → Prop) (l : List (Nat × Value)) (hs : Sl 38 a l) (hl : (l.map Prod.fst).all (fun k => [].contains k) = true)
    (v : Value)  (h4 : slot a 4 = v)
    (hN : ∀ a', Sl 38 a' ((3, .nilIface) :: ((2, v) :: l)) → N a' (w)) : (r_uq 10).wp Tryd.prog (Exit.then N Q) a w := by
  have HN := Lib.hid hN
  have HL := Lib.hid hl
  have e4 := h4
  obtain ⟨f, ea, hf⟩ : ∃ f : Nat → Value, a = ⟨(List.toArray (f 0 :: f 1 :: f 2 :: f 3 :: f 4 :: f 5 :: f 6 :: f 7 :: f 8 :: f 9 :: f 10 :: f 11 :: f 12 :: f 13 :: f 14 :: f 15 :: f 16 :: f 17 :: f 18 :: f 19 :: f 20 :: f 21 :: f 22 :: f 23 :: f 24 :: f 25 :: f 26 :: f 27 :: f 28 :: f 29 :: f 30 :: f 31 :: f 32 :: f 33 :: f 34 :: f 35 :: f 36 :: f 37 :: [])), []⟩ ∧ ∀ k, slot a k = f k := letters_uq a hs.size hs.defers
  rw [hf] at e4
  rw [ea, e4]
  have HS := Lib.hid hs
  have HF := Lib.hid hf
  have E4 := Lib.hid e4
  clear hs ea hf hN hl h4 e4
  conv => arg 2; whnf
  go_wp2_with fail
  refine HN.out _ ?_
  exact Sl.add (Sl.add (Sl.stay [] HS.out HF.out (by kernel_rfl) rfl trivial HL.out) (by kernel_rfl)) (by kernel_rfl)
end Go.Proofs.YtpggcmlddmckcaaDoor

namespace Go.Proofs.YtpggcmlddmckcaaDoor
open Go.RowKit Go.Sort
set_option maxRecDepth 100000

noncomputable def uqBody : Code := .seq (r_uq 0) (.seq (.seq (r_uq 1) (.cond (.tmp 9) (.seq (r_uq 2) .ret) .skip)) (.seq (r_uq 3) (.seq (.block 0 (.seq (r_uq 4) (.cond (.tmp 18) (.seq (r_uq 5) .ret) (.seq (r_uq 6) (.cond (.tmp 23) (.seq (r_uq 7) .ret) (.seq (r_uq 8) (.cond (.tmp 31) (.seq (r_uq 9) .ret) .skip))))))) (.seq (r_uq 10) .ret))))
theorem uq_body : Tryd.f18.body = some uqBody := by kernel_rfl

/-- What Unquote hands back. -/
def UnqR (r : Ans (List UInt8)) (w : World) (e : Ending) (w' : World) : Prop := Below w.heap.size w w' ∧ match r with
  | .ok x => e = .returned (.tuple #[.string (bs x), .nilIface])
  | .bad b => ∃ g, e = .returned (.tuple #[.string ⟨#[]⟩, .iface 58 (.pointer (some ⟨g, 0, none⟩))]) ∧ WrongB w w' g b
theorem UnqR.ok {x : List UInt8} {w w' : World} {e : Ending} (hb : Below w.heap.size w w') (he : e = .returned (.tuple #[.string (bs x), .nilIface])) : UnqR (.ok x) w e w' := ⟨hb, he⟩
theorem UnqR.bad {b : Bad} {w w' : World} {e : Ending} (hb : Below w.heap.size w w') (g : Nat) (he : e = .returned (.tuple #[.string ⟨#[]⟩, .iface 58 (.pointer (some ⟨g, 0, none⟩))])) (hg : WrongB w w' g b) : UnqR (.bad b) w e w' := ⟨hb, g, he, hg⟩
theorem uq_done {R : Ans (List UInt8)} {w w3 : World} {a4 : Act} {v2 v3 : Value} (hd : a4.defers = []) (h2 : slot a4 2 = v2) (h3 : slot a4 3 = v3) (hr : UnqR R w (.returned (.tuple #[v2, v3])) w3) :
    bodyPost Tryd.prog Tryd.f18 (UnqR R w) .ret a4 w3 :=
  bodyPost_ret (v := .tuple #[v2, v3]) (by
    unfold slot at h2 h3
    simp only [Array.getD_eq_getD_getElem?] at h2 h3
    simp [results, Tryd.results18, h2, h3]) hd hr
/-- What is known of what a literal's reader hands back. -/
def LitP (r : Ans (List UInt8 × Nat)) (w w' : World) (tx : ByteArray) (nx : Int) (ev : Value) : Prop := match r with
  | .ok x => tx = bs x.1 ∧ nx = (x.2 : Int) ∧ ev = .pointer none
  | .bad b => ∃ g, ev = .pointer (some ⟨g, 0, none⟩) ∧ WrongB w w' g b
theorem LitR.open {r : Ans (List UInt8 × Nat)} {w w' : World} {e : Ending} (h : LitR r w e w') : ∃ tx nx ev, e = .returned (.tuple #[.string tx, .int .i64 nx, ev]) ∧ LitP r w w' tx nx ev ∧ Below w.heap.size w w' := by
  obtain ⟨hb, h⟩ := h
  cases r with
  | ok x => exact ⟨_, _, _, h, ⟨rfl, rfl, rfl⟩, hb⟩
  | bad b =>
    obtain ⟨g, he, hg⟩ := h
    exact ⟨_, _, _, he, ⟨g, rfl, hg⟩, hb⟩
theorem quote_pre (l : List UInt8) : Lib.hasPrefix l [34] = decide (l.head? = some 34) := by
  unfold Lib.hasPrefix
  cases l with
  | nil => simp [List.isPrefixOf]
  | cons d r =>
    rw [Bool.eq_iff_iff]
    simp [List.isPrefixOf]
    exact eq_comm

theorem unq_bad {r : List UInt8} {b : Bad} (h : litL 0 (0 + 1) [] r = .bad b) : unquote (34 :: r) = .bad b := by
  rw [unquote, if_pos rfl, h]
theorem unq_more {r : List UInt8} {x : List UInt8 × Nat} (h : litL 0 (0 + 1) [] r = .ok x) (hn : x.2 < r.length + 1) : unquote (34 :: r) = .bad ⟨11, x.2⟩ := by
  rw [unquote, if_pos rfl, h]
  exact if_pos hn
theorem unq_long {r : List UInt8} {x : List UInt8 × Nat} (h : litL 0 (0 + 1) [] r = .ok x) (hn : ¬ x.2 < r.length + 1) (hm : 65536 < x.1.length) : unquote (34 :: r) = .bad ⟨13, 0⟩ := by
  rw [unquote, if_pos rfl, h]
  exact (if_neg hn).trans (if_pos hm)
theorem unq_ok {r : List UInt8} {x : List UInt8 × Nat} (h : litL 0 (0 + 1) [] r = .ok x) (hn : ¬ x.2 < r.length + 1) (hm : ¬ 65536 < x.1.length) : unquote (34 :: r) = .ok x.1 := by
  rw [unquote, if_pos rfl, h]
  exact (if_neg hn).trans (if_neg hm)
set_option maxHeartbeats 400000 in
theorem unquote_wide (s : ByteArray) (hs : s.size ≤ 9223372036854775000) (hbd : s.size ≤ 140737488355320 ∨ ∃ r x, s.data.toList = 34 :: r ∧ litL 0 (0 + 1) [] r = .ok x ∧ x.2 ≤ 140737488355320) (w : World) :
    Calls Tryd.prog 18 #[.string s] w (UnqR (unquote s.data.toList) w) := by
  have hsl : s.data.toList.length = s.size := by simp
  refine calls_of_wp Tryd.func18 uq_body ?_
  have h0 : Sl 38 { tmps := #[Value.string s] ++ Array.replicate (Tryd.f18.ntmps - #[Value.string s].size) undef, defers := [] } [(0, .string s)] :=
    ⟨by simp [Tryd.ntmps18], rfl, fun p hp => by
      simp only [List.mem_cons, List.not_mem_nil, or_false] at hp
      subst hp
      simp [slot]⟩
  generalize { tmps := #[Value.string s] ++ Array.replicate (Tryd.f18.ntmps - #[Value.string s].size) undef, defers := [] : Act } = b0 at h0 ⊢
  unfold uqBody
  refine wp_seq (uq_r0 b0 w _ _ _ h0 rfl fun a1 h1 => ?_)
  have h1 := h1.none.add (h1.look 0 rfl)
  have hP := fun w => Tryd.strings_HasPrefix s ⟨#[34]⟩ w
  rw [show (⟨#[34]⟩ : ByteArray).data.toList = [34] from rfl, quote_pre] at hP
  by_cases h34 : s.data.toList.head? = some 34
  · rw [decide_eq_true h34] at hP
    refine wp_seq (wp_seq (uq_r1t a1 w _ _ _ h1 rfl s hP rfl fun a2 h2 => ?_))
    refine wpc_off (h2.look 9 rfl) ?_
    obtain ⟨r, hr⟩ : ∃ r, s.data.toList = 34 :: r := by
      cases hd : s.data.toList with
      | nil => rw [hd] at h34; cases h34
      | cons c r =>
        rw [hd] at h34
        injection h34 with h34
        exact ⟨r, by rw [h34]⟩
    have hrl : r.length + 1 = s.size := by rw [← hsl, hr]; rfl
    have hlit := literal_wide s (by omega) 0 (by omega) (by
      rcases hbd with hbd | ⟨r', x, e1, e2, hbd⟩
      · exact .inl (by omega)
      · rw [e1]
        exact .inr ⟨x, e2, by omega⟩) w
    rw [hr, show (34 :: r).drop (0 + 1) = r from rfl] at hlit
    rw [hr]
    show Code.wp _ (Code.seq (r_uq 3) _) _ a2 w
    refine wp_seq (uq_r3 a2 w _ _ _ h2.tl rfl s _ (hlit.mono fun e w' h => h.open) rfl fun a3 w3 tx nx ev h3 hpo hb3 => ?_)
    refine wp_seq (wp_block ?_)
    cases hl : litL 0 (0 + 1) [] r with
    | bad b =>
      rw [hl] at hpo
      obtain ⟨g, rfl, hw⟩ := hpo
      refine wp_seq (uq_r4p a3 w3 _ _ _ h3 rfl g rfl fun a4 h4 => ?_)
      refine wp_cond_true (h4.look 18 rfl) ?_
      refine wp_seq (uq_r5 a4 w3 _ _ _ h4.none rfl _ (h4.look 6 rfl) fun a5 h5 => wp_ret ?_)
      exact uq_done h5.defers (h5.look 2 rfl) (h5.look 3 rfl) (by rw [unq_bad hl]; exact UnqR.bad hb3 g rfl hw)
    | ok x =>
      rw [hl] at hpo
      obtain ⟨rfl, rfl, rfl⟩ := hpo
      refine wp_seq (uq_r4n a3 w3 _ _ _ h3 rfl rfl fun a4 h4 => ?_)
      refine wp_cond_false (h4.look 18 rfl) ?_
      have h4 := h4.tl
      show Code.wp _ _ _ a4 w3
      by_cases hn : x.2 < r.length + 1
      · refine wp_seq (uq_r6 a4 w3 _ _ _ h4 rfl s _ true (decide_eq_true (by omega)) rfl rfl fun a5 h5 => ?_)
        refine wp_cond_true (h5.look 23 rfl) ?_
        refine wp_seq (uq_r7 a5 w3 _ _ _ h5.none rfl _ (h5.look 5 rfl) fun a6 h6 => wp_ret ?_)
        refine uq_done h6.defers (h6.look 2 rfl) (h6.look 3 rfl) ?_
        rw [unq_more hl hn]
        exact UnqR.bad (bl_alloc hb3 _) _ rfl ⟨hb3.size, Blk.new _ _ _⟩
      refine wp_seq (uq_r6 a4 w3 _ _ _ h4 rfl s _ false (decide_eq_false (by omega)) rfl rfl fun a5 h5 => ?_)
      refine wp_cond_false (h5.look 23 rfl) ?_
      by_cases hm : 65536 < x.1.length
      · refine wp_seq (uq_r8 a5 w3 _ _ _ h5.tl rfl _ true (decide_eq_true (by rw [bs_size]; omega)) rfl fun a6 h6 => ?_)
        refine wp_cond_true (h6.look 31 rfl) ?_
        refine wp_seq (uq_r9 a6 w3 _ _ _ h6.none rfl fun a7 h7 => wp_ret ?_)
        refine uq_done h7.defers (h7.look 2 rfl) (h7.look 3 rfl) ?_
        rw [unq_long hl hn hm]
        exact UnqR.bad (bl_alloc hb3 _) _ rfl ⟨hb3.size, Blk.new _ _ _⟩
      refine wp_seq (uq_r8 a5 w3 _ _ _ h5.tl rfl _ false (decide_eq_false (by rw [bs_size]; omega)) rfl fun a6 h6 => ?_)
      refine wpc_off (h6.look 31 rfl) ?_
      show Code.wp _ (Code.seq (r_uq 10) .ret) _ a6 w3
      refine wp_seq (uq_r10 a6 w3 _ _ _ h6.none rfl _ (h6.look 4 rfl) fun a7 h7 => wp_ret ?_)
      refine uq_done h7.defers (h7.look 2 rfl) (h7.look 3 rfl) ?_
      rw [unq_ok hl hn hm]
      exact UnqR.ok hb3 rfl
  · rw [decide_eq_false h34] at hP
    refine wp_seq (wp_seq (uq_r1f a1 w _ _ _ h1 rfl s hP rfl fun a2 h2 => ?_))
    refine wp_cond_true (h2.look 9 rfl) ?_
    refine wp_seq (uq_r2 a2 w _ _ _ h2.none rfl fun a3 h3 => wp_ret ?_)
    refine uq_done h3.defers (h3.look 2 rfl) (h3.look 3 rfl) ?_
    have he : unquote s.data.toList = .bad ⟨11, 0⟩ := by
      cases hd : s.data.toList with
      | nil => rfl
      | cons c r =>
        rw [hd] at h34
        rw [unquote, if_neg (fun h => h34 (by rw [h]; rfl))]
    rw [he]
    exact UnqR.bad (bl_alloc (Below.refl _ _) _) _ rfl ⟨Nat.le_refl _, Blk.new _ _ _⟩
theorem unquote_any (s : ByteArray) (hs : s.size ≤ 140737488355320) (w : World) :
    Calls Tryd.prog 18 #[.string s] w (UnqR (unquote s.data.toList) w) := unquote_wide s (by omega) (.inl hs) w
end Go.Proofs.YtpggcmlddmckcaaDoor
