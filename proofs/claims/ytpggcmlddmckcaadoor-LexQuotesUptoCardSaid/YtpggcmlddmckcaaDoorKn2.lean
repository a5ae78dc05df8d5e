/-
  The regions of the laws' known, one by one. Contract of the laws' known. Written by an AI agent.
-/
import Derived.Test.YtpggcmlddmckcaaDoorCo
namespace Go.Proofs.YtpggcmlddmckcaaDoor
open Go.RowKit Go.Sort
set_option maxRecDepth 100000
theorem letters_kn (a : Act) (h1 : a.tmps.size = 91) (h2 : a.defers = []) : ∃ f : Nat → Value, a = ⟨(List.toArray (f 0 :: f 1 :: f 2 :: f 3 :: f 4 :: f 5 :: f 6 :: f 7 :: f 8 :: f 9 :: f 10 :: f 11 :: f 12 :: f 13 :: f 14 :: f 15 :: f 16 :: f 17 :: f 18 :: f 19 :: f 20 :: f 21 :: f 22 :: f 23 :: f 24 :: f 25 :: f 26 :: f 27 :: f 28 :: f 29 :: f 30 :: f 31 :: f 32 :: f 33 :: f 34 :: f 35 :: f 36 :: f 37 :: f 38 :: f 39 :: f 40 :: f 41 :: f 42 :: f 43 :: f 44 :: f 45 :: f 46 :: f 47 :: f 48 :: f 49 :: f 50 :: f 51 :: f 52 :: f 53 :: f 54 :: f 55 :: f 56 :: f 57 :: f 58 :: f 59 :: f 60 :: f 61 :: f 62 :: f 63 :: f 64 :: f 65 :: f 66 :: f 67 :: f 68 :: f 69 :: f 70 :: f 71 :: f 72 :: f 73 :: f 74 :: f 75 :: f 76 :: f 77 :: f 78 :: f 79 :: f 80 :: f 81 :: f 82 :: f 83 :: f 84 :: f 85 :: f 86 :: f 87 :: f 88 :: f 89 :: f 90 :: [])), []⟩ ∧ ∀ k, slot a k = f k :=
  ⟨slot a, (spread a 91 h1 h2).trans (by kernel_rfl), fun _ => rfl⟩
noncomputable def r_kn (n : Nat) : Code := ((Tryd.f10.body.bind (findR n)).getD .skip)
set_option maxHeartbeats 4000000 in
theorem kn_r0 (a : Act) (w : World) (N : Act → World → Prop) (Q : Exit → Act → World → Prop) (l : List (Nat × Value)) (hs : Sl 91 a l) (hl : (l.map Prod.fst).all (fun k => [].contains k) = true)
     
    (hN : ∀ a', Sl 91 a' ((0, .bool false) :: l) → N a' (w)) : (r_kn 0).wp Tryd.prog (Exit.then N Q) a w := by
  have HN := Lib.hid hN
  have HL := Lib.hid hl
  obtain ⟨f, ea, hf⟩ : ∃ f : Nat → Value, a = ⟨(List.toArray (f 0 :: f 1 :: f 2 :: f 3 :: f 4 :: f 5 :: f 6 :: f 7 :: f 8 :: f 9 :: f 10 :: f 11 :: f 12 :: f 13 :: f 14 :: f 15 :: f 16 :: f 17 :: f 18 :: f 19 :: f 20 :: f 21 :: f 22 :: f 23 :: f 24 :: f 25 :: f 26 :: f 27 :: f 28 :: f 29 :: f 30 :: f 31 :: f 32 :: f 33 :: f 34 :: f 35 :: f 36 :: f 37 :: f 38 :: f 39 :: f 40 :: f 41 :: f 42 :: f 43 :: f 44 :: f 45 :: f 46 :: f 47 :: f 48 :: f 49 :: f 50 :: f 51 :: f 52 :: f 53 :: f 54 :: f 55 :: f 56 :: f 57 :: f 58 :: f 59 :: f 60 :: f 61 :: f 62 :: f 63 :: f 64 :: f 65 :: f 66 :: f 67 :: f 68 :: f 69 :: f 70 :: f 71 :: f 72 :: f 73 :: f 74 :: f 75 :: f 76 :: f 77 :: f 78 :: f 79 :: f 80 :: f 81 :: f 82 :: f 83 :: f 84 :: f 85 :: f 86 :: f 87 :: f 88 :: f 89 :: f 90 :: [])), []⟩ ∧ ∀ k, slot a k = f k := letters_kn a hs.size hs.defers
  rw [ea]
  have HS := Lib.hid hs
  have HF := Lib.hid hf
  clear hs ea hf hN hl 
  conv => arg 2; whnf
  go_wp2_with fail
  refine HN.out _ ?_
  exact Sl.add (Sl.stay [] HS.out HF.out (by kernel_rfl) rfl trivial HL.out) (by kernel_rfl)
set_option maxHeartbeats 4000000 in
theorem kn_r1 (a : Act) (w : World) (N : Act → World → Prop) (Q : Exit → Act → World → Prop) (l : List (Nat × Value)) (hs : Sl 91 a l) (hl : (l.map Prod.fst).all (fun k => [].contains k) = true)
    (PO : World → Value → Prop) (HC : Calls Tryd.prog 12 #[.string ⟨#[120, 32, 58, 61, 32, 49, 46, 53]⟩] w fun e w' => ∃ v, e = .returned (.tuple #[v, .nilIface]) ∧ PO w' v ∧ Below w.heap.size w w')  
    (hN : ∀ a' w' v, Sl 91 a' ((2, .nilIface) :: ((1, v) :: l)) → PO w' v → Below w.heap.size w w' → N a' w') : (r_kn 1).wp Tryd.prog (Exit.then N Q) a w := by
  have HN := Lib.hid hN
  have HL := Lib.hid hl
  obtain ⟨f, ea, hf⟩ : ∃ f : Nat → Value, a = ⟨(List.toArray (f 0 :: f 1 :: f 2 :: f 3 :: f 4 :: f 5 :: f 6 :: f 7 :: f 8 :: f 9 :: f 10 :: f 11 :: f 12 :: f 13 :: f 14 :: f 15 :: f 16 :: f 17 :: f 18 :: f 19 :: f 20 :: f 21 :: f 22 :: f 23 :: f 24 :: f 25 :: f 26 :: f 27 :: f 28 :: f 29 :: f 30 :: f 31 :: f 32 :: f 33 :: f 34 :: f 35 :: f 36 :: f 37 :: f 38 :: f 39 :: f 40 :: f 41 :: f 42 :: f 43 :: f 44 :: f 45 :: f 46 :: f 47 :: f 48 :: f 49 :: f 50 :: f 51 :: f 52 :: f 53 :: f 54 :: f 55 :: f 56 :: f 57 :: f 58 :: f 59 :: f 60 :: f 61 :: f 62 :: f 63 :: f 64 :: f 65 :: f 66 :: f 67 :: f 68 :: f 69 :: f 70 :: f 71 :: f 72 :: f 73 :: f 74 :: f 75 :: f 76 :: f 77 :: f 78 :: f 79 :: f 80 :: f 81 :: f 82 :: f 83 :: f 84 :: f 85 :: f 86 :: f 87 :: f 88 :: f 89 :: f 90 :: [])), []⟩ ∧ ∀ k, slot a k = f k := letters_kn a hs.size hs.defers
  rw [ea]
  have HS := Lib.hid hs
  have HF := Lib.hid hf
  clear hs ea hf hN hl 
  have HC := Lib.hid HC
  conv => arg 2; whnf
  go_wp2_with fail
  refine HC.out.mono ?_
  rintro e w' ⟨v, rfl, hp, hb⟩
  go_wp2_with fail
  refine HN.out _ _ _ ?_ hp hb
  exact Sl.add (Sl.add (Sl.stay [] HS.out HF.out (by kernel_rfl) rfl trivial HL.out) (by kernel_rfl)) (by kernel_rfl)
set_option maxHeartbeats 4000000 in
theorem kn_r2 (a : Act) (w : World) (N : Act → World → Prop) (Q : Exit → Act → World → Prop) (l : List (Nat × Value)) (hs : Sl 91 a l) (hl : (l.map Prod.fst).all (fun k => [1, 2].contains k) = true)
    (PO : World → Nat → Prop) (HC : Calls Tryd.prog 12 #[.string ⟨#[35]⟩] w fun e w' => ∃ g, e = .returned (.tuple #[.slice none 0 0, .iface 58 (.pointer (some ⟨g, 0, none⟩))]) ∧ PO w' g ∧ Below w.heap.size w w')  
    (hN : ∀ a' w' g, Sl 91 a' ((4, .iface 58 (.pointer (some ⟨g, 0, none⟩))) :: ((3, .slice none 0 0) :: l)) → PO w' g → Below w.heap.size w w' → N a' w') : (r_kn 2).wp Tryd.prog (Exit.then N Q) a w := by
  have HN := Lib.hid hN
  have HL := Lib.hid hl
  obtain ⟨f, ea, hf⟩ : ∃ f : Nat → Value, a = ⟨(List.toArray (f 0 :: f 1 :: f 2 :: f 3 :: f 4 :: f 5 :: f 6 :: f 7 :: f 8 :: f 9 :: f 10 :: f 11 :: f 12 :: f 13 :: f 14 :: f 15 :: f 16 :: f 17 :: f 18 :: f 19 :: f 20 :: f 21 :: f 22 :: f 23 :: f 24 :: f 25 :: f 26 :: f 27 :: f 28 :: f 29 :: f 30 :: f 31 :: f 32 :: f 33 :: f 34 :: f 35 :: f 36 :: f 37 :: f 38 :: f 39 :: f 40 :: f 41 :: f 42 :: f 43 :: f 44 :: f 45 :: f 46 :: f 47 :: f 48 :: f 49 :: f 50 :: f 51 :: f 52 :: f 53 :: f 54 :: f 55 :: f 56 :: f 57 :: f 58 :: f 59 :: f 60 :: f 61 :: f 62 :: f 63 :: f 64 :: f 65 :: f 66 :: f 67 :: f 68 :: f 69 :: f 70 :: f 71 :: f 72 :: f 73 :: f 74 :: f 75 :: f 76 :: f 77 :: f 78 :: f 79 :: f 80 :: f 81 :: f 82 :: f 83 :: f 84 :: f 85 :: f 86 :: f 87 :: f 88 :: f 89 :: f 90 :: [])), []⟩ ∧ ∀ k, slot a k = f k := letters_kn a hs.size hs.defers
  rw [ea]
  have HS := Lib.hid hs
  have HF := Lib.hid hf
  clear hs ea hf hN hl 
  have HC := Lib.hid HC
  conv => arg 2; whnf
  go_wp2_with fail
  refine HC.out.mono ?_
  rintro e w' ⟨g, rfl, hp, hb⟩
  go_wp2_with fail
  refine HN.out _ _ _ ?_ hp hb
  exact Sl.add (Sl.add (Sl.stay [1, 2] HS.out HF.out (by kernel_rfl) rfl ⟨by kernel_rfl, by kernel_rfl, trivial⟩ HL.out) (by kernel_rfl)) (by kernel_rfl)
set_option maxHeartbeats 4000000 in
theorem kn_r3 (a : Act) (w : World) (N : Act → World → Prop) (Q : Exit → Act → World → Prop) (l : List (Nat × Value)) (hs : Sl 91 a l) (hl : (l.map Prod.fst).all (fun k => [1, 2].contains k) = true)
    (g : Nat) (HC : Calls Tryd.prog 27 #[.iface 58 (.pointer (some ⟨g, 0, none⟩))] w fun e w' => e = .returned (.tuple #[.int .i64 10, .int .i64 0]) ∧ Below w.heap.size w w')  (h4 : slot a 4 = .iface 58 (.pointer (some ⟨g, 0, none⟩)))
    (hN : ∀ a' w', Sl 91 a' ((6, .int .i64 0) :: ((5, .int .i64 10) :: l)) → Below w.heap.size w w' → N a' w') : (r_kn 3).wp Tryd.prog (Exit.then N Q) a w := by
  have HN := Lib.hid hN
  have HL := Lib.hid hl
  have e4 := h4
  obtain ⟨f, ea, hf⟩ : ∃ f : Nat → Value, a = ⟨(List.toArray (f 0 :: f 1 :: f 2 :: f 3 :: f 4 :: f 5 :: f 6 :: f 7 :: f 8 :: f 9 :: f 10 :: f 11 :: f 12 :: f 13 :: f 14 :: f 15 :: f 16 :: f 17 :: f 18 :: f 19 :: f 20 :: f 21 :: f 22 :: f 23 :: f 24 :: f 25 :: f 26 :: f 27 :: f 28 :: f 29 :: f 30 :: f 31 :: f 32 :: f 33 :: f 34 :: f 35 :: f 36 :: f 37 :: f 38 :: f 39 :: f 40 :: f 41 :: f 42 :: f 43 :: f 44 :: f 45 :: f 46 :: f 47 :: f 48 :: f 49 :: f 50 :: f 51 :: f 52 :: f 53 :: f 54 :: f 55 :: f 56 :: f 57 :: f 58 :: f 59 :: f 60 :: f 61 :: f 62 :: f 63 :: f 64 :: f 65 :: f 66 :: f 67 :: f 68 :: f 69 :: f 70 :: f 71 :: f 72 :: f 73 :: f 74 :: f 75 :: f 76 :: f 77 :: f 78 :: f 79 :: f 80 :: f 81 :: f 82 :: f 83 :: f 84 :: f 85 :: f 86 :: f 87 :: f 88 :: f 89 :: f 90 :: [])), []⟩ ∧ ∀ k, slot a k = f k := letters_kn a hs.size hs.defers
  rw [hf] at e4
  rw [ea, e4]
  have HS := Lib.hid hs
  have HF := Lib.hid hf
  have E4 := Lib.hid e4
  clear hs ea hf hN hl h4 e4
  have HC := Lib.hid HC
  conv => arg 2; whnf
  go_wp2_with fail
  refine HC.out.mono ?_
  rintro e w' ⟨rfl, hb⟩
  go_wp2_with fail
  refine HN.out _ _ ?_ hb
  exact Sl.add (Sl.add (Sl.stay [1, 2] HS.out HF.out (by kernel_rfl) rfl ⟨by kernel_rfl, by kernel_rfl, trivial⟩ HL.out) (by kernel_rfl)) (by kernel_rfl)
set_option maxHeartbeats 4000000 in
theorem kn_r4 (a : Act) (w : World) (N : Act → World → Prop) (Q : Exit → Act → World → Prop) (l : List (Nat × Value)) (hs : Sl 91 a l) (hl : (l.map Prod.fst).all (fun k => [1, 2, 5, 6].contains k) = true)
    (HC : Calls Tryd.prog 18 #[.string ⟨#[34, 97, 34]⟩] w fun e w' => e = .returned (.tuple #[.string ⟨#[97]⟩, .nilIface]) ∧ Below w.heap.size w w')  
    (hN : ∀ a' w', Sl 91 a' ((8, .nilIface) :: ((7, .string ⟨#[97]⟩) :: l)) → Below w.heap.size w w' → N a' w') : (r_kn 4).wp Tryd.prog (Exit.then N Q) a w := by
  have HN := Lib.hid hN
  have HL := Lib.hid hl
  obtain ⟨f, ea, hf⟩ : ∃ f : Nat → Value, a = ⟨(List.toArray (f 0 :: f 1 :: f 2 :: f 3 :: f 4 :: f 5 :: f 6 :: f 7 :: f 8 :: f 9 :: f 10 :: f 11 :: f 12 :: f 13 :: f 14 :: f 15 :: f 16 :: f 17 :: f 18 :: f 19 :: f 20 :: f 21 :: f 22 :: f 23 :: f 24 :: f 25 :: f 26 :: f 27 :: f 28 :: f 29 :: f 30 :: f 31 :: f 32 :: f 33 :: f 34 :: f 35 :: f 36 :: f 37 :: f 38 :: f 39 :: f 40 :: f 41 :: f 42 :: f 43 :: f 44 :: f 45 :: f 46 :: f 47 :: f 48 :: f 49 :: f 50 :: f 51 :: f 52 :: f 53 :: f 54 :: f 55 :: f 56 :: f 57 :: f 58 :: f 59 :: f 60 :: f 61 :: f 62 :: f 63 :: f 64 :: f 65 :: f 66 :: f 67 :: f 68 :: f 69 :: f 70 :: f 71 :: f 72 :: f 73 :: f 74 :: f 75 :: f 76 :: f 77 :: f 78 :: f 79 :: f 80 :: f 81 :: f 82 :: f 83 :: f 84 :: f 85 :: f 86 :: f 87 :: f 88 :: f 89 :: f 90 :: [])), []⟩ ∧ ∀ k, slot a k = f k := letters_kn a hs.size hs.defers
  rw [ea]
  have HS := Lib.hid hs
  have HF := Lib.hid hf
  clear hs ea hf hN hl 
  have HC := Lib.hid HC
  conv => arg 2; whnf
  go_wp2_with fail
  refine HC.out.mono ?_
  rintro e w' ⟨rfl, hb⟩
  go_wp2_with fail
  refine HN.out _ _ ?_ hb
  exact Sl.add (Sl.add (Sl.stay [1, 2, 5, 6] HS.out HF.out (by kernel_rfl) rfl ⟨by kernel_rfl, by kernel_rfl, by kernel_rfl, by kernel_rfl, trivial⟩ HL.out) (by kernel_rfl)) (by kernel_rfl)
set_option maxHeartbeats 4000000 in
theorem kn_r5 (a : Act) (w : World) (N : Act → World → Prop) (Q : Exit → Act → World → Prop) (l : List (Nat × Value)) (hs : Sl 91 a l) (hl : (l.map Prod.fst).all (fun k => [1, 2, 5, 6, 7, 8].contains k) = true)
    (HC : Calls Tryd.prog 23 #[.string ⟨#[105, 110]⟩] w fun e w' => e = .returned (.bool true) ∧ Below w.heap.size w w')  
    (hN : ∀ a' w', Sl 91 a' ((9, .bool true) :: l) → Below w.heap.size w w' → N a' w') : (r_kn 5).wp Tryd.prog (Exit.then N Q) a w := by
  have HN := Lib.hid hN
  have HL := Lib.hid hl
  obtain ⟨f, ea, hf⟩ : ∃ f : Nat → Value, a = ⟨(List.toArray (f 0 :: f 1 :: f 2 :: f 3 :: f 4 :: f 5 :: f 6 :: f 7 :: f 8 :: f 9 :: f 10 :: f 11 :: f 12 :: f 13 :: f 14 :: f 15 :: f 16 :: f 17 :: f 18 :: f 19 :: f 20 :: f 21 :: f 22 :: f 23 :: f 24 :: f 25 :: f 26 :: f 27 :: f 28 :: f 29 :: f 30 :: f 31 :: f 32 :: f 33 :: f 34 :: f 35 :: f 36 :: f 37 :: f 38 :: f 39 :: f 40 :: f 41 :: f 42 :: f 43 :: f 44 :: f 45 :: f 46 :: f 47 :: f 48 :: f 49 :: f 50 :: f 51 :: f 52 :: f 53 :: f 54 :: f 55 :: f 56 :: f 57 :: f 58 :: f 59 :: f 60 :: f 61 :: f 62 :: f 63 :: f 64 :: f 65 :: f 66 :: f 67 :: f 68 :: f 69 :: f 70 :: f 71 :: f 72 :: f 73 :: f 74 :: f 75 :: f 76 :: f 77 :: f 78 :: f 79 :: f 80 :: f 81 :: f 82 :: f 83 :: f 84 :: f 85 :: f 86 :: f 87 :: f 88 :: f 89 :: f 90 :: [])), []⟩ ∧ ∀ k, slot a k = f k := letters_kn a hs.size hs.defers
  rw [ea]
  have HS := Lib.hid hs
  have HF := Lib.hid hf
  clear hs ea hf hN hl 
  have HC := Lib.hid HC
  conv => arg 2; whnf
  go_wp2_with fail
  refine HC.out.mono ?_
  rintro e w' ⟨rfl, hb⟩
  go_wp2_with fail
  refine HN.out _ _ ?_ hb
  exact Sl.add (Sl.stay [1, 2, 5, 6, 7, 8] HS.out HF.out (by kernel_rfl) rfl ⟨by kernel_rfl, by kernel_rfl, by kernel_rfl, by kernel_rfl, by kernel_rfl, by kernel_rfl, trivial⟩ HL.out) (by kernel_rfl)
set_option maxHeartbeats 4000000 in
theorem kn_r6 (a : Act) (w : World) (N : Act → World → Prop) (Q : Exit → Act → World → Prop) (l : List (Nat × Value)) (hs : Sl 91 a l) (hl : (l.map Prod.fst).all (fun k => [1, 2, 5, 6, 7, 8, 9].contains k) = true)
    (HC : Calls Tryd.prog 24 #[.string ⟨#[97, 49]⟩] w fun e w' => e = .returned (.bool true) ∧ Below w.heap.size w w')  
    (hN : ∀ a' w', Sl 91 a' ((10, .bool true) :: l) → Below w.heap.size w w' → N a' w') : (r_kn 6).wp Tryd.prog (Exit.then N Q) a w := by
  have HN := Lib.hid hN
  have HL := Lib.hid hl
  obtain ⟨f, ea, hf⟩ : ∃ f : Nat → Value, a = ⟨(List.toArray (f 0 :: f 1 :: f 2 :: f 3 :: f 4 :: f 5 :: f 6 :: f 7 :: f 8 :: f 9 :: f 10 :: f 11 :: f 12 :: f 13 :: f 14 :: f 15 :: f 16 :: f 17 :: f 18 :: f 19 :: f 20 :: f 21 :: f 22 :: f 23 :: f 24 :: f 25 :: f 26 :: f 27 :: f 28 :: f 29 :: f 30 :: f 31 :: f 32 :: f 33 :: f 34 :: f 35 :: f 36 :: f 37 :: f 38 :: f 39 :: f 40 :: f 41 :: f 42 :: f 43 :: f 44 :: f 45 :: f 46 :: f 47 :: f 48 :: f 49 :: f 50 :: f 51 :: f 52 :: f 53 :: f 54 :: f 55 :: f 56 :: f 57 :: f 58 :: f 59 :: f 60 :: f 61 :: f 62 :: f 63 :: f 64 :: f 65 :: f 66 :: f 67 :: f 68 :: f 69 :: f 70 :: f 71 :: f 72 :: f 73 :: f 74 :: f 75 :: f 76 :: f 77 :: f 78 :: f 79 :: f 80 :: f 81 :: f 82 :: f 83 :: f 84 :: f 85 :: f 86 :: f 87 :: f 88 :: f 89 :: f 90 :: [])), []⟩ ∧ ∀ k, slot a k = f k := letters_kn a hs.size hs.defers
  rw [ea]
  have HS := Lib.hid hs
  have HF := Lib.hid hf
  clear hs ea hf hN hl 
  have HC := Lib.hid HC
  conv => arg 2; whnf
  go_wp2_with fail
  refine HC.out.mono ?_
  rintro e w' ⟨rfl, hb⟩
  go_wp2_with fail
  refine HN.out _ _ ?_ hb
  exact Sl.add (Sl.stay [1, 2, 5, 6, 7, 8, 9] HS.out HF.out (by kernel_rfl) rfl ⟨by kernel_rfl, by kernel_rfl, by kernel_rfl, by kernel_rfl, by kernel_rfl, by kernel_rfl, by kernel_rfl, trivial⟩ HL.out) (by kernel_rfl)
set_option maxHeartbeats 4000000 in
theorem kn_r7 (a : Act) (w : World) (N : Act → World → Prop) (Q : Exit → Act → World → Prop) (l : List (Nat × Value)) (hs : Sl 91 a l) (hl : (l.map Prod.fst).all (fun k => [].contains k) = true)
    (g cap : Nat) (c0 : w.cell? ⟨g, 0, none⟩ = some (.int .i64 2)) (c1 : w.cell? ⟨g, 1, none⟩ = some (.string ⟨#[120]⟩)) (c2 : w.cell? ⟨g, 2, none⟩ = some (.int .i64 0)) (c3 : w.cell? ⟨g, 3, none⟩ = some (.int .i64 7)) (c4 : w.cell? ⟨g, 4, none⟩ = some (.string ⟨#[58, 61]⟩)) (c5 : w.cell? ⟨g, 5, none⟩ = some (.int .i64 2)) (c6 : w.cell? ⟨g, 6, none⟩ = some (.int .i64 5)) (c7 : w.cell? ⟨g, 7, none⟩ = some (.string ⟨#[49, 46, 53]⟩)) (c8 : w.cell? ⟨g, 8, none⟩ = some (.int .i64 5)) (c9 : w.cell? ⟨g, 9, none⟩ = some (.int .i64 1)) (c10 : w.cell? ⟨g, 10, none⟩ = some (.string ⟨#[]⟩)) (c11 : w.cell? ⟨g, 11, none⟩ = some (.int .i64 8)) (HC : Calls Tryd.prog 19 #[.string ⟨#[97]⟩] w fun e w' => e = .returned (.string ⟨#[34, 97, 34]⟩) ∧ Below w.heap.size w w')  (h1 : slot a 1 = .slice (some ⟨g, 0, none⟩) 4 cap) (h2 : slot a 2 = .nilIface) (h5 : slot a 5 = .int .i64 10) (h6 : slot a 6 = .int .i64 0) (h7 : slot a 7 = .string ⟨#[97]⟩) (h8 : slot a 8 = .nilIface) (h9 : slot a 9 = .bool true) (h10 : slot a 10 = .bool true)
    (hN : ∀ a' w', Sl 91 a' ((0, .bool true) :: l) → Below w.heap.size w w' → N a' w') : (r_kn 7).wp Tryd.prog (Exit.then N Q) a w := by
  have HN := Lib.hid hN
  have HL := Lib.hid hl
  have e1 := h1
  have e2 := h2
  have e5 := h5
  have e6 := h6
  have e7 := h7
  have e8 := h8
  have e9 := h9
  have e10 := h10
  obtain ⟨f, ea, hf⟩ : ∃ f : Nat → Value, a = ⟨(List.toArray (f 0 :: f 1 :: f 2 :: f 3 :: f 4 :: f 5 :: f 6 :: f 7 :: f 8 :: f 9 :: f 10 :: f 11 :: f 12 :: f 13 :: f 14 :: f 15 :: f 16 :: f 17 :: f 18 :: f 19 :: f 20 :: f 21 :: f 22 :: f 23 :: f 24 :: f 25 :: f 26 :: f 27 :: f 28 :: f 29 :: f 30 :: f 31 :: f 32 :: f 33 :: f 34 :: f 35 :: f 36 :: f 37 :: f 38 :: f 39 :: f 40 :: f 41 :: f 42 :: f 43 :: f 44 :: f 45 :: f 46 :: f 47 :: f 48 :: f 49 :: f 50 :: f 51 :: f 52 :: f 53 :: f 54 :: f 55 :: f 56 :: f 57 :: f 58 :: f 59 :: f 60 :: f 61 :: f 62 :: f 63 :: f 64 :: f 65 :: f 66 :: f 67 :: f 68 :: f 69 :: f 70 :: f 71 :: f 72 :: f 73 :: f 74 :: f 75 :: f 76 :: f 77 :: f 78 :: f 79 :: f 80 :: f 81 :: f 82 :: f 83 :: f 84 :: f 85 :: f 86 :: f 87 :: f 88 :: f 89 :: f 90 :: [])), []⟩ ∧ ∀ k, slot a k = f k := letters_kn a hs.size hs.defers
  rw [hf] at e1 e2 e5 e6 e7 e8 e9 e10
  rw [ea, e1, e2, e5, e6, e7, e8, e9, e10]
  have HS := Lib.hid hs
  have HF := Lib.hid hf
  have E1 := Lib.hid e1
  have E2 := Lib.hid e2
  have E5 := Lib.hid e5
  have E6 := Lib.hid e6
  have E7 := Lib.hid e7
  have E8 := Lib.hid e8
  have E9 := Lib.hid e9
  have E10 := Lib.hid e10
  clear hs ea hf hN hl h1 e1 h2 e2 h5 e5 h6 e6 h7 e7 h8 e8 h9 e9 h10 e10
  have HC := Lib.hid HC
  have q0 : ∀ w, (binOp .eql 48 (.agg #[.int .i64 2, .string ⟨#[120]⟩, .int .i64 0]) (.agg #[.int .i64 2, .string ⟨#[120]⟩, .int .i64 0])).run Tryd.prog w = .ok (.bool true) w := fun w => (eqTok 2 0 2 0 ⟨#[120]⟩ ⟨#[120]⟩ w).trans (by simp)
  have q1 : ∀ w, (binOp .eql 48 (.agg #[.int .i64 7, .string ⟨#[58, 61]⟩, .int .i64 2]) (.agg #[.int .i64 7, .string ⟨#[58, 61]⟩, .int .i64 2])).run Tryd.prog w = .ok (.bool true) w := fun w => (eqTok 7 2 7 2 ⟨#[58, 61]⟩ ⟨#[58, 61]⟩ w).trans (by simp)
  have q2 : ∀ w, (binOp .eql 48 (.agg #[.int .i64 5, .string ⟨#[49, 46, 53]⟩, .int .i64 5]) (.agg #[.int .i64 5, .string ⟨#[49, 46, 53]⟩, .int .i64 5])).run Tryd.prog w = .ok (.bool true) w := fun w => (eqTok 5 5 5 5 ⟨#[49, 46, 53]⟩ ⟨#[49, 46, 53]⟩ w).trans (by simp)
  have q3 : ∀ w, (binOp .eql 48 (.agg #[.int .i64 1, .string ⟨#[]⟩, .int .i64 8]) (.agg #[.int .i64 1, .string ⟨#[]⟩, .int .i64 8])).run Tryd.prog w = .ok (.bool true) w := fun w => (eqTok 1 8 1 8 ⟨#[]⟩ ⟨#[]⟩ w).trans (by simp)
  conv => arg 2; whnf
  go_wp2_with fail
  refine HC.out.mono ?_
  rintro e w' ⟨rfl, hb⟩
  go_wp2_with fail
  refine HN.out _ _ ?_ hb
  exact Sl.add (Sl.stay [] HS.out HF.out (by kernel_rfl) rfl trivial HL.out) (by kernel_rfl)
end Go.Proofs.YtpggcmlddmckcaaDoor

namespace Go.Proofs.YtpggcmlddmckcaaDoor
open Go.RowKit Go.Sort
set_option maxRecDepth 100000

noncomputable def knBody : Code := .seq (r_kn 0) (.seq (r_kn 1) (.seq (r_kn 2) (.seq (r_kn 3) (.seq (r_kn 4) (.seq (r_kn 5) (.seq (r_kn 6) (.seq (r_kn 7) .ret)))))))
theorem kn_body : Tryd.f10.body = some knBody := by kernel_rfl
theorem kn_scan : scan [120, 32, 58, 61, 32, 49, 46, 53] = .ok [⟨2, [120], 0⟩, ⟨7, [58, 61], 2⟩, ⟨5, [49, 46, 53], 5⟩, ⟨1, [], 8⟩] := by kernel_rfl
theorem kn_wrong : scan [35] = .bad ⟨10, 0⟩ := by kernel_rfl
theorem kn_unq : unquote [34, 97, 34] = .ok [97] := by kernel_rfl
theorem kn_quote : quote [97] = [34, 97, 34] := by kernel_rfl
theorem kn_word : wordB [105, 110] = true := by decide
theorem kn_name : nameB [97, 49] = true := by decide

/-- The slice and the cells of tokens. -/
theorem Toks.cells {w : World} {B : Nat} {v : Value} {ts : List Tok} (h : Toks w B v ts) (hn : 0 < ts.length) : ∃ g cap, v = .slice (some ⟨g, 0, none⟩) ts.length cap ∧ B ≤ g ∧ g < w.heap.size ∧ ∀ j, j < ts.length * 3 → w.cell? ⟨g, j, none⟩ = (toksC ts)[j]? := by
  rcases h.2 with ⟨_, h0⟩ | ⟨g, cap, cur, rfl, hg, hh, hc, hm, hs, ht⟩
  · omega
  · refine ⟨g, cap, rfl, hg, (Array.getElem?_eq_some_iff.1 hh).1, fun j hj => ?_⟩
    rw [cell_of_row w g _ cur _ _ hh, ← ht, List.getElem?_take, if_pos hj, Array.getElem?_toList]

theorem known_any (w : World) (hL : LexAt w) : Calls Tryd.prog 10 #[] w fun e w' => e = .returned (.bool true) ∧ Below w.heap.size w w' := by
  refine calls_of_wp Tryd.func10 kn_body ?_
  have h0 : Sl 91 { tmps := #[] ++ Array.replicate (Tryd.f10.ntmps - (#[] : Array Value).size) undef, defers := [] } [] :=
    ⟨by simp [Tryd.ntmps10], rfl, fun p hp => by simp at hp⟩
  generalize { tmps := #[] ++ Array.replicate (Tryd.f10.ntmps - (#[] : Array Value).size) undef, defers := [] : Act } = b0 at h0 ⊢
  unfold knBody
  refine wp_seq (kn_r0 b0 w _ _ _ h0 rfl fun a0 h0' => ?_)
  have hS := scan_any ⟨#[120, 32, 58, 61, 32, 49, 46, 53]⟩ w hL
  rw [show (⟨#[120, 32, 58, 61, 32, 49, 46, 53]⟩ : ByteArray).data.toList = [120, 32, 58, 61, 32, 49, 46, 53] from rfl, kn_scan] at hS
  refine wp_seq (kn_r1 a0 w _ _ _ h0'.none rfl (fun w' v => Toks w' w.heap.size v [⟨2, [120], 0⟩, ⟨7, [58, 61], 2⟩, ⟨5, [49, 46, 53], 5⟩, ⟨1, [], 8⟩]) (hS.mono fun e w' ⟨hb, v, he, ht⟩ => ⟨v, he, ht, hb⟩) fun a1 w1 v h1 ht hb1 => ?_)
  have hL1 := hL.below hb1 (Nat.le_refl _)
  have hB := scan_any ⟨#[35]⟩ w1 hL1
  rw [show (⟨#[35]⟩ : ByteArray).data.toList = [35] from rfl, kn_wrong] at hB
  refine wp_seq (kn_r2 a1 w1 _ _ _ h1 rfl (fun w' g => WrongB w1 w' g ⟨10, 0⟩) (hB.mono fun e w' ⟨hb, g, he, hg⟩ => ⟨g, he, hg, hb⟩) fun a2 w2 g h2 hg hb2 => ?_)
  have hbw2 := bl_trans hb1 hb2
  have h2' := h2.none.add (h2.look 1 rfl) |>.add (h2.look 2 rfl)
  have h2'' := h2.none.add (h2.look 1 rfl) |>.add (h2.look 2 rfl)
  refine wp_seq (kn_r3 a2 w2 _ _ _ h2' rfl g (code_bad w2 g 10 0 hg.2) (h2.look 4 rfl) fun a3 w3 h3 hb3 => ?_)
  have hbw3 := bl_trans hbw2 hb3
  have hU := unquote_any ⟨#[34, 97, 34]⟩ (by decide) w3
  rw [show (⟨#[34, 97, 34]⟩ : ByteArray).data.toList = [34, 97, 34] from rfl, kn_unq] at hU
  refine wp_seq (kn_r4 a3 w3 _ _ _ h3 rfl (hU.mono fun e w' ⟨hb, he⟩ => ⟨he, hb⟩) fun a4 w4 h4 hb4 => ?_)
  have hbw4 := bl_trans hbw3 hb4
  have hL4 := hL.below hbw4 (Nat.le_refl _)
  have hW := Word_any ⟨#[105, 110]⟩ w4 hL4
  rw [show (⟨#[105, 110]⟩ : ByteArray).data.toList = [105, 110] from rfl, kn_word] at hW
  refine wp_seq (kn_r5 a4 w4 _ _ _ h4 rfl hW fun a5 w5 h5 hb5 => ?_)
  have hbw5 := bl_trans hbw4 hb5
  have hL5 := hL.below hbw5 (Nat.le_refl _)
  have hN := Name_any ⟨#[97, 49]⟩ (by decide) w5 hL5
  rw [show (⟨#[97, 49]⟩ : ByteArray).data.toList = [97, 49] from rfl, kn_name] at hN
  refine wp_seq (kn_r6 a5 w5 _ _ _ h5 rfl hN fun a6 w6 h6 hb6 => ?_)
  have hbw6 := bl_trans hbw5 hb6
  have hQ := quote_any ⟨#[97]⟩ (by decide) w6
  rw [show (⟨#[97]⟩ : ByteArray).data.toList = [97] from rfl, kn_quote] at hQ
  have htk : Toks w6 w.heap.size v [⟨2, [120], 0⟩, ⟨7, [58, 61], 2⟩, ⟨5, [49, 46, 53], 5⟩, ⟨1, [], 8⟩] :=
    own_below ht (bl_trans (bl_trans (bl_trans (bl_trans hb2 hb3) hb4) hb5) hb6)
  obtain ⟨gt, cap, rfl, _, _, hc⟩ := htk.cells (by decide)
  refine wp_seq (kn_r7 a6 w6 _ _ _ h6.none rfl gt cap (hc 0 (by decide)) (hc 1 (by decide)) (hc 2 (by decide)) (hc 3 (by decide)) (hc 4 (by decide)) (hc 5 (by decide)) (hc 6 (by decide)) (hc 7 (by decide)) (hc 8 (by decide)) (hc 9 (by decide)) (hc 10 (by decide)) (hc 11 (by decide)) hQ
    (h6.look 1 rfl) (h6.look 2 rfl) (h6.look 5 rfl) (h6.look 6 rfl) (h6.look 7 rfl) (h6.look 8 rfl) (h6.look 9 rfl) (h6.look 10 rfl) fun a7 w7 h7 hb7 => wp_ret ?_)
  exact bodyPost_ret (results_tmp rfl _ _ _) h7.defers ⟨congrArg Ending.returned (h7.look 0 rfl), bl_trans hbw6 hb7⟩
end Go.Proofs.YtpggcmlddmckcaaDoor
