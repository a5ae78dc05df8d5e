/-
  The regions of package lex's number, one by one. Written by an AI agent.
-/
import Derived.Test.YtpggcmlddmckcaaDoorLb7
import Derived.Test.YtpggcmlddmckcaaDoorLl
import Derived.Test.YtpggcmlddmckcaaDoorQE
import Derived.Test.YtpggcmlddmckcaaDoorFr
namespace Go.Proofs.YtpggcmlddmckcaaDoor
open Go.RowKit Go.Sort
set_option maxRecDepth 100000
theorem letters_ln (a : Act) (h1 : a.tmps.size = 120) (h2 : a.defers = []) : ∃ f : Nat → Value, a = ⟨(List.toArray (f 0 :: f 1 :: f 2 :: f 3 :: f 4 :: f 5 :: f 6 :: f 7 :: f 8 :: f 9 :: f 10 :: f 11 :: f 12 :: f 13 :: f 14 :: f 15 :: f 16 :: f 17 :: f 18 :: f 19 :: f 20 :: f 21 :: f 22 :: f 23 :: f 24 :: f 25 :: f 26 :: f 27 :: f 28 :: f 29 :: f 30 :: f 31 :: f 32 :: f 33 :: f 34 :: f 35 :: f 36 :: f 37 :: f 38 :: f 39 :: f 40 :: f 41 :: f 42 :: f 43 :: f 44 :: f 45 :: f 46 :: f 47 :: f 48 :: f 49 :: f 50 :: f 51 :: f 52 :: f 53 :: f 54 :: f 55 :: f 56 :: f 57 :: f 58 :: f 59 :: f 60 :: f 61 :: f 62 :: f 63 :: f 64 :: f 65 :: f 66 :: f 67 :: f 68 :: f 69 :: f 70 :: f 71 :: f 72 :: f 73 :: f 74 :: f 75 :: f 76 :: f 77 :: f 78 :: f 79 :: f 80 :: f 81 :: f 82 :: f 83 :: f 84 :: f 85 :: f 86 :: f 87 :: f 88 :: f 89 :: f 90 :: f 91 :: f 92 :: f 93 :: f 94 :: f 95 :: f 96 :: f 97 :: f 98 :: f 99 :: f 100 :: f 101 :: f 102 :: f 103 :: f 104 :: f 105 :: f 106 :: f 107 :: f 108 :: f 109 :: f 110 :: f 111 :: f 112 :: f 113 :: f 114 :: f 115 :: f 116 :: f 117 :: f 118 :: f 119 :: [])), []⟩ ∧ ∀ k, slot a k = f k :=
  ⟨slot a, (spread a 120 h1 h2).trans (by kernel_rfl), fun _ => rfl⟩
noncomputable def r_ln (n : Nat) : Code := ((Tryd.f52.body.bind (findR n)).getD .skip)
theorem wrap_small {y : Int} (h0 : 0 ≤ y) (h1 : y ≤ 255) : IntKind.i32.wrap y = y := by
  exact IntWalk.i32_in y (by omega)
set_option maxHeartbeats 4000000 in
theorem ln_r0 (a : Act) (w : World) (N : Act → World → Prop) (Q : Exit → Act → World → Prop) (l : List (Nat × Value)) (hs : Sl 120 a l) (hl : (l.map Prod.fst).all (fun k => [0, 1].contains k) = true)
     
    (hN : ∀ a', Sl 120 a' ((6, .pointer none) :: ((5, .int .i64 0) :: ((4, .pointer (some ⟨w.heap.size, 0, none⟩)) :: l))) → N a' (w.alloc (.cells #[.int .i64 0, .string ⟨#[]⟩, .int .i64 0] 48))) : (r_ln 0).wp Tryd.prog (Exit.then N Q) a w := by
  have HN := Lib.hid hN
  have HL := Lib.hid hl
  obtain ⟨f, ea, hf⟩ : ∃ f : Nat → Value, a = ⟨(List.toArray (f 0 :: f 1 :: f 2 :: f 3 :: f 4 :: f 5 :: f 6 :: f 7 :: f 8 :: f 9 :: f 10 :: f 11 :: f 12 :: f 13 :: f 14 :: f 15 :: f 16 :: f 17 :: f 18 :: f 19 :: f 20 :: f 21 :: f 22 :: f 23 :: f 24 :: f 25 :: f 26 :: f 27 :: f 28 :: f 29 :: f 30 :: f 31 :: f 32 :: f 33 :: f 34 :: f 35 :: f 36 :: f 37 :: f 38 :: f 39 :: f 40 :: f 41 :: f 42 :: f 43 :: f 44 :: f 45 :: f 46 :: f 47 :: f 48 :: f 49 :: f 50 :: f 51 :: f 52 :: f 53 :: f 54 :: f 55 :: f 56 :: f 57 :: f 58 :: f 59 :: f 60 :: f 61 :: f 62 :: f 63 :: f 64 :: f 65 :: f 66 :: f 67 :: f 68 :: f 69 :: f 70 :: f 71 :: f 72 :: f 73 :: f 74 :: f 75 :: f 76 :: f 77 :: f 78 :: f 79 :: f 80 :: f 81 :: f 82 :: f 83 :: f 84 :: f 85 :: f 86 :: f 87 :: f 88 :: f 89 :: f 90 :: f 91 :: f 92 :: f 93 :: f 94 :: f 95 :: f 96 :: f 97 :: f 98 :: f 99 :: f 100 :: f 101 :: f 102 :: f 103 :: f 104 :: f 105 :: f 106 :: f 107 :: f 108 :: f 109 :: f 110 :: f 111 :: f 112 :: f 113 :: f 114 :: f 115 :: f 116 :: f 117 :: f 118 :: f 119 :: [])), []⟩ ∧ ∀ k, slot a k = f k := letters_ln a hs.size hs.defers
  rw [ea]
  have HS := Lib.hid hs
  have HF := Lib.hid hf
  clear hs ea hf hN hl 
  conv => arg 2; whnf
  go_wp2_with fail
  refine HN.out _ ?_
  exact Sl.add (Sl.add (Sl.add (Sl.stay [0, 1] HS.out HF.out (by kernel_rfl) rfl ⟨by kernel_rfl, by kernel_rfl, trivial⟩ HL.out) (by kernel_rfl)) (by kernel_rfl)) (by kernel_rfl)
set_option maxHeartbeats 4000000 in
theorem ln_r1 (a : Act) (w : World) (N : Act → World → Prop) (Q : Exit → Act → World → Prop) (l : List (Nat × Value)) (hs : Sl 120 a l) (hl : (l.map Prod.fst).all (fun k => [0, 1, 4].contains k) = true)
    (s : ByteArray) (a0 : Int) (r0 : ByteArray) (n : Int) (hsf : ∀ w, (Instr.slice 9 (.string s) (some (.int .i64 (a0))) none none).run Tryd.prog w = .ok (.string r0) w) (HC : ∀ w, Calls Tryd.prog 53 #[.string r0, .bool false] w fun e w' => e = .returned (.int .i64 n) ∧ Below w.heap.size w w') (h0 : l.lookup 0 = some (.string s)) (h1 : l.lookup 1 = some (.int .i64 a0))
    (hN : ∀ a' w', Sl 120 a' ((7, .int .i64 n) :: l) → Below w.heap.size w w' → N a' w') : (r_ln 1).wp Tryd.prog (Exit.then N Q) a w := by
  have HN := Lib.hid hN
  have HL := Lib.hid hl
  have e0 := hs.look 0 h0
  have e1 := hs.look 1 h1
  obtain ⟨f, ea, hf⟩ : ∃ f : Nat → Value, a = ⟨(List.toArray (f 0 :: f 1 :: f 2 :: f 3 :: f 4 :: f 5 :: f 6 :: f 7 :: f 8 :: f 9 :: f 10 :: f 11 :: f 12 :: f 13 :: f 14 :: f 15 :: f 16 :: f 17 :: f 18 :: f 19 :: f 20 :: f 21 :: f 22 :: f 23 :: f 24 :: f 25 :: f 26 :: f 27 :: f 28 :: f 29 :: f 30 :: f 31 :: f 32 :: f 33 :: f 34 :: f 35 :: f 36 :: f 37 :: f 38 :: f 39 :: f 40 :: f 41 :: f 42 :: f 43 :: f 44 :: f 45 :: f 46 :: f 47 :: f 48 :: f 49 :: f 50 :: f 51 :: f 52 :: f 53 :: f 54 :: f 55 :: f 56 :: f 57 :: f 58 :: f 59 :: f 60 :: f 61 :: f 62 :: f 63 :: f 64 :: f 65 :: f 66 :: f 67 :: f 68 :: f 69 :: f 70 :: f 71 :: f 72 :: f 73 :: f 74 :: f 75 :: f 76 :: f 77 :: f 78 :: f 79 :: f 80 :: f 81 :: f 82 :: f 83 :: f 84 :: f 85 :: f 86 :: f 87 :: f 88 :: f 89 :: f 90 :: f 91 :: f 92 :: f 93 :: f 94 :: f 95 :: f 96 :: f 97 :: f 98 :: f 99 :: f 100 :: f 101 :: f 102 :: f 103 :: f 104 :: f 105 :: f 106 :: f 107 :: f 108 :: f 109 :: f 110 :: f 111 :: f 112 :: f 113 :: f 114 :: f 115 :: f 116 :: f 117 :: f 118 :: f 119 :: [])), []⟩ ∧ ∀ k, slot a k = f k := letters_ln a hs.size hs.defers
  rw [hf] at e0 e1
  rw [ea, e0, e1]
  have HS := Lib.hid hs
  have HF := Lib.hid hf
  have E0 := Lib.hid e0
  have E1 := Lib.hid e1
  clear hs ea hf hN hl h0 e0 h1 e1
  have HC := Lib.hid HC
  conv => arg 2; whnf
  go_wp2_with fail
  refine (HC.out _).mono ?_
  rintro e w' ⟨rfl, hb⟩
  go_wp2_with fail
  refine HN.out _ _ ?_ hb
  exact Sl.add (Sl.stay [0, 1, 4] HS.out HF.out (by kernel_rfl) rfl ⟨Eq.trans (by kernel_rfl) E0.out.symm, Eq.trans (by kernel_rfl) E1.out.symm, by kernel_rfl, trivial⟩ HL.out) (by kernel_rfl)
set_option maxHeartbeats 4000000 in
theorem ln_r2 (a : Act) (w : World) (N : Act → World → Prop) (Q : Exit → Act → World → Prop) (l : List (Nat × Value)) (hs : Sl 120 a l) (hl : (l.map Prod.fst).all (fun k => [0, 1, 4, 7].contains k) = true)
    (a0 : Int)  (h1 : l.lookup 1 = some (.int .i64 a0))
    (hN : ∀ a', Sl 120 a' ((8, .pointer (some ⟨w.heap.size, 0, none⟩)) :: l) → N a' (w.alloc (.cells #[.int .i64 4, .string ⟨#[]⟩, .int .i64 a0] 48))) : (r_ln 2).wp Tryd.prog (Exit.then N Q) a w := by
  have HN := Lib.hid hN
  have HL := Lib.hid hl
  have e1 := hs.look 1 h1
  obtain ⟨f, ea, hf⟩ : ∃ f : Nat → Value, a = ⟨(List.toArray (f 0 :: f 1 :: f 2 :: f 3 :: f 4 :: f 5 :: f 6 :: f 7 :: f 8 :: f 9 :: f 10 :: f 11 :: f 12 :: f 13 :: f 14 :: f 15 :: f 16 :: f 17 :: f 18 :: f 19 :: f 20 :: f 21 :: f 22 :: f 23 :: f 24 :: f 25 :: f 26 :: f 27 :: f 28 :: f 29 :: f 30 :: f 31 :: f 32 :: f 33 :: f 34 :: f 35 :: f 36 :: f 37 :: f 38 :: f 39 :: f 40 :: f 41 :: f 42 :: f 43 :: f 44 :: f 45 :: f 46 :: f 47 :: f 48 :: f 49 :: f 50 :: f 51 :: f 52 :: f 53 :: f 54 :: f 55 :: f 56 :: f 57 :: f 58 :: f 59 :: f 60 :: f 61 :: f 62 :: f 63 :: f 64 :: f 65 :: f 66 :: f 67 :: f 68 :: f 69 :: f 70 :: f 71 :: f 72 :: f 73 :: f 74 :: f 75 :: f 76 :: f 77 :: f 78 :: f 79 :: f 80 :: f 81 :: f 82 :: f 83 :: f 84 :: f 85 :: f 86 :: f 87 :: f 88 :: f 89 :: f 90 :: f 91 :: f 92 :: f 93 :: f 94 :: f 95 :: f 96 :: f 97 :: f 98 :: f 99 :: f 100 :: f 101 :: f 102 :: f 103 :: f 104 :: f 105 :: f 106 :: f 107 :: f 108 :: f 109 :: f 110 :: f 111 :: f 112 :: f 113 :: f 114 :: f 115 :: f 116 :: f 117 :: f 118 :: f 119 :: [])), []⟩ ∧ ∀ k, slot a k = f k := letters_ln a hs.size hs.defers
  rw [hf] at e1
  rw [ea, e1]
  have HS := Lib.hid hs
  have HF := Lib.hid hf
  have E1 := Lib.hid e1
  clear hs ea hf hN hl h1 e1
  conv => arg 2; whnf
  go_wp2_with fail
  refine HN.out _ ?_
  exact Sl.add (Sl.stay [0, 1, 4, 7] HS.out HF.out (by kernel_rfl) rfl ⟨by kernel_rfl, Eq.trans (by kernel_rfl) E1.out.symm, by kernel_rfl, by kernel_rfl, trivial⟩ HL.out) (by kernel_rfl)
set_option maxHeartbeats 4000000 in
theorem ln_r3 (a : Act) (w : World) (N : Act → World → Prop) (Q : Exit → Act → World → Prop) (l : List (Nat × Value)) (hs : Sl 120 a l) (hl : (l.map Prod.fst).all (fun k => [0, 1, 4, 7, 8].contains k) = true)
    (s : ByteArray) (a0 : Int) (n : Int) (wh : ByteArray) (b1 : 0 ≤ a0) (b2 : 0 ≤ n) (b3 : a0 + n ≤ 140737488355328) (hwh : ∀ w, (Instr.slice 9 (.string s) (some (.int .i64 (a0))) (some (.int .i64 (a0 + n))) none).run Tryd.prog w = .ok (.string wh) w) (h0 : l.lookup 0 = some (.string s)) (h1 : l.lookup 1 = some (.int .i64 a0)) (h7 : l.lookup 7 = some (.int .i64 n))
    (hN : ∀ a', Sl 120 a' ((10, .string ⟨#[]⟩) :: ((9, .string wh) :: l)) → N a' (w)) : (r_ln 3).wp Tryd.prog (Exit.then N Q) a w := by
  have HN := Lib.hid hN
  have HL := Lib.hid hl
  have e0 := hs.look 0 h0
  have e1 := hs.look 1 h1
  have e7 := hs.look 7 h7
  obtain ⟨f, ea, hf⟩ : ∃ f : Nat → Value, a = ⟨(List.toArray (f 0 :: f 1 :: f 2 :: f 3 :: f 4 :: f 5 :: f 6 :: f 7 :: f 8 :: f 9 :: f 10 :: f 11 :: f 12 :: f 13 :: f 14 :: f 15 :: f 16 :: f 17 :: f 18 :: f 19 :: f 20 :: f 21 :: f 22 :: f 23 :: f 24 :: f 25 :: f 26 :: f 27 :: f 28 :: f 29 :: f 30 :: f 31 :: f 32 :: f 33 :: f 34 :: f 35 :: f 36 :: f 37 :: f 38 :: f 39 :: f 40 :: f 41 :: f 42 :: f 43 :: f 44 :: f 45 :: f 46 :: f 47 :: f 48 :: f 49 :: f 50 :: f 51 :: f 52 :: f 53 :: f 54 :: f 55 :: f 56 :: f 57 :: f 58 :: f 59 :: f 60 :: f 61 :: f 62 :: f 63 :: f 64 :: f 65 :: f 66 :: f 67 :: f 68 :: f 69 :: f 70 :: f 71 :: f 72 :: f 73 :: f 74 :: f 75 :: f 76 :: f 77 :: f 78 :: f 79 :: f 80 :: f 81 :: f 82 :: f 83 :: f 84 :: f 85 :: f 86 :: f 87 :: f 88 :: f 89 :: f 90 :: f 91 :: f 92 :: f 93 :: f 94 :: f 95 :: f 96 :: f 97 :: f 98 :: f 99 :: f 100 :: f 101 :: f 102 :: f 103 :: f 104 :: f 105 :: f 106 :: f 107 :: f 108 :: f 109 :: f 110 :: f 111 :: f 112 :: f 113 :: f 114 :: f 115 :: f 116 :: f 117 :: f 118 :: f 119 :: [])), []⟩ ∧ ∀ k, slot a k = f k := letters_ln a hs.size hs.defers
  rw [hf] at e0 e1 e7
  rw [ea, e0, e1, e7]
  have HS := Lib.hid hs
  have HF := Lib.hid hf
  have E0 := Lib.hid e0
  have E1 := Lib.hid e1
  have E7 := Lib.hid e7
  clear hs ea hf hN hl h0 e0 h1 e1 h7 e7
  conv => arg 2; whnf
  go_wp2_with fail
  refine HN.out _ ?_
  exact Sl.add (Sl.add (Sl.stay [0, 1, 4, 7, 8] HS.out HF.out (by kernel_rfl) rfl ⟨Eq.trans (by kernel_rfl) E0.out.symm, Eq.trans (by kernel_rfl) E1.out.symm, by kernel_rfl, Eq.trans (by kernel_rfl) E7.out.symm, by kernel_rfl, trivial⟩ HL.out) (by kernel_rfl)) (by kernel_rfl)
set_option maxHeartbeats 4000000 in
theorem ln_r4 (a : Act) (w : World) (N : Act → World → Prop) (Q : Exit → Act → World → Prop) (l : List (Nat × Value)) (hs : Sl 120 a l) (hl : (l.map Prod.fst).all (fun k => [0, 1, 4, 7, 8, 9, 10].contains k) = true)
    (s : ByteArray) (a0 : Int) (n : Int) (rs : ByteArray) (b1 : 0 ≤ a0) (b2 : 0 ≤ n) (b3 : a0 + n ≤ 140737488355328) (hrs : ∀ w, (Instr.slice 9 (.string s) (some (.int .i64 (a0 + n))) none none).run Tryd.prog w = .ok (.string rs) w) (h0 : l.lookup 0 = some (.string s)) (h1 : l.lookup 1 = some (.int .i64 a0)) (h7 : l.lookup 7 = some (.int .i64 n))
    (hN : ∀ a', Sl 120 a' ((11, .string rs) :: l) → N a' (w)) : (r_ln 4).wp Tryd.prog (Exit.then N Q) a w := by
  have HN := Lib.hid hN
  have HL := Lib.hid hl
  have e0 := hs.look 0 h0
  have e1 := hs.look 1 h1
  have e7 := hs.look 7 h7
  obtain ⟨f, ea, hf⟩ : ∃ f : Nat → Value, a = ⟨(List.toArray (f 0 :: f 1 :: f 2 :: f 3 :: f 4 :: f 5 :: f 6 :: f 7 :: f 8 :: f 9 :: f 10 :: f 11 :: f 12 :: f 13 :: f 14 :: f 15 :: f 16 :: f 17 :: f 18 :: f 19 :: f 20 :: f 21 :: f 22 :: f 23 :: f 24 :: f 25 :: f 26 :: f 27 :: f 28 :: f 29 :: f 30 :: f 31 :: f 32 :: f 33 :: f 34 :: f 35 :: f 36 :: f 37 :: f 38 :: f 39 :: f 40 :: f 41 :: f 42 :: f 43 :: f 44 :: f 45 :: f 46 :: f 47 :: f 48 :: f 49 :: f 50 :: f 51 :: f 52 :: f 53 :: f 54 :: f 55 :: f 56 :: f 57 :: f 58 :: f 59 :: f 60 :: f 61 :: f 62 :: f 63 :: f 64 :: f 65 :: f 66 :: f 67 :: f 68 :: f 69 :: f 70 :: f 71 :: f 72 :: f 73 :: f 74 :: f 75 :: f 76 :: f 77 :: f 78 :: f 79 :: f 80 :: f 81 :: f 82 :: f 83 :: f 84 :: f 85 :: f 86 :: f 87 :: f 88 :: f 89 :: f 90 :: f 91 :: f 92 :: f 93 :: f 94 :: f 95 :: f 96 :: f 97 :: f 98 :: f 99 :: f 100 :: f 101 :: f 102 :: f 103 :: f 104 :: f 105 :: f 106 :: f 107 :: f 108 :: f 109 :: f 110 :: f 111 :: f 112 :: f 113 :: f 114 :: f 115 :: f 116 :: f 117 :: f 118 :: f 119 :: [])), []⟩ ∧ ∀ k, slot a k = f k := letters_ln a hs.size hs.defers
  rw [hf] at e0 e1 e7
  rw [ea, e0, e1, e7]
  have HS := Lib.hid hs
  have HF := Lib.hid hf
  have E0 := Lib.hid e0
  have E1 := Lib.hid e1
  have E7 := Lib.hid e7
  clear hs ea hf hN hl h0 e0 h1 e1 h7 e7
  conv => arg 2; whnf
  go_wp2_with fail
  refine HN.out _ ?_
  exact Sl.add (Sl.stay [0, 1, 4, 7, 8, 9, 10] HS.out HF.out (by kernel_rfl) rfl ⟨Eq.trans (by kernel_rfl) E0.out.symm, Eq.trans (by kernel_rfl) E1.out.symm, by kernel_rfl, Eq.trans (by kernel_rfl) E7.out.symm, by kernel_rfl, by kernel_rfl, by kernel_rfl, trivial⟩ HL.out) (by kernel_rfl)
set_option maxHeartbeats 4000000 in
theorem ln_r5s (a : Act) (w : World) (N : Act → World → Prop) (Q : Exit → Act → World → Prop) (l : List (Nat × Value)) (hs : Sl 120 a l) (hl : (l.map Prod.fst).all (fun k => [0, 1, 4, 7, 8, 9, 10, 11].contains k) = true)
    (rs : ByteArray) (h1 : ¬ (1 : Int) < (rs.size : Int))  (h11 : l.lookup 11 = some (.string rs))
    (hN : ∀ a', Sl 120 a' ((43, .bool false) :: l) → N a' (w)) : (r_ln 5).wp Tryd.prog (Exit.then N Q) a w := by
  have HN := Lib.hid hN
  have HL := Lib.hid hl
  have e11 := hs.look 11 h11
  obtain ⟨f, ea, hf⟩ : ∃ f : Nat → Value, a = ⟨(List.toArray (f 0 :: f 1 :: f 2 :: f 3 :: f 4 :: f 5 :: f 6 :: f 7 :: f 8 :: f 9 :: f 10 :: f 11 :: f 12 :: f 13 :: f 14 :: f 15 :: f 16 :: f 17 :: f 18 :: f 19 :: f 20 :: f 21 :: f 22 :: f 23 :: f 24 :: f 25 :: f 26 :: f 27 :: f 28 :: f 29 :: f 30 :: f 31 :: f 32 :: f 33 :: f 34 :: f 35 :: f 36 :: f 37 :: f 38 :: f 39 :: f 40 :: f 41 :: f 42 :: f 43 :: f 44 :: f 45 :: f 46 :: f 47 :: f 48 :: f 49 :: f 50 :: f 51 :: f 52 :: f 53 :: f 54 :: f 55 :: f 56 :: f 57 :: f 58 :: f 59 :: f 60 :: f 61 :: f 62 :: f 63 :: f 64 :: f 65 :: f 66 :: f 67 :: f 68 :: f 69 :: f 70 :: f 71 :: f 72 :: f 73 :: f 74 :: f 75 :: f 76 :: f 77 :: f 78 :: f 79 :: f 80 :: f 81 :: f 82 :: f 83 :: f 84 :: f 85 :: f 86 :: f 87 :: f 88 :: f 89 :: f 90 :: f 91 :: f 92 :: f 93 :: f 94 :: f 95 :: f 96 :: f 97 :: f 98 :: f 99 :: f 100 :: f 101 :: f 102 :: f 103 :: f 104 :: f 105 :: f 106 :: f 107 :: f 108 :: f 109 :: f 110 :: f 111 :: f 112 :: f 113 :: f 114 :: f 115 :: f 116 :: f 117 :: f 118 :: f 119 :: [])), []⟩ ∧ ∀ k, slot a k = f k := letters_ln a hs.size hs.defers
  rw [hf] at e11
  rw [ea, e11]
  have HS := Lib.hid hs
  have HF := Lib.hid hf
  have E11 := Lib.hid e11
  clear hs ea hf hN hl h11 e11
  conv => arg 2; whnf
  go_wp2_with fail
  refine HN.out _ ?_
  exact Sl.add (Sl.stay [0, 1, 4, 7, 8, 9, 10, 11] HS.out HF.out (by kernel_rfl) rfl ⟨by kernel_rfl, by kernel_rfl, by kernel_rfl, by kernel_rfl, by kernel_rfl, by kernel_rfl, by kernel_rfl, Eq.trans (by kernel_rfl) E11.out.symm, trivial⟩ HL.out) (by kernel_rfl)
set_option maxHeartbeats 4000000 in
theorem ln_r5x (a : Act) (w : World) (N : Act → World → Prop) (Q : Exit → Act → World → Prop) (l : List (Nat × Value)) (hs : Sl 120 a l) (hl : (l.map Prod.fst).all (fun k => [0, 1, 4, 7, 8, 9, 10, 11].contains k) = true)
    (rs : ByteArray) (x : Int) (h1 : (1 : Int) < (rs.size : Int)) (hi0 : ∀ w, (Instr.index 9 (.string rs) (.int .i64 0)).run Tryd.prog w = .ok (.int .u8 x) w) (hx : (x == 46) = false)  (h11 : l.lookup 11 = some (.string rs))
    (hN : ∀ a', Sl 120 a' ((43, .bool false) :: l) → N a' (w)) : (r_ln 5).wp Tryd.prog (Exit.then N Q) a w := by
  have HN := Lib.hid hN
  have HL := Lib.hid hl
  have e11 := hs.look 11 h11
  obtain ⟨f, ea, hf⟩ : ∃ f : Nat → Value, a = ⟨(List.toArray (f 0 :: f 1 :: f 2 :: f 3 :: f 4 :: f 5 :: f 6 :: f 7 :: f 8 :: f 9 :: f 10 :: f 11 :: f 12 :: f 13 :: f 14 :: f 15 :: f 16 :: f 17 :: f 18 :: f 19 :: f 20 :: f 21 :: f 22 :: f 23 :: f 24 :: f 25 :: f 26 :: f 27 :: f 28 :: f 29 :: f 30 :: f 31 :: f 32 :: f 33 :: f 34 :: f 35 :: f 36 :: f 37 :: f 38 :: f 39 :: f 40 :: f 41 :: f 42 :: f 43 :: f 44 :: f 45 :: f 46 :: f 47 :: f 48 :: f 49 :: f 50 :: f 51 :: f 52 :: f 53 :: f 54 :: f 55 :: f 56 :: f 57 :: f 58 :: f 59 :: f 60 :: f 61 :: f 62 :: f 63 :: f 64 :: f 65 :: f 66 :: f 67 :: f 68 :: f 69 :: f 70 :: f 71 :: f 72 :: f 73 :: f 74 :: f 75 :: f 76 :: f 77 :: f 78 :: f 79 :: f 80 :: f 81 :: f 82 :: f 83 :: f 84 :: f 85 :: f 86 :: f 87 :: f 88 :: f 89 :: f 90 :: f 91 :: f 92 :: f 93 :: f 94 :: f 95 :: f 96 :: f 97 :: f 98 :: f 99 :: f 100 :: f 101 :: f 102 :: f 103 :: f 104 :: f 105 :: f 106 :: f 107 :: f 108 :: f 109 :: f 110 :: f 111 :: f 112 :: f 113 :: f 114 :: f 115 :: f 116 :: f 117 :: f 118 :: f 119 :: [])), []⟩ ∧ ∀ k, slot a k = f k := letters_ln a hs.size hs.defers
  rw [hf] at e11
  rw [ea, e11]
  have HS := Lib.hid hs
  have HF := Lib.hid hf
  have E11 := Lib.hid e11
  clear hs ea hf hN hl h11 e11
  conv => arg 2; whnf
  go_wp2_with fail
  refine HN.out _ ?_
  exact Sl.add (Sl.stay [0, 1, 4, 7, 8, 9, 10, 11] HS.out HF.out (by kernel_rfl) rfl ⟨by kernel_rfl, by kernel_rfl, by kernel_rfl, by kernel_rfl, by kernel_rfl, by kernel_rfl, by kernel_rfl, Eq.trans (by kernel_rfl) E11.out.symm, trivial⟩ HL.out) (by kernel_rfl)
set_option maxHeartbeats 4000000 in
theorem ln_r5d (a : Act) (w : World) (N : Act → World → Prop) (Q : Exit → Act → World → Prop) (l : List (Nat × Value)) (hs : Sl 120 a l) (hl : (l.map Prod.fst).all (fun k => [0, 1, 4, 7, 8, 9, 10, 11].contains k) = true)
    (rs : ByteArray) (y : Int) (y0 : 0 ≤ y) (y1 : y ≤ 255) (b : Bool) (h1 : (1 : Int) < (rs.size : Int)) (hi0 : ∀ w, (Instr.index 9 (.string rs) (.int .i64 0)).run Tryd.prog w = .ok (.int .u8 46) w) (hi1 : ∀ w, (Instr.index 9 (.string rs) (.int .i64 1)).run Tryd.prog w = .ok (.int .u8 y) w) (HC : ∀ w, Calls Tryd.prog 42 #[.int .i32 y] w fun e w' => e = .returned (.bool b) ∧ w = w')  (h11 : l.lookup 11 = some (.string rs))
    (hN : ∀ a', Sl 120 a' ((43, .bool b) :: l) → N a' (w)) : (r_ln 5).wp Tryd.prog (Exit.then N Q) a w := by
  have HN := Lib.hid hN
  have HL := Lib.hid hl
  have e11 := hs.look 11 h11
  obtain ⟨f, ea, hf⟩ : ∃ f : Nat → Value, a = ⟨(List.toArray (f 0 :: f 1 :: f 2 :: f 3 :: f 4 :: f 5 :: f 6 :: f 7 :: f 8 :: f 9 :: f 10 :: f 11 :: f 12 :: f 13 :: f 14 :: f 15 :: f 16 :: f 17 :: f 18 :: f 19 :: f 20 :: f 21 :: f 22 :: f 23 :: f 24 :: f 25 :: f 26 :: f 27 :: f 28 :: f 29 :: f 30 :: f 31 :: f 32 :: f 33 :: f 34 :: f 35 :: f 36 :: f 37 :: f 38 :: f 39 :: f 40 :: f 41 :: f 42 :: f 43 :: f 44 :: f 45 :: f 46 :: f 47 :: f 48 :: f 49 :: f 50 :: f 51 :: f 52 :: f 53 :: f 54 :: f 55 :: f 56 :: f 57 :: f 58 :: f 59 :: f 60 :: f 61 :: f 62 :: f 63 :: f 64 :: f 65 :: f 66 :: f 67 :: f 68 :: f 69 :: f 70 :: f 71 :: f 72 :: f 73 :: f 74 :: f 75 :: f 76 :: f 77 :: f 78 :: f 79 :: f 80 :: f 81 :: f 82 :: f 83 :: f 84 :: f 85 :: f 86 :: f 87 :: f 88 :: f 89 :: f 90 :: f 91 :: f 92 :: f 93 :: f 94 :: f 95 :: f 96 :: f 97 :: f 98 :: f 99 :: f 100 :: f 101 :: f 102 :: f 103 :: f 104 :: f 105 :: f 106 :: f 107 :: f 108 :: f 109 :: f 110 :: f 111 :: f 112 :: f 113 :: f 114 :: f 115 :: f 116 :: f 117 :: f 118 :: f 119 :: [])), []⟩ ∧ ∀ k, slot a k = f k := letters_ln a hs.size hs.defers
  rw [hf] at e11
  rw [ea, e11]
  have HS := Lib.hid hs
  have HF := Lib.hid hf
  have E11 := Lib.hid e11
  clear hs ea hf hN hl h11 e11
  have HC := Lib.hid HC
  have hw := wrap_small y0 y1
  conv => arg 2; whnf
  go_wp2_with fail
  refine (HC.out _).mono ?_
  rintro e w' ⟨rfl, rfl⟩
  go_wp2_with fail
  refine HN.out _ ?_
  exact Sl.add (Sl.stay [0, 1, 4, 7, 8, 9, 10, 11] HS.out HF.out (by kernel_rfl) rfl ⟨by kernel_rfl, by kernel_rfl, by kernel_rfl, by kernel_rfl, by kernel_rfl, by kernel_rfl, by kernel_rfl, Eq.trans (by kernel_rfl) E11.out.symm, trivial⟩ HL.out) (by kernel_rfl)
set_option maxHeartbeats 4000000 in
theorem ln_r6 (a : Act) (w : World) (N : Act → World → Prop) (Q : Exit → Act → World → Prop) (l : List (Nat × Value)) (hs : Sl 120 a l) (hl : (l.map Prod.fst).all (fun k => [0, 1, 4, 7, 8, 9].contains k) = true)
    (rs r1 pt : ByteArray) (p : Int) (p0 : 0 ≤ p) (p1 : p ≤ 140737488355328) (hs1 : ∀ w, (Instr.slice 9 (.string rs) (some (.int .i64 (1))) none none).run Tryd.prog w = .ok (.string r1) w) (HC : ∀ w, Calls Tryd.prog 53 #[.string r1, .bool false] w fun e w' => e = .returned (.int .i64 p) ∧ Below w.heap.size w w') (hpt : ∀ w, (Instr.slice 9 (.string rs) (some (.int .i64 (1))) (some (.int .i64 (1 + p))) none).run Tryd.prog w = .ok (.string pt) w) (h11 : slot a 11 = .string rs)
    (hN : ∀ a' w', Sl 120 a' ((10, .string pt) :: l) → Below w.heap.size w w' → N a' w') : (r_ln 6).wp Tryd.prog (Exit.then N Q) a w := by
  have HN := Lib.hid hN
  have HL := Lib.hid hl
  have e11 := h11
  obtain ⟨f, ea, hf⟩ : ∃ f : Nat → Value, a = ⟨(List.toArray (f 0 :: f 1 :: f 2 :: f 3 :: f 4 :: f 5 :: f 6 :: f 7 :: f 8 :: f 9 :: f 10 :: f 11 :: f 12 :: f 13 :: f 14 :: f 15 :: f 16 :: f 17 :: f 18 :: f 19 :: f 20 :: f 21 :: f 22 :: f 23 :: f 24 :: f 25 :: f 26 :: f 27 :: f 28 :: f 29 :: f 30 :: f 31 :: f 32 :: f 33 :: f 34 :: f 35 :: f 36 :: f 37 :: f 38 :: f 39 :: f 40 :: f 41 :: f 42 :: f 43 :: f 44 :: f 45 :: f 46 :: f 47 :: f 48 :: f 49 :: f 50 :: f 51 :: f 52 :: f 53 :: f 54 :: f 55 :: f 56 :: f 57 :: f 58 :: f 59 :: f 60 :: f 61 :: f 62 :: f 63 :: f 64 :: f 65 :: f 66 :: f 67 :: f 68 :: f 69 :: f 70 :: f 71 :: f 72 :: f 73 :: f 74 :: f 75 :: f 76 :: f 77 :: f 78 :: f 79 :: f 80 :: f 81 :: f 82 :: f 83 :: f 84 :: f 85 :: f 86 :: f 87 :: f 88 :: f 89 :: f 90 :: f 91 :: f 92 :: f 93 :: f 94 :: f 95 :: f 96 :: f 97 :: f 98 :: f 99 :: f 100 :: f 101 :: f 102 :: f 103 :: f 104 :: f 105 :: f 106 :: f 107 :: f 108 :: f 109 :: f 110 :: f 111 :: f 112 :: f 113 :: f 114 :: f 115 :: f 116 :: f 117 :: f 118 :: f 119 :: [])), []⟩ ∧ ∀ k, slot a k = f k := letters_ln a hs.size hs.defers
  rw [hf] at e11
  rw [ea, e11]
  have HS := Lib.hid hs
  have HF := Lib.hid hf
  have E11 := Lib.hid e11
  clear hs ea hf hN hl h11 e11
  have HC := Lib.hid HC
  conv => arg 2; whnf
  go_wp2_with fail
  refine (HC.out _).mono ?_
  rintro e w' ⟨rfl, hb⟩
  go_wp2_with fail
  refine HN.out _ _ ?_ hb
  exact Sl.add (Sl.stay [0, 1, 4, 7, 8, 9] HS.out HF.out (by kernel_rfl) rfl ⟨by kernel_rfl, by kernel_rfl, by kernel_rfl, by kernel_rfl, by kernel_rfl, by kernel_rfl, trivial⟩ HL.out) (by kernel_rfl)
set_option maxHeartbeats 4000000 in
theorem ln_r7 (a : Act) (w : World) (N : Act → World → Prop) (Q : Exit → Act → World → Prop) (l : List (Nat × Value)) (hs : Sl 120 a l) (hl : (l.map Prod.fst).all (fun k => [0, 1, 4, 8, 9, 10].contains k) = true)
    (n : Int) (pt : ByteArray) (b2 : 0 ≤ n) (b3 : n + (1 + (pt.size : Int)) ≤ 140737488355328)  (h7 : slot a 7 = .int .i64 n) (h10 : l.lookup 10 = some (.string pt))
    (hN : ∀ a', Sl 120 a' ((7, .int .i64 (n + (1 + (pt.size : Int)))) :: l) → N a' (w)) : (r_ln 7).wp Tryd.prog (Exit.then N Q) a w := by
  have HN := Lib.hid hN
  have HL := Lib.hid hl
  have e7 := h7
  have e10 := hs.look 10 h10
  obtain ⟨f, ea, hf⟩ : ∃ f : Nat → Value, a = ⟨(List.toArray (f 0 :: f 1 :: f 2 :: f 3 :: f 4 :: f 5 :: f 6 :: f 7 :: f 8 :: f 9 :: f 10 :: f 11 :: f 12 :: f 13 :: f 14 :: f 15 :: f 16 :: f 17 :: f 18 :: f 19 :: f 20 :: f 21 :: f 22 :: f 23 :: f 24 :: f 25 :: f 26 :: f 27 :: f 28 :: f 29 :: f 30 :: f 31 :: f 32 :: f 33 :: f 34 :: f 35 :: f 36 :: f 37 :: f 38 :: f 39 :: f 40 :: f 41 :: f 42 :: f 43 :: f 44 :: f 45 :: f 46 :: f 47 :: f 48 :: f 49 :: f 50 :: f 51 :: f 52 :: f 53 :: f 54 :: f 55 :: f 56 :: f 57 :: f 58 :: f 59 :: f 60 :: f 61 :: f 62 :: f 63 :: f 64 :: f 65 :: f 66 :: f 67 :: f 68 :: f 69 :: f 70 :: f 71 :: f 72 :: f 73 :: f 74 :: f 75 :: f 76 :: f 77 :: f 78 :: f 79 :: f 80 :: f 81 :: f 82 :: f 83 :: f 84 :: f 85 :: f 86 :: f 87 :: f 88 :: f 89 :: f 90 :: f 91 :: f 92 :: f 93 :: f 94 :: f 95 :: f 96 :: f 97 :: f 98 :: f 99 :: f 100 :: f 101 :: f 102 :: f 103 :: f 104 :: f 105 :: f 106 :: f 107 :: f 108 :: f 109 :: f 110 :: f 111 :: f 112 :: f 113 :: f 114 :: f 115 :: f 116 :: f 117 :: f 118 :: f 119 :: [])), []⟩ ∧ ∀ k, slot a k = f k := letters_ln a hs.size hs.defers
  rw [hf] at e7 e10
  rw [ea, e7, e10]
  have HS := Lib.hid hs
  have HF := Lib.hid hf
  have E7 := Lib.hid e7
  have E10 := Lib.hid e10
  clear hs ea hf hN hl h7 e7 h10 e10
  conv => arg 2; whnf
  go_wp2_with fail
  refine HN.out _ ?_
  exact Sl.add (Sl.stay [0, 1, 4, 8, 9, 10] HS.out HF.out (by kernel_rfl) rfl ⟨by kernel_rfl, by kernel_rfl, by kernel_rfl, by kernel_rfl, by kernel_rfl, Eq.trans (by kernel_rfl) E10.out.symm, trivial⟩ HL.out) (by kernel_rfl)
set_option maxHeartbeats 4000000 in
theorem ln_r8 (a : Act) (w : World) (N : Act → World → Prop) (Q : Exit → Act → World → Prop) (l : List (Nat × Value)) (hs : Sl 120 a l) (hl : (l.map Prod.fst).all (fun k => [0, 1, 4, 7, 8, 9, 10].contains k) = true)
    (g : Nat) (v0 v1 v2 : Value) (hT : Blk w g 48 #[v0, v1, v2])  (h8 : l.lookup 8 = some (.pointer (some ⟨g, 0, none⟩)))
    (hN : ∀ a', Sl 120 a' l → N a' (w.setCell ⟨g, 0, none⟩ (.int .i64 5))) : (r_ln 8).wp Tryd.prog (Exit.then N Q) a w := by
  have HN := Lib.hid hN
  have HL := Lib.hid hl
  have e8 := hs.look 8 h8
  obtain ⟨f, ea, hf⟩ : ∃ f : Nat → Value, a = ⟨(List.toArray (f 0 :: f 1 :: f 2 :: f 3 :: f 4 :: f 5 :: f 6 :: f 7 :: f 8 :: f 9 :: f 10 :: f 11 :: f 12 :: f 13 :: f 14 :: f 15 :: f 16 :: f 17 :: f 18 :: f 19 :: f 20 :: f 21 :: f 22 :: f 23 :: f 24 :: f 25 :: f 26 :: f 27 :: f 28 :: f 29 :: f 30 :: f 31 :: f 32 :: f 33 :: f 34 :: f 35 :: f 36 :: f 37 :: f 38 :: f 39 :: f 40 :: f 41 :: f 42 :: f 43 :: f 44 :: f 45 :: f 46 :: f 47 :: f 48 :: f 49 :: f 50 :: f 51 :: f 52 :: f 53 :: f 54 :: f 55 :: f 56 :: f 57 :: f 58 :: f 59 :: f 60 :: f 61 :: f 62 :: f 63 :: f 64 :: f 65 :: f 66 :: f 67 :: f 68 :: f 69 :: f 70 :: f 71 :: f 72 :: f 73 :: f 74 :: f 75 :: f 76 :: f 77 :: f 78 :: f 79 :: f 80 :: f 81 :: f 82 :: f 83 :: f 84 :: f 85 :: f 86 :: f 87 :: f 88 :: f 89 :: f 90 :: f 91 :: f 92 :: f 93 :: f 94 :: f 95 :: f 96 :: f 97 :: f 98 :: f 99 :: f 100 :: f 101 :: f 102 :: f 103 :: f 104 :: f 105 :: f 106 :: f 107 :: f 108 :: f 109 :: f 110 :: f 111 :: f 112 :: f 113 :: f 114 :: f 115 :: f 116 :: f 117 :: f 118 :: f 119 :: [])), []⟩ ∧ ∀ k, slot a k = f k := letters_ln a hs.size hs.defers
  rw [hf] at e8
  rw [ea, e8]
  have HS := Lib.hid hs
  have HF := Lib.hid hf
  have E8 := Lib.hid e8
  clear hs ea hf hN hl h8 e8
  have c0 := hT.cell 0
  have c1 := hT.cell 1
  have c2 := hT.cell 2
  simp at c0 c1 c2
  have hfz := fun j => hT.frozen j
  have hlt := hT.lt
  clear hT
  conv => arg 2; whnf
  go_wp2_with fail
  refine HN.out _ ?_
  exact Sl.stay [0, 1, 4, 7, 8, 9, 10] HS.out HF.out (by kernel_rfl) rfl ⟨by kernel_rfl, by kernel_rfl, by kernel_rfl, by kernel_rfl, Eq.trans (by kernel_rfl) E8.out.symm, by kernel_rfl, by kernel_rfl, trivial⟩ HL.out
set_option maxHeartbeats 4000000 in
theorem ln_r9 (a : Act) (w : World) (N : Act → World → Prop) (Q : Exit → Act → World → Prop) (l : List (Nat × Value)) (hs : Sl 120 a l) (hl : (l.map Prod.fst).all (fun k => [0, 1, 4, 7, 8, 9, 10].contains k) = true)
    (s : ByteArray) (a0 : Int) (n : Int) (tx : ByteArray) (b1 : 0 ≤ a0) (b2 : 0 ≤ n) (b3 : a0 + n ≤ 140737488355328) (htx : ∀ w, (Instr.slice 9 (.string s) (some (.int .i64 (a0))) (some (.int .i64 (a0 + n))) none).run Tryd.prog w = .ok (.string tx) w) (g : Nat) (v0 v1 v2 : Value) (hT : Blk w g 48 #[v0, v1, v2])  (h0 : l.lookup 0 = some (.string s)) (h1 : l.lookup 1 = some (.int .i64 a0)) (h7 : l.lookup 7 = some (.int .i64 n)) (h8 : l.lookup 8 = some (.pointer (some ⟨g, 0, none⟩)))
    (hN : ∀ a', Sl 120 a' l → N a' (w.setCell ⟨g, 1, none⟩ (.string tx))) : (r_ln 9).wp Tryd.prog (Exit.then N Q) a w := by
  have HN := Lib.hid hN
  have HL := Lib.hid hl
  have e0 := hs.look 0 h0
  have e1 := hs.look 1 h1
  have e7 := hs.look 7 h7
  have e8 := hs.look 8 h8
  obtain ⟨f, ea, hf⟩ : ∃ f : Nat → Value, a = ⟨(List.toArray (f 0 :: f 1 :: f 2 :: f 3 :: f 4 :: f 5 :: f 6 :: f 7 :: f 8 :: f 9 :: f 10 :: f 11 :: f 12 :: f 13 :: f 14 :: f 15 :: f 16 :: f 17 :: f 18 :: f 19 :: f 20 :: f 21 :: f 22 :: f 23 :: f 24 :: f 25 :: f 26 :: f 27 :: f 28 :: f 29 :: f 30 :: f 31 :: f 32 :: f 33 :: f 34 :: f 35 :: f 36 :: f 37 :: f 38 :: f 39 :: f 40 :: f 41 :: f 42 :: f 43 :: f 44 :: f 45 :: f 46 :: f 47 :: f 48 :: f 49 :: f 50 :: f 51 :: f 52 :: f 53 :: f 54 :: f 55 :: f 56 :: f 57 :: f 58 :: f 59 :: f 60 :: f 61 :: f 62 :: f 63 :: f 64 :: f 65 :: f 66 :: f 67 :: f 68 :: f 69 :: f 70 :: f 71 :: f 72 :: f 73 :: f 74 :: f 75 :: f 76 :: f 77 :: f 78 :: f 79 :: f 80 :: f 81 :: f 82 :: f 83 :: f 84 :: f 85 :: f 86 :: f 87 :: f 88 :: f 89 :: f 90 :: f 91 :: f 92 :: f 93 :: f 94 :: f 95 :: f 96 :: f 97 :: f 98 :: f 99 :: f 100 :: f 101 :: f 102 :: f 103 :: f 104 :: f 105 :: f 106 :: f 107 :: f 108 :: f 109 :: f 110 :: f 111 :: f 112 :: f 113 :: f 114 :: f 115 :: f 116 :: f 117 :: f 118 :: f 119 :: [])), []⟩ ∧ ∀ k, slot a k = f k := letters_ln a hs.size hs.defers
  rw [hf] at e0 e1 e7 e8
  rw [ea, e0, e1, e7, e8]
  have HS := Lib.hid hs
  have HF := Lib.hid hf
  have E0 := Lib.hid e0
  have E1 := Lib.hid e1
  have E7 := Lib.hid e7
  have E8 := Lib.hid e8
  clear hs ea hf hN hl h0 e0 h1 e1 h7 e7 h8 e8
  have c0 := hT.cell 0
  have c1 := hT.cell 1
  have c2 := hT.cell 2
  simp at c0 c1 c2
  have hfz := fun j => hT.frozen j
  have hlt := hT.lt
  clear hT
  conv => arg 2; whnf
  go_wp2_with fail
  refine HN.out _ ?_
  exact Sl.stay [0, 1, 4, 7, 8, 9, 10] HS.out HF.out (by kernel_rfl) rfl ⟨Eq.trans (by kernel_rfl) E0.out.symm, Eq.trans (by kernel_rfl) E1.out.symm, by kernel_rfl, Eq.trans (by kernel_rfl) E7.out.symm, Eq.trans (by kernel_rfl) E8.out.symm, by kernel_rfl, by kernel_rfl, trivial⟩ HL.out
set_option maxHeartbeats 4000000 in
theorem ln_r10f (a : Act) (w : World) (N : Act → World → Prop) (Q : Exit → Act → World → Prop) (l : List (Nat × Value)) (hs : Sl 120 a l) (hl : (l.map Prod.fst).all (fun k => [0, 1, 4, 7, 8, 9, 10].contains k) = true)
    (wh : ByteArray) (g : Nat) (v1 v2 : Value) (hT : Blk w g 48 #[.int .i64 5, v1, v2])  (h8 : l.lookup 8 = some (.pointer (some ⟨g, 0, none⟩))) (h9 : l.lookup 9 = some (.string wh))
    (hN : ∀ a', Sl 120 a' ((12, .bool false) :: l) → N a' (w)) : (r_ln 10).wp Tryd.prog (Exit.then N Q) a w := by
  have HN := Lib.hid hN
  have HL := Lib.hid hl
  have e8 := hs.look 8 h8
  have e9 := hs.look 9 h9
  obtain ⟨f, ea, hf⟩ : ∃ f : Nat → Value, a = ⟨(List.toArray (f 0 :: f 1 :: f 2 :: f 3 :: f 4 :: f 5 :: f 6 :: f 7 :: f 8 :: f 9 :: f 10 :: f 11 :: f 12 :: f 13 :: f 14 :: f 15 :: f 16 :: f 17 :: f 18 :: f 19 :: f 20 :: f 21 :: f 22 :: f 23 :: f 24 :: f 25 :: f 26 :: f 27 :: f 28 :: f 29 :: f 30 :: f 31 :: f 32 :: f 33 :: f 34 :: f 35 :: f 36 :: f 37 :: f 38 :: f 39 :: f 40 :: f 41 :: f 42 :: f 43 :: f 44 :: f 45 :: f 46 :: f 47 :: f 48 :: f 49 :: f 50 :: f 51 :: f 52 :: f 53 :: f 54 :: f 55 :: f 56 :: f 57 :: f 58 :: f 59 :: f 60 :: f 61 :: f 62 :: f 63 :: f 64 :: f 65 :: f 66 :: f 67 :: f 68 :: f 69 :: f 70 :: f 71 :: f 72 :: f 73 :: f 74 :: f 75 :: f 76 :: f 77 :: f 78 :: f 79 :: f 80 :: f 81 :: f 82 :: f 83 :: f 84 :: f 85 :: f 86 :: f 87 :: f 88 :: f 89 :: f 90 :: f 91 :: f 92 :: f 93 :: f 94 :: f 95 :: f 96 :: f 97 :: f 98 :: f 99 :: f 100 :: f 101 :: f 102 :: f 103 :: f 104 :: f 105 :: f 106 :: f 107 :: f 108 :: f 109 :: f 110 :: f 111 :: f 112 :: f 113 :: f 114 :: f 115 :: f 116 :: f 117 :: f 118 :: f 119 :: [])), []⟩ ∧ ∀ k, slot a k = f k := letters_ln a hs.size hs.defers
  rw [hf] at e8 e9
  rw [ea, e8, e9]
  have HS := Lib.hid hs
  have HF := Lib.hid hf
  have E8 := Lib.hid e8
  have E9 := Lib.hid e9
  clear hs ea hf hN hl h8 e8 h9 e9
  have c0 := hT.cell 0
  have c1 := hT.cell 1
  have c2 := hT.cell 2
  simp at c0 c1 c2
  have hfz := fun j => hT.frozen j
  have hlt := hT.lt
  clear hT
  conv => arg 2; whnf
  go_wp2_with fail
  refine HN.out _ ?_
  exact Sl.add (Sl.stay [0, 1, 4, 7, 8, 9, 10] HS.out HF.out (by kernel_rfl) rfl ⟨by kernel_rfl, by kernel_rfl, by kernel_rfl, by kernel_rfl, Eq.trans (by kernel_rfl) E8.out.symm, Eq.trans (by kernel_rfl) E9.out.symm, by kernel_rfl, trivial⟩ HL.out) (by kernel_rfl)
set_option maxHeartbeats 4000000 in
theorem ln_r10a (a : Act) (w : World) (N : Act → World → Prop) (Q : Exit → Act → World → Prop) (l : List (Nat × Value)) (hs : Sl 120 a l) (hl : (l.map Prod.fst).all (fun k => [0, 1, 4, 7, 8, 9, 10].contains k) = true)
    (wh : ByteArray) (h19 : (19 : Int) < (wh.size : Int)) (g : Nat) (v1 v2 : Value) (hT : Blk w g 48 #[.int .i64 4, v1, v2])  (h8 : l.lookup 8 = some (.pointer (some ⟨g, 0, none⟩))) (h9 : l.lookup 9 = some (.string wh))
    (hN : ∀ a', Sl 120 a' ((12, .bool true) :: l) → N a' (w)) : (r_ln 10).wp Tryd.prog (Exit.then N Q) a w := by
  have HN := Lib.hid hN
  have HL := Lib.hid hl
  have e8 := hs.look 8 h8
  have e9 := hs.look 9 h9
  obtain ⟨f, ea, hf⟩ : ∃ f : Nat → Value, a = ⟨(List.toArray (f 0 :: f 1 :: f 2 :: f 3 :: f 4 :: f 5 :: f 6 :: f 7 :: f 8 :: f 9 :: f 10 :: f 11 :: f 12 :: f 13 :: f 14 :: f 15 :: f 16 :: f 17 :: f 18 :: f 19 :: f 20 :: f 21 :: f 22 :: f 23 :: f 24 :: f 25 :: f 26 :: f 27 :: f 28 :: f 29 :: f 30 :: f 31 :: f 32 :: f 33 :: f 34 :: f 35 :: f 36 :: f 37 :: f 38 :: f 39 :: f 40 :: f 41 :: f 42 :: f 43 :: f 44 :: f 45 :: f 46 :: f 47 :: f 48 :: f 49 :: f 50 :: f 51 :: f 52 :: f 53 :: f 54 :: f 55 :: f 56 :: f 57 :: f 58 :: f 59 :: f 60 :: f 61 :: f 62 :: f 63 :: f 64 :: f 65 :: f 66 :: f 67 :: f 68 :: f 69 :: f 70 :: f 71 :: f 72 :: f 73 :: f 74 :: f 75 :: f 76 :: f 77 :: f 78 :: f 79 :: f 80 :: f 81 :: f 82 :: f 83 :: f 84 :: f 85 :: f 86 :: f 87 :: f 88 :: f 89 :: f 90 :: f 91 :: f 92 :: f 93 :: f 94 :: f 95 :: f 96 :: f 97 :: f 98 :: f 99 :: f 100 :: f 101 :: f 102 :: f 103 :: f 104 :: f 105 :: f 106 :: f 107 :: f 108 :: f 109 :: f 110 :: f 111 :: f 112 :: f 113 :: f 114 :: f 115 :: f 116 :: f 117 :: f 118 :: f 119 :: [])), []⟩ ∧ ∀ k, slot a k = f k := letters_ln a hs.size hs.defers
  rw [hf] at e8 e9
  rw [ea, e8, e9]
  have HS := Lib.hid hs
  have HF := Lib.hid hf
  have E8 := Lib.hid e8
  have E9 := Lib.hid e9
  clear hs ea hf hN hl h8 e8 h9 e9
  have c0 := hT.cell 0
  have c1 := hT.cell 1
  have c2 := hT.cell 2
  simp at c0 c1 c2
  have hfz := fun j => hT.frozen j
  have hlt := hT.lt
  clear hT
  conv => arg 2; whnf
  go_wp2_with fail
  refine HN.out _ ?_
  exact Sl.add (Sl.stay [0, 1, 4, 7, 8, 9, 10] HS.out HF.out (by kernel_rfl) rfl ⟨by kernel_rfl, by kernel_rfl, by kernel_rfl, by kernel_rfl, Eq.trans (by kernel_rfl) E8.out.symm, Eq.trans (by kernel_rfl) E9.out.symm, by kernel_rfl, trivial⟩ HL.out) (by kernel_rfl)
set_option maxHeartbeats 4000000 in
theorem ln_r10b (a : Act) (w : World) (N : Act → World → Prop) (Q : Exit → Act → World → Prop) (l : List (Nat × Value)) (hs : Sl 120 a l) (hl : (l.map Prod.fst).all (fun k => [0, 1, 4, 7, 8, 9, 10].contains k) = true)
    (wh : ByteArray) (b : Bool) (h19 : ¬ (19 : Int) < (wh.size : Int)) (h20 : ((wh.size : Int) == 19) = true) (hgt : (!Op.bytesLess wh.toList [57, 50, 50, 51, 51, 55, 50, 48, 51, 54, 56, 53, 52, 55, 55, 53, 56, 48, 55] && !(wh.toList == [57, 50, 50, 51, 51, 55, 50, 48, 51, 54, 56, 53, 52, 55, 55, 53, 56, 48, 55])) = b) (g : Nat) (v1 v2 : Value) (hT : Blk w g 48 #[.int .i64 4, v1, v2])  (h8 : l.lookup 8 = some (.pointer (some ⟨g, 0, none⟩))) (h9 : l.lookup 9 = some (.string wh))
    (hN : ∀ a', Sl 120 a' ((12, .bool b) :: l) → N a' (w)) : (r_ln 10).wp Tryd.prog (Exit.then N Q) a w := by
  have HN := Lib.hid hN
  have HL := Lib.hid hl
  have e8 := hs.look 8 h8
  have e9 := hs.look 9 h9
  obtain ⟨f, ea, hf⟩ : ∃ f : Nat → Value, a = ⟨(List.toArray (f 0 :: f 1 :: f 2 :: f 3 :: f 4 :: f 5 :: f 6 :: f 7 :: f 8 :: f 9 :: f 10 :: f 11 :: f 12 :: f 13 :: f 14 :: f 15 :: f 16 :: f 17 :: f 18 :: f 19 :: f 20 :: f 21 :: f 22 :: f 23 :: f 24 :: f 25 :: f 26 :: f 27 :: f 28 :: f 29 :: f 30 :: f 31 :: f 32 :: f 33 :: f 34 :: f 35 :: f 36 :: f 37 :: f 38 :: f 39 :: f 40 :: f 41 :: f 42 :: f 43 :: f 44 :: f 45 :: f 46 :: f 47 :: f 48 :: f 49 :: f 50 :: f 51 :: f 52 :: f 53 :: f 54 :: f 55 :: f 56 :: f 57 :: f 58 :: f 59 :: f 60 :: f 61 :: f 62 :: f 63 :: f 64 :: f 65 :: f 66 :: f 67 :: f 68 :: f 69 :: f 70 :: f 71 :: f 72 :: f 73 :: f 74 :: f 75 :: f 76 :: f 77 :: f 78 :: f 79 :: f 80 :: f 81 :: f 82 :: f 83 :: f 84 :: f 85 :: f 86 :: f 87 :: f 88 :: f 89 :: f 90 :: f 91 :: f 92 :: f 93 :: f 94 :: f 95 :: f 96 :: f 97 :: f 98 :: f 99 :: f 100 :: f 101 :: f 102 :: f 103 :: f 104 :: f 105 :: f 106 :: f 107 :: f 108 :: f 109 :: f 110 :: f 111 :: f 112 :: f 113 :: f 114 :: f 115 :: f 116 :: f 117 :: f 118 :: f 119 :: [])), []⟩ ∧ ∀ k, slot a k = f k := letters_ln a hs.size hs.defers
  rw [hf] at e8 e9
  rw [ea, e8, e9]
  have HS := Lib.hid hs
  have HF := Lib.hid hf
  have E8 := Lib.hid e8
  have E9 := Lib.hid e9
  clear hs ea hf hN hl h8 e8 h9 e9
  have HG := Lib.hid hgt
  clear hgt
  have c0 := hT.cell 0
  have c1 := hT.cell 1
  have c2 := hT.cell 2
  simp at c0 c1 c2
  have hfz := fun j => hT.frozen j
  have hlt := hT.lt
  clear hT
  conv => arg 2; whnf
  go_wp2_with fail
  refine HN.out _ ?_
  exact Sl.add (Sl.stay [0, 1, 4, 7, 8, 9, 10] HS.out HF.out (by kernel_rfl) rfl ⟨by kernel_rfl, by kernel_rfl, by kernel_rfl, by kernel_rfl, Eq.trans (by kernel_rfl) E8.out.symm, Eq.trans (by kernel_rfl) E9.out.symm, by kernel_rfl, trivial⟩ HL.out) (Eq.trans (b := .bool (!Op.bytesLess wh.toList [57, 50, 50, 51, 51, 55, 50, 48, 51, 54, 56, 53, 52, 55, 55, 53, 56, 48, 55] && !(wh.toList == [57, 50, 50, 51, 51, 55, 50, 48, 51, 54, 56, 53, 52, 55, 55, 53, 56, 48, 55]))) (by kernel_rfl) (by rw [HG.out]))
set_option maxHeartbeats 4000000 in
theorem ln_r10c (a : Act) (w : World) (N : Act → World → Prop) (Q : Exit → Act → World → Prop) (l : List (Nat × Value)) (hs : Sl 120 a l) (hl : (l.map Prod.fst).all (fun k => [0, 1, 4, 7, 8, 9, 10].contains k) = true)
    (wh : ByteArray) (h19 : ¬ (19 : Int) < (wh.size : Int)) (h20 : ((wh.size : Int) == 19) = false) (g : Nat) (v1 v2 : Value) (hT : Blk w g 48 #[.int .i64 4, v1, v2])  (h8 : l.lookup 8 = some (.pointer (some ⟨g, 0, none⟩))) (h9 : l.lookup 9 = some (.string wh))
    (hN : ∀ a', Sl 120 a' ((12, .bool false) :: l) → N a' (w)) : (r_ln 10).wp Tryd.prog (Exit.then N Q) a w := by
  have HN := Lib.hid hN
  have HL := Lib.hid hl
  have e8 := hs.look 8 h8
  have e9 := hs.look 9 h9
  obtain ⟨f, ea, hf⟩ : ∃ f : Nat → Value, a = ⟨(List.toArray (f 0 :: f 1 :: f 2 :: f 3 :: f 4 :: f 5 :: f 6 :: f 7 :: f 8 :: f 9 :: f 10 :: f 11 :: f 12 :: f 13 :: f 14 :: f 15 :: f 16 :: f 17 :: f 18 :: f 19 :: f 20 :: f 21 :: f 22 :: f 23 :: f 24 :: f 25 :: f 26 :: f 27 :: f 28 :: f 29 :: f 30 :: f 31 :: f 32 :: f 33 :: f 34 :: f 35 :: f 36 :: f 37 :: f 38 :: f 39 :: f 40 :: f 41 :: f 42 :: f 43 :: f 44 :: f 45 :: f 46 :: f 47 :: f 48 :: f 49 :: f 50 :: f 51 :: f 52 :: f 53 :: f 54 :: f 55 :: f 56 :: f 57 :: f 58 :: f 59 :: f 60 :: f 61 :: f 62 :: f 63 :: f 64 :: f 65 :: f 66 :: f 67 :: f 68 :: f 69 :: f 70 :: f 71 :: f 72 :: f 73 :: f 74 :: f 75 :: f 76 :: f 77 :: f 78 :: f 79 :: f 80 :: f 81 :: f 82 :: f 83 :: f 84 :: f 85 :: f 86 :: f 87 :: f 88 :: f 89 :: f 90 :: f 91 :: f 92 :: f 93 :: f 94 :: f 95 :: f 96 :: f 97 :: f 98 :: f 99 :: f 100 :: f 101 :: f 102 :: f 103 :: f 104 :: f 105 :: f 106 :: f 107 :: f 108 :: f 109 :: f 110 :: f 111 :: f 112 :: f 113 :: f 114 :: f 115 :: f 116 :: f 117 :: f 118 :: f 119 :: [])), []⟩ ∧ ∀ k, slot a k = f k := letters_ln a hs.size hs.defers
  rw [hf] at e8 e9
  rw [ea, e8, e9]
  have HS := Lib.hid hs
  have HF := Lib.hid hf
  have E8 := Lib.hid e8
  have E9 := Lib.hid e9
  clear hs ea hf hN hl h8 e8 h9 e9
  have c0 := hT.cell 0
  have c1 := hT.cell 1
  have c2 := hT.cell 2
  simp at c0 c1 c2
  have hfz := fun j => hT.frozen j
  have hlt := hT.lt
  clear hT
  conv => arg 2; whnf
  go_wp2_with fail
  refine HN.out _ ?_
  exact Sl.add (Sl.stay [0, 1, 4, 7, 8, 9, 10] HS.out HF.out (by kernel_rfl) rfl ⟨by kernel_rfl, by kernel_rfl, by kernel_rfl, by kernel_rfl, Eq.trans (by kernel_rfl) E8.out.symm, Eq.trans (by kernel_rfl) E9.out.symm, by kernel_rfl, trivial⟩ HL.out) (by kernel_rfl)
set_option maxHeartbeats 4000000 in
theorem ln_r11o (a : Act) (w : World) (N : Act → World → Prop) (Q : Exit → Act → World → Prop) (l : List (Nat × Value)) (hs : Sl 120 a l) (hl : (l.map Prod.fst).all (fun k => [0, 1, 4, 7, 8].contains k) = true)
     (h12 : slot a 12 = .bool true)
    (hN : ∀ a', Sl 120 a' ((112, .bool true) :: l) → N a' (w)) : (r_ln 11).wp Tryd.prog (Exit.then N Q) a w := by
  have HN := Lib.hid hN
  have HL := Lib.hid hl
  have e12 := h12
  obtain ⟨f, ea, hf⟩ : ∃ f : Nat → Value, a = ⟨(List.toArray (f 0 :: f 1 :: f 2 :: f 3 :: f 4 :: f 5 :: f 6 :: f 7 :: f 8 :: f 9 :: f 10 :: f 11 :: f 12 :: f 13 :: f 14 :: f 15 :: f 16 :: f 17 :: f 18 :: f 19 :: f 20 :: f 21 :: f 22 :: f 23 :: f 24 :: f 25 :: f 26 :: f 27 :: f 28 :: f 29 :: f 30 :: f 31 :: f 32 :: f 33 :: f 34 :: f 35 :: f 36 :: f 37 :: f 38 :: f 39 :: f 40 :: f 41 :: f 42 :: f 43 :: f 44 :: f 45 :: f 46 :: f 47 :: f 48 :: f 49 :: f 50 :: f 51 :: f 52 :: f 53 :: f 54 :: f 55 :: f 56 :: f 57 :: f 58 :: f 59 :: f 60 :: f 61 :: f 62 :: f 63 :: f 64 :: f 65 :: f 66 :: f 67 :: f 68 :: f 69 :: f 70 :: f 71 :: f 72 :: f 73 :: f 74 :: f 75 :: f 76 :: f 77 :: f 78 :: f 79 :: f 80 :: f 81 :: f 82 :: f 83 :: f 84 :: f 85 :: f 86 :: f 87 :: f 88 :: f 89 :: f 90 :: f 91 :: f 92 :: f 93 :: f 94 :: f 95 :: f 96 :: f 97 :: f 98 :: f 99 :: f 100 :: f 101 :: f 102 :: f 103 :: f 104 :: f 105 :: f 106 :: f 107 :: f 108 :: f 109 :: f 110 :: f 111 :: f 112 :: f 113 :: f 114 :: f 115 :: f 116 :: f 117 :: f 118 :: f 119 :: [])), []⟩ ∧ ∀ k, slot a k = f k := letters_ln a hs.size hs.defers
  rw [hf] at e12
  rw [ea, e12]
  have HS := Lib.hid hs
  have HF := Lib.hid hf
  have E12 := Lib.hid e12
  clear hs ea hf hN hl h12 e12
  conv => arg 2; whnf
  go_wp2_with fail
  refine HN.out _ ?_
  exact Sl.add (Sl.stay [0, 1, 4, 7, 8] HS.out HF.out (by kernel_rfl) rfl ⟨by kernel_rfl, by kernel_rfl, by kernel_rfl, by kernel_rfl, by kernel_rfl, trivial⟩ HL.out) (by kernel_rfl)
set_option maxHeartbeats 4000000 in
theorem ln_r11r (a : Act) (w : World) (N : Act → World → Prop) (Q : Exit → Act → World → Prop) (l : List (Nat × Value)) (hs : Sl 120 a l) (hl : (l.map Prod.fst).all (fun k => [0, 1, 4, 7, 8].contains k) = true)
    (s : ByteArray) (a0 : Int) (n : Int) (wh pt q : ByteArray) (k : Int) (b1 : 0 ≤ a0) (b2 : 0 ≤ n) (b3 : a0 + n ≤ 140737488355328) (hq : ∀ w, (Instr.slice 9 (.string s) (some (.int .i64 (a0 + n))) none none).run Tryd.prog w = .ok (.string q) w) (HC : ∀ w, Calls Tryd.prog 53 #[.string q, .bool true] w fun e w' => e = .returned (.int .i64 k) ∧ Below w.heap.size w w') (hk : 0 < k) (g : Nat) (v1 v2 : Value) (hT : Blk w g 48 #[.int .i64 4, v1, v2])  (h0 : l.lookup 0 = some (.string s)) (h1 : l.lookup 1 = some (.int .i64 a0)) (h7 : l.lookup 7 = some (.int .i64 n)) (h8 : l.lookup 8 = some (.pointer (some ⟨g, 0, none⟩))) (h9 : slot a 9 = .string wh) (h10 : slot a 10 = .string pt) (h12 : slot a 12 = .bool false)
    (hN : ∀ a' w', Sl 120 a' ((112, .bool true) :: l) → Below w.heap.size w w' → N a' w') : (r_ln 11).wp Tryd.prog (Exit.then N Q) a w := by
  have HN := Lib.hid hN
  have HL := Lib.hid hl
  have e0 := hs.look 0 h0
  have e1 := hs.look 1 h1
  have e7 := hs.look 7 h7
  have e8 := hs.look 8 h8
  have e9 := h9
  have e10 := h10
  have e12 := h12
  obtain ⟨f, ea, hf⟩ : ∃ f : Nat → Value, a = ⟨(List.toArray (f 0 :: f 1 :: f 2 :: f 3 :: f 4 :: f 5 :: f 6 :: f 7 :: f 8 :: f 9 :: f 10 :: f 11 :: f 12 :: f 13 :: f 14 :: f 15 :: f 16 :: f 17 :: f 18 :: f 19 :: f 20 :: f 21 :: f 22 :: f 23 :: f 24 :: f 25 :: f 26 :: f 27 :: f 28 :: f 29 :: f 30 :: f 31 :: f 32 :: f 33 :: f 34 :: f 35 :: f 36 :: f 37 :: f 38 :: f 39 :: f 40 :: f 41 :: f 42 :: f 43 :: f 44 :: f 45 :: f 46 :: f 47 :: f 48 :: f 49 :: f 50 :: f 51 :: f 52 :: f 53 :: f 54 :: f 55 :: f 56 :: f 57 :: f 58 :: f 59 :: f 60 :: f 61 :: f 62 :: f 63 :: f 64 :: f 65 :: f 66 :: f 67 :: f 68 :: f 69 :: f 70 :: f 71 :: f 72 :: f 73 :: f 74 :: f 75 :: f 76 :: f 77 :: f 78 :: f 79 :: f 80 :: f 81 :: f 82 :: f 83 :: f 84 :: f 85 :: f 86 :: f 87 :: f 88 :: f 89 :: f 90 :: f 91 :: f 92 :: f 93 :: f 94 :: f 95 :: f 96 :: f 97 :: f 98 :: f 99 :: f 100 :: f 101 :: f 102 :: f 103 :: f 104 :: f 105 :: f 106 :: f 107 :: f 108 :: f 109 :: f 110 :: f 111 :: f 112 :: f 113 :: f 114 :: f 115 :: f 116 :: f 117 :: f 118 :: f 119 :: [])), []⟩ ∧ ∀ k, slot a k = f k := letters_ln a hs.size hs.defers
  rw [hf] at e0 e1 e7 e8 e9 e10 e12
  rw [ea, e0, e1, e7, e8, e9, e10, e12]
  have HS := Lib.hid hs
  have HF := Lib.hid hf
  have E0 := Lib.hid e0
  have E1 := Lib.hid e1
  have E7 := Lib.hid e7
  have E8 := Lib.hid e8
  have E9 := Lib.hid e9
  have E10 := Lib.hid e10
  have E12 := Lib.hid e12
  clear hs ea hf hN hl h0 e0 h1 e1 h7 e7 h8 e8 h9 e9 h10 e10 h12 e12
  have HC := Lib.hid HC
  have c0 := hT.cell 0
  have c1 := hT.cell 1
  have c2 := hT.cell 2
  simp at c0 c1 c2
  have hfz := fun j => hT.frozen j
  have hlt := hT.lt
  clear hT
  conv => arg 2; whnf
  go_wp2_with fail
  refine (HC.out _).mono ?_
  rintro e w' ⟨rfl, hb⟩
  have d0 := (hb.cell (p := ⟨g, 0, none⟩) hlt).trans c0
  clear c0 c1 c2
  go_wp2_with fail
  refine HN.out _ _ ?_ hb
  exact Sl.add (Sl.stay [0, 1, 4, 7, 8] HS.out HF.out (by kernel_rfl) rfl ⟨Eq.trans (by kernel_rfl) E0.out.symm, Eq.trans (by kernel_rfl) E1.out.symm, by kernel_rfl, Eq.trans (by kernel_rfl) E7.out.symm, Eq.trans (by kernel_rfl) E8.out.symm, trivial⟩ HL.out) (by kernel_rfl)
set_option maxHeartbeats 4000000 in
theorem ln_r11r5 (a : Act) (w : World) (N : Act → World → Prop) (Q : Exit → Act → World → Prop) (l : List (Nat × Value)) (hs : Sl 120 a l) (hl : (l.map Prod.fst).all (fun k => [0, 1, 4, 7, 8].contains k) = true)
    (s : ByteArray) (a0 : Int) (n : Int) (wh pt q : ByteArray) (k : Int) (b1 : 0 ≤ a0) (b2 : 0 ≤ n) (b3 : a0 + n ≤ 140737488355328) (hq : ∀ w, (Instr.slice 9 (.string s) (some (.int .i64 (a0 + n))) none none).run Tryd.prog w = .ok (.string q) w) (HC : ∀ w, Calls Tryd.prog 53 #[.string q, .bool true] w fun e w' => e = .returned (.int .i64 k) ∧ Below w.heap.size w w') (hk : 0 < k) (g : Nat) (v1 v2 : Value) (hT : Blk w g 48 #[.int .i64 5, v1, v2])  (h0 : l.lookup 0 = some (.string s)) (h1 : l.lookup 1 = some (.int .i64 a0)) (h7 : l.lookup 7 = some (.int .i64 n)) (h8 : l.lookup 8 = some (.pointer (some ⟨g, 0, none⟩))) (h9 : slot a 9 = .string wh) (h10 : slot a 10 = .string pt) (h12 : slot a 12 = .bool false)
    (hN : ∀ a' w', Sl 120 a' ((112, .bool true) :: l) → Below w.heap.size w w' → N a' w') : (r_ln 11).wp Tryd.prog (Exit.then N Q) a w := by
  have HN := Lib.hid hN
  have HL := Lib.hid hl
  have e0 := hs.look 0 h0
  have e1 := hs.look 1 h1
  have e7 := hs.look 7 h7
  have e8 := hs.look 8 h8
  have e9 := h9
  have e10 := h10
  have e12 := h12
  obtain ⟨f, ea, hf⟩ : ∃ f : Nat → Value, a = ⟨(List.toArray (f 0 :: f 1 :: f 2 :: f 3 :: f 4 :: f 5 :: f 6 :: f 7 :: f 8 :: f 9 :: f 10 :: f 11 :: f 12 :: f 13 :: f 14 :: f 15 :: f 16 :: f 17 :: f 18 :: f 19 :: f 20 :: f 21 :: f 22 :: f 23 :: f 24 :: f 25 :: f 26 :: f 27 :: f 28 :: f 29 :: f 30 :: f 31 :: f 32 :: f 33 :: f 34 :: f 35 :: f 36 :: f 37 :: f 38 :: f 39 :: f 40 :: f 41 :: f 42 :: f 43 :: f 44 :: f 45 :: f 46 :: f 47 :: f 48 :: f 49 :: f 50 :: f 51 :: f 52 :: f 53 :: f 54 :: f 55 :: f 56 :: f 57 :: f 58 :: f 59 :: f 60 :: f 61 :: f 62 :: f 63 :: f 64 :: f 65 :: f 66 :: f 67 :: f 68 :: f 69 :: f 70 :: f 71 :: f 72 :: f 73 :: f 74 :: f 75 :: f 76 :: f 77 :: f 78 :: f 79 :: f 80 :: f 81 :: f 82 :: f 83 :: f 84 :: f 85 :: f 86 :: f 87 :: f 88 :: f 89 :: f 90 :: f 91 :: f 92 :: f 93 :: f 94 :: f 95 :: f 96 :: f 97 :: f 98 :: f 99 :: f 100 :: f 101 :: f 102 :: f 103 :: f 104 :: f 105 :: f 106 :: f 107 :: f 108 :: f 109 :: f 110 :: f 111 :: f 112 :: f 113 :: f 114 :: f 115 :: f 116 :: f 117 :: f 118 :: f 119 :: [])), []⟩ ∧ ∀ k, slot a k = f k := letters_ln a hs.size hs.defers
  rw [hf] at e0 e1 e7 e8 e9 e10 e12
  rw [ea, e0, e1, e7, e8, e9, e10, e12]
  have HS := Lib.hid hs
  have HF := Lib.hid hf
  have E0 := Lib.hid e0
  have E1 := Lib.hid e1
  have E7 := Lib.hid e7
  have E8 := Lib.hid e8
  have E9 := Lib.hid e9
  have E10 := Lib.hid e10
  have E12 := Lib.hid e12
  clear hs ea hf hN hl h0 e0 h1 e1 h7 e7 h8 e8 h9 e9 h10 e10 h12 e12
  have HC := Lib.hid HC
  have c0 := hT.cell 0
  have c1 := hT.cell 1
  have c2 := hT.cell 2
  simp at c0 c1 c2
  have hfz := fun j => hT.frozen j
  have hlt := hT.lt
  clear hT
  conv => arg 2; whnf
  go_wp2_with fail
  refine (HC.out _).mono ?_
  rintro e w' ⟨rfl, hb⟩
  have d0 := (hb.cell (p := ⟨g, 0, none⟩) hlt).trans c0
  clear c0 c1 c2
  go_wp2_with fail
  refine HN.out _ _ ?_ hb
  exact Sl.add (Sl.stay [0, 1, 4, 7, 8] HS.out HF.out (by kernel_rfl) rfl ⟨Eq.trans (by kernel_rfl) E0.out.symm, Eq.trans (by kernel_rfl) E1.out.symm, by kernel_rfl, Eq.trans (by kernel_rfl) E7.out.symm, Eq.trans (by kernel_rfl) E8.out.symm, trivial⟩ HL.out) (by kernel_rfl)
set_option maxHeartbeats 4000000 in
theorem ln_r11z (a : Act) (w : World) (N : Act → World → Prop) (Q : Exit → Act → World → Prop) (l : List (Nat × Value)) (hs : Sl 120 a l) (hl : (l.map Prod.fst).all (fun k => [0, 1, 4, 7, 8].contains k) = true)
    (s : ByteArray) (a0 : Int) (n : Int) (wh pt q : ByteArray) (k : Int) (b1 : 0 ≤ a0) (b2 : 0 ≤ n) (b3 : a0 + n ≤ 140737488355328) (hq : ∀ w, (Instr.slice 9 (.string s) (some (.int .i64 (a0 + n))) none none).run Tryd.prog w = .ok (.string q) w) (HC : ∀ w, Calls Tryd.prog 53 #[.string q, .bool true] w fun e w' => e = .returned (.int .i64 k) ∧ Below w.heap.size w w') (hk : decide ((0 : Int) < k) = false) (hw : (1 : Int) < (wh.size : Int)) (hi0 : ∀ w, (Instr.index 9 (.string wh) (.int .i64 0)).run Tryd.prog w = .ok (.int .u8 48) w) (g : Nat) (v1 v2 : Value) (hT : Blk w g 48 #[.int .i64 4, v1, v2])  (h0 : l.lookup 0 = some (.string s)) (h1 : l.lookup 1 = some (.int .i64 a0)) (h7 : l.lookup 7 = some (.int .i64 n)) (h8 : l.lookup 8 = some (.pointer (some ⟨g, 0, none⟩))) (h9 : slot a 9 = .string wh) (h10 : slot a 10 = .string pt) (h12 : slot a 12 = .bool false)
    (hN : ∀ a' w', Sl 120 a' ((112, .bool true) :: l) → Below w.heap.size w w' → N a' w') : (r_ln 11).wp Tryd.prog (Exit.then N Q) a w := by
  have HN := Lib.hid hN
  have HL := Lib.hid hl
  have e0 := hs.look 0 h0
  have e1 := hs.look 1 h1
  have e7 := hs.look 7 h7
  have e8 := hs.look 8 h8
  have e9 := h9
  have e10 := h10
  have e12 := h12
  obtain ⟨f, ea, hf⟩ : ∃ f : Nat → Value, a = ⟨(List.toArray (f 0 :: f 1 :: f 2 :: f 3 :: f 4 :: f 5 :: f 6 :: f 7 :: f 8 :: f 9 :: f 10 :: f 11 :: f 12 :: f 13 :: f 14 :: f 15 :: f 16 :: f 17 :: f 18 :: f 19 :: f 20 :: f 21 :: f 22 :: f 23 :: f 24 :: f 25 :: f 26 :: f 27 :: f 28 :: f 29 :: f 30 :: f 31 :: f 32 :: f 33 :: f 34 :: f 35 :: f 36 :: f 37 :: f 38 :: f 39 :: f 40 :: f 41 :: f 42 :: f 43 :: f 44 :: f 45 :: f 46 :: f 47 :: f 48 :: f 49 :: f 50 :: f 51 :: f 52 :: f 53 :: f 54 :: f 55 :: f 56 :: f 57 :: f 58 :: f 59 :: f 60 :: f 61 :: f 62 :: f 63 :: f 64 :: f 65 :: f 66 :: f 67 :: f 68 :: f 69 :: f 70 :: f 71 :: f 72 :: f 73 :: f 74 :: f 75 :: f 76 :: f 77 :: f 78 :: f 79 :: f 80 :: f 81 :: f 82 :: f 83 :: f 84 :: f 85 :: f 86 :: f 87 :: f 88 :: f 89 :: f 90 :: f 91 :: f 92 :: f 93 :: f 94 :: f 95 :: f 96 :: f 97 :: f 98 :: f 99 :: f 100 :: f 101 :: f 102 :: f 103 :: f 104 :: f 105 :: f 106 :: f 107 :: f 108 :: f 109 :: f 110 :: f 111 :: f 112 :: f 113 :: f 114 :: f 115 :: f 116 :: f 117 :: f 118 :: f 119 :: [])), []⟩ ∧ ∀ k, slot a k = f k := letters_ln a hs.size hs.defers
  rw [hf] at e0 e1 e7 e8 e9 e10 e12
  rw [ea, e0, e1, e7, e8, e9, e10, e12]
  have HS := Lib.hid hs
  have HF := Lib.hid hf
  have E0 := Lib.hid e0
  have E1 := Lib.hid e1
  have E7 := Lib.hid e7
  have E8 := Lib.hid e8
  have E9 := Lib.hid e9
  have E10 := Lib.hid e10
  have E12 := Lib.hid e12
  clear hs ea hf hN hl h0 e0 h1 e1 h7 e7 h8 e8 h9 e9 h10 e10 h12 e12
  have HC := Lib.hid HC
  have c0 := hT.cell 0
  have c1 := hT.cell 1
  have c2 := hT.cell 2
  simp at c0 c1 c2
  have hfz := fun j => hT.frozen j
  have hlt := hT.lt
  clear hT
  conv => arg 2; whnf
  go_wp2_with fail
  refine (HC.out _).mono ?_
  rintro e w' ⟨rfl, hb⟩
  have d0 := (hb.cell (p := ⟨g, 0, none⟩) hlt).trans c0
  clear c0 c1 c2
  go_wp2_with fail
  refine HN.out _ _ ?_ hb
  exact Sl.add (Sl.stay [0, 1, 4, 7, 8] HS.out HF.out (by kernel_rfl) rfl ⟨Eq.trans (by kernel_rfl) E0.out.symm, Eq.trans (by kernel_rfl) E1.out.symm, by kernel_rfl, Eq.trans (by kernel_rfl) E7.out.symm, Eq.trans (by kernel_rfl) E8.out.symm, trivial⟩ HL.out) (by kernel_rfl)
set_option maxHeartbeats 4000000 in
theorem ln_r11z5 (a : Act) (w : World) (N : Act → World → Prop) (Q : Exit → Act → World → Prop) (l : List (Nat × Value)) (hs : Sl 120 a l) (hl : (l.map Prod.fst).all (fun k => [0, 1, 4, 7, 8].contains k) = true)
    (s : ByteArray) (a0 : Int) (n : Int) (wh pt q : ByteArray) (k : Int) (b1 : 0 ≤ a0) (b2 : 0 ≤ n) (b3 : a0 + n ≤ 140737488355328) (hq : ∀ w, (Instr.slice 9 (.string s) (some (.int .i64 (a0 + n))) none none).run Tryd.prog w = .ok (.string q) w) (HC : ∀ w, Calls Tryd.prog 53 #[.string q, .bool true] w fun e w' => e = .returned (.int .i64 k) ∧ Below w.heap.size w w') (hk : decide ((0 : Int) < k) = false) (hw : (1 : Int) < (wh.size : Int)) (hi0 : ∀ w, (Instr.index 9 (.string wh) (.int .i64 0)).run Tryd.prog w = .ok (.int .u8 48) w) (g : Nat) (v1 v2 : Value) (hT : Blk w g 48 #[.int .i64 5, v1, v2])  (h0 : l.lookup 0 = some (.string s)) (h1 : l.lookup 1 = some (.int .i64 a0)) (h7 : l.lookup 7 = some (.int .i64 n)) (h8 : l.lookup 8 = some (.pointer (some ⟨g, 0, none⟩))) (h9 : slot a 9 = .string wh) (h10 : slot a 10 = .string pt) (h12 : slot a 12 = .bool false)
    (hN : ∀ a' w', Sl 120 a' ((112, .bool true) :: l) → Below w.heap.size w w' → N a' w') : (r_ln 11).wp Tryd.prog (Exit.then N Q) a w := by
  have HN := Lib.hid hN
  have HL := Lib.hid hl
  have e0 := hs.look 0 h0
  have e1 := hs.look 1 h1
  have e7 := hs.look 7 h7
  have e8 := hs.look 8 h8
  have e9 := h9
  have e10 := h10
  have e12 := h12
  obtain ⟨f, ea, hf⟩ : ∃ f : Nat → Value, a = ⟨(List.toArray (f 0 :: f 1 :: f 2 :: f 3 :: f 4 :: f 5 :: f 6 :: f 7 :: f 8 :: f 9 :: f 10 :: f 11 :: f 12 :: f 13 :: f 14 :: f 15 :: f 16 :: f 17 :: f 18 :: f 19 :: f 20 :: f 21 :: f 22 :: f 23 :: f 24 :: f 25 :: f 26 :: f 27 :: f 28 :: f 29 :: f 30 :: f 31 :: f 32 :: f 33 :: f 34 :: f 35 :: f 36 :: f 37 :: f 38 :: f 39 :: f 40 :: f 41 :: f 42 :: f 43 :: f 44 :: f 45 :: f 46 :: f 47 :: f 48 :: f 49 :: f 50 :: f 51 :: f 52 :: f 53 :: f 54 :: f 55 :: f 56 :: f 57 :: f 58 :: f 59 :: f 60 :: f 61 :: f 62 :: f 63 :: f 64 :: f 65 :: f 66 :: f 67 :: f 68 :: f 69 :: f 70 :: f 71 :: f 72 :: f 73 :: f 74 :: f 75 :: f 76 :: f 77 :: f 78 :: f 79 :: f 80 :: f 81 :: f 82 :: f 83 :: f 84 :: f 85 :: f 86 :: f 87 :: f 88 :: f 89 :: f 90 :: f 91 :: f 92 :: f 93 :: f 94 :: f 95 :: f 96 :: f 97 :: f 98 :: f 99 :: f 100 :: f 101 :: f 102 :: f 103 :: f 104 :: f 105 :: f 106 :: f 107 :: f 108 :: f 109 :: f 110 :: f 111 :: f 112 :: f 113 :: f 114 :: f 115 :: f 116 :: f 117 :: f 118 :: f 119 :: [])), []⟩ ∧ ∀ k, slot a k = f k := letters_ln a hs.size hs.defers
  rw [hf] at e0 e1 e7 e8 e9 e10 e12
  rw [ea, e0, e1, e7, e8, e9, e10, e12]
  have HS := Lib.hid hs
  have HF := Lib.hid hf
  have E0 := Lib.hid e0
  have E1 := Lib.hid e1
  have E7 := Lib.hid e7
  have E8 := Lib.hid e8
  have E9 := Lib.hid e9
  have E10 := Lib.hid e10
  have E12 := Lib.hid e12
  clear hs ea hf hN hl h0 e0 h1 e1 h7 e7 h8 e8 h9 e9 h10 e10 h12 e12
  have HC := Lib.hid HC
  have c0 := hT.cell 0
  have c1 := hT.cell 1
  have c2 := hT.cell 2
  simp at c0 c1 c2
  have hfz := fun j => hT.frozen j
  have hlt := hT.lt
  clear hT
  conv => arg 2; whnf
  go_wp2_with fail
  refine (HC.out _).mono ?_
  rintro e w' ⟨rfl, hb⟩
  have d0 := (hb.cell (p := ⟨g, 0, none⟩) hlt).trans c0
  clear c0 c1 c2
  go_wp2_with fail
  refine HN.out _ _ ?_ hb
  exact Sl.add (Sl.stay [0, 1, 4, 7, 8] HS.out HF.out (by kernel_rfl) rfl ⟨Eq.trans (by kernel_rfl) E0.out.symm, Eq.trans (by kernel_rfl) E1.out.symm, by kernel_rfl, Eq.trans (by kernel_rfl) E7.out.symm, Eq.trans (by kernel_rfl) E8.out.symm, trivial⟩ HL.out) (by kernel_rfl)
set_option maxHeartbeats 4000000 in
theorem ln_r11s (a : Act) (w : World) (N : Act → World → Prop) (Q : Exit → Act → World → Prop) (l : List (Nat × Value)) (hs : Sl 120 a l) (hl : (l.map Prod.fst).all (fun k => [0, 1, 4, 7, 8].contains k) = true)
    (s : ByteArray) (a0 : Int) (n : Int) (wh pt q : ByteArray) (k : Int) (b1 : 0 ≤ a0) (b2 : 0 ≤ n) (b3 : a0 + n ≤ 140737488355328) (hq : ∀ w, (Instr.slice 9 (.string s) (some (.int .i64 (a0 + n))) none none).run Tryd.prog w = .ok (.string q) w) (HC : ∀ w, Calls Tryd.prog 53 #[.string q, .bool true] w fun e w' => e = .returned (.int .i64 k) ∧ Below w.heap.size w w') (hk : decide ((0 : Int) < k) = false) (hw : decide ((1 : Int) < (wh.size : Int)) = false)  (g : Nat) (v1 v2 : Value) (hT : Blk w g 48 #[.int .i64 4, v1, v2])  (h0 : l.lookup 0 = some (.string s)) (h1 : l.lookup 1 = some (.int .i64 a0)) (h7 : l.lookup 7 = some (.int .i64 n)) (h8 : l.lookup 8 = some (.pointer (some ⟨g, 0, none⟩))) (h9 : slot a 9 = .string wh) (h10 : slot a 10 = .string pt) (h12 : slot a 12 = .bool false)
    (hN : ∀ a' w', Sl 120 a' ((112, .bool false) :: l) → Below w.heap.size w w' → N a' w') : (r_ln 11).wp Tryd.prog (Exit.then N Q) a w := by
  have HN := Lib.hid hN
  have HL := Lib.hid hl
  have e0 := hs.look 0 h0
  have e1 := hs.look 1 h1
  have e7 := hs.look 7 h7
  have e8 := hs.look 8 h8
  have e9 := h9
  have e10 := h10
  have e12 := h12
  obtain ⟨f, ea, hf⟩ : ∃ f : Nat → Value, a = ⟨(List.toArray (f 0 :: f 1 :: f 2 :: f 3 :: f 4 :: f 5 :: f 6 :: f 7 :: f 8 :: f 9 :: f 10 :: f 11 :: f 12 :: f 13 :: f 14 :: f 15 :: f 16 :: f 17 :: f 18 :: f 19 :: f 20 :: f 21 :: f 22 :: f 23 :: f 24 :: f 25 :: f 26 :: f 27 :: f 28 :: f 29 :: f 30 :: f 31 :: f 32 :: f 33 :: f 34 :: f 35 :: f 36 :: f 37 :: f 38 :: f 39 :: f 40 :: f 41 :: f 42 :: f 43 :: f 44 :: f 45 :: f 46 :: f 47 :: f 48 :: f 49 :: f 50 :: f 51 :: f 52 :: f 53 :: f 54 :: f 55 :: f 56 :: f 57 :: f 58 :: f 59 :: f 60 :: f 61 :: f 62 :: f 63 :: f 64 :: f 65 :: f 66 :: f 67 :: f 68 :: f 69 :: f 70 :: f 71 :: f 72 :: f 73 :: f 74 :: f 75 :: f 76 :: f 77 :: f 78 :: f 79 :: f 80 :: f 81 :: f 82 :: f 83 :: f 84 :: f 85 :: f 86 :: f 87 :: f 88 :: f 89 :: f 90 :: f 91 :: f 92 :: f 93 :: f 94 :: f 95 :: f 96 :: f 97 :: f 98 :: f 99 :: f 100 :: f 101 :: f 102 :: f 103 :: f 104 :: f 105 :: f 106 :: f 107 :: f 108 :: f 109 :: f 110 :: f 111 :: f 112 :: f 113 :: f 114 :: f 115 :: f 116 :: f 117 :: f 118 :: f 119 :: [])), []⟩ ∧ ∀ k, slot a k = f k := letters_ln a hs.size hs.defers
  rw [hf] at e0 e1 e7 e8 e9 e10 e12
  rw [ea, e0, e1, e7, e8, e9, e10, e12]
  have HS := Lib.hid hs
  have HF := Lib.hid hf
  have E0 := Lib.hid e0
  have E1 := Lib.hid e1
  have E7 := Lib.hid e7
  have E8 := Lib.hid e8
  have E9 := Lib.hid e9
  have E10 := Lib.hid e10
  have E12 := Lib.hid e12
  clear hs ea hf hN hl h0 e0 h1 e1 h7 e7 h8 e8 h9 e9 h10 e10 h12 e12
  have HC := Lib.hid HC
  have c0 := hT.cell 0
  have c1 := hT.cell 1
  have c2 := hT.cell 2
  simp at c0 c1 c2
  have hfz := fun j => hT.frozen j
  have hlt := hT.lt
  clear hT
  conv => arg 2; whnf
  go_wp2_with fail
  refine (HC.out _).mono ?_
  rintro e w' ⟨rfl, hb⟩
  have d0 := (hb.cell (p := ⟨g, 0, none⟩) hlt).trans c0
  clear c0 c1 c2
  go_wp2_with fail
  refine HN.out _ _ ?_ hb
  exact Sl.add (Sl.stay [0, 1, 4, 7, 8] HS.out HF.out (by kernel_rfl) rfl ⟨Eq.trans (by kernel_rfl) E0.out.symm, Eq.trans (by kernel_rfl) E1.out.symm, by kernel_rfl, Eq.trans (by kernel_rfl) E7.out.symm, Eq.trans (by kernel_rfl) E8.out.symm, trivial⟩ HL.out) (by kernel_rfl)
set_option maxHeartbeats 4000000 in
theorem ln_r11s5T (a : Act) (w : World) (N : Act → World → Prop) (Q : Exit → Act → World → Prop) (l : List (Nat × Value)) (hs : Sl 120 a l) (hl : (l.map Prod.fst).all (fun k => [0, 1, 4, 7, 8].contains k) = true)
    (s : ByteArray) (a0 : Int) (n : Int) (wh pt q : ByteArray) (k : Int) (b1 : 0 ≤ a0) (b2 : 0 ≤ n) (b3 : a0 + n ≤ 140737488355328) (hq : ∀ w, (Instr.slice 9 (.string s) (some (.int .i64 (a0 + n))) none none).run Tryd.prog w = .ok (.string q) w) (HC : ∀ w, Calls Tryd.prog 53 #[.string q, .bool true] w fun e w' => e = .returned (.int .i64 k) ∧ Below w.heap.size w w') (hk : decide ((0 : Int) < k) = false) (hw : decide ((1 : Int) < (wh.size : Int)) = false) (m0 : (wh.size : Int) + (pt.size : Int) ≤ 140737488355328) (hm : (15 : Int) < (wh.size : Int) + (pt.size : Int))  (g : Nat) (v1 v2 : Value) (hT : Blk w g 48 #[.int .i64 5, v1, v2])  (h0 : l.lookup 0 = some (.string s)) (h1 : l.lookup 1 = some (.int .i64 a0)) (h7 : l.lookup 7 = some (.int .i64 n)) (h8 : l.lookup 8 = some (.pointer (some ⟨g, 0, none⟩))) (h9 : slot a 9 = .string wh) (h10 : slot a 10 = .string pt) (h12 : slot a 12 = .bool false)
    (hN : ∀ a' w', Sl 120 a' ((112, .bool true) :: l) → Below w.heap.size w w' → N a' w') : (r_ln 11).wp Tryd.prog (Exit.then N Q) a w := by
  have HN := Lib.hid hN
  have HL := Lib.hid hl
  have e0 := hs.look 0 h0
  have e1 := hs.look 1 h1
  have e7 := hs.look 7 h7
  have e8 := hs.look 8 h8
  have e9 := h9
  have e10 := h10
  have e12 := h12
  obtain ⟨f, ea, hf⟩ : ∃ f : Nat → Value, a = ⟨(List.toArray (f 0 :: f 1 :: f 2 :: f 3 :: f 4 :: f 5 :: f 6 :: f 7 :: f 8 :: f 9 :: f 10 :: f 11 :: f 12 :: f 13 :: f 14 :: f 15 :: f 16 :: f 17 :: f 18 :: f 19 :: f 20 :: f 21 :: f 22 :: f 23 :: f 24 :: f 25 :: f 26 :: f 27 :: f 28 :: f 29 :: f 30 :: f 31 :: f 32 :: f 33 :: f 34 :: f 35 :: f 36 :: f 37 :: f 38 :: f 39 :: f 40 :: f 41 :: f 42 :: f 43 :: f 44 :: f 45 :: f 46 :: f 47 :: f 48 :: f 49 :: f 50 :: f 51 :: f 52 :: f 53 :: f 54 :: f 55 :: f 56 :: f 57 :: f 58 :: f 59 :: f 60 :: f 61 :: f 62 :: f 63 :: f 64 :: f 65 :: f 66 :: f 67 :: f 68 :: f 69 :: f 70 :: f 71 :: f 72 :: f 73 :: f 74 :: f 75 :: f 76 :: f 77 :: f 78 :: f 79 :: f 80 :: f 81 :: f 82 :: f 83 :: f 84 :: f 85 :: f 86 :: f 87 :: f 88 :: f 89 :: f 90 :: f 91 :: f 92 :: f 93 :: f 94 :: f 95 :: f 96 :: f 97 :: f 98 :: f 99 :: f 100 :: f 101 :: f 102 :: f 103 :: f 104 :: f 105 :: f 106 :: f 107 :: f 108 :: f 109 :: f 110 :: f 111 :: f 112 :: f 113 :: f 114 :: f 115 :: f 116 :: f 117 :: f 118 :: f 119 :: [])), []⟩ ∧ ∀ k, slot a k = f k := letters_ln a hs.size hs.defers
  rw [hf] at e0 e1 e7 e8 e9 e10 e12
  rw [ea, e0, e1, e7, e8, e9, e10, e12]
  have HS := Lib.hid hs
  have HF := Lib.hid hf
  have E0 := Lib.hid e0
  have E1 := Lib.hid e1
  have E7 := Lib.hid e7
  have E8 := Lib.hid e8
  have E9 := Lib.hid e9
  have E10 := Lib.hid e10
  have E12 := Lib.hid e12
  clear hs ea hf hN hl h0 e0 h1 e1 h7 e7 h8 e8 h9 e9 h10 e10 h12 e12
  have HC := Lib.hid HC
  have c0 := hT.cell 0
  have c1 := hT.cell 1
  have c2 := hT.cell 2
  simp at c0 c1 c2
  have hfz := fun j => hT.frozen j
  have hlt := hT.lt
  clear hT
  conv => arg 2; whnf
  go_wp2_with fail
  refine (HC.out _).mono ?_
  rintro e w' ⟨rfl, hb⟩
  have d0 := (hb.cell (p := ⟨g, 0, none⟩) hlt).trans c0
  clear c0 c1 c2
  go_wp2_with fail
  refine HN.out _ _ ?_ hb
  exact Sl.add (Sl.stay [0, 1, 4, 7, 8] HS.out HF.out (by kernel_rfl) rfl ⟨Eq.trans (by kernel_rfl) E0.out.symm, Eq.trans (by kernel_rfl) E1.out.symm, by kernel_rfl, Eq.trans (by kernel_rfl) E7.out.symm, Eq.trans (by kernel_rfl) E8.out.symm, trivial⟩ HL.out) (by kernel_rfl)
set_option maxHeartbeats 4000000 in
theorem ln_r11s5F (a : Act) (w : World) (N : Act → World → Prop) (Q : Exit → Act → World → Prop) (l : List (Nat × Value)) (hs : Sl 120 a l) (hl : (l.map Prod.fst).all (fun k => [0, 1, 4, 7, 8].contains k) = true)
    (s : ByteArray) (a0 : Int) (n : Int) (wh pt q : ByteArray) (k : Int) (b1 : 0 ≤ a0) (b2 : 0 ≤ n) (b3 : a0 + n ≤ 140737488355328) (hq : ∀ w, (Instr.slice 9 (.string s) (some (.int .i64 (a0 + n))) none none).run Tryd.prog w = .ok (.string q) w) (HC : ∀ w, Calls Tryd.prog 53 #[.string q, .bool true] w fun e w' => e = .returned (.int .i64 k) ∧ Below w.heap.size w w') (hk : decide ((0 : Int) < k) = false) (hw : decide ((1 : Int) < (wh.size : Int)) = false) (m0 : (wh.size : Int) + (pt.size : Int) ≤ 140737488355328) (hm : decide ((15 : Int) < (wh.size : Int) + (pt.size : Int)) = false)  (g : Nat) (v1 v2 : Value) (hT : Blk w g 48 #[.int .i64 5, v1, v2])  (h0 : l.lookup 0 = some (.string s)) (h1 : l.lookup 1 = some (.int .i64 a0)) (h7 : l.lookup 7 = some (.int .i64 n)) (h8 : l.lookup 8 = some (.pointer (some ⟨g, 0, none⟩))) (h9 : slot a 9 = .string wh) (h10 : slot a 10 = .string pt) (h12 : slot a 12 = .bool false)
    (hN : ∀ a' w', Sl 120 a' ((112, .bool false) :: l) → Below w.heap.size w w' → N a' w') : (r_ln 11).wp Tryd.prog (Exit.then N Q) a w := by
  have HN := Lib.hid hN
  have HL := Lib.hid hl
  have e0 := hs.look 0 h0
  have e1 := hs.look 1 h1
  have e7 := hs.look 7 h7
  have e8 := hs.look 8 h8
  have e9 := h9
  have e10 := h10
  have e12 := h12
  obtain ⟨f, ea, hf⟩ : ∃ f : Nat → Value, a = ⟨(List.toArray (f 0 :: f 1 :: f 2 :: f 3 :: f 4 :: f 5 :: f 6 :: f 7 :: f 8 :: f 9 :: f 10 :: f 11 :: f 12 :: f 13 :: f 14 :: f 15 :: f 16 :: f 17 :: f 18 :: f 19 :: f 20 :: f 21 :: f 22 :: f 23 :: f 24 :: f 25 :: f 26 :: f 27 :: f 28 :: f 29 :: f 30 :: f 31 :: f 32 :: f 33 :: f 34 :: f 35 :: f 36 :: f 37 :: f 38 :: f 39 :: f 40 :: f 41 :: f 42 :: f 43 :: f 44 :: f 45 :: f 46 :: f 47 :: f 48 :: f 49 :: f 50 :: f 51 :: f 52 :: f 53 :: f 54 :: f 55 :: f 56 :: f 57 :: f 58 :: f 59 :: f 60 :: f 61 :: f 62 :: f 63 :: f 64 :: f 65 :: f 66 :: f 67 :: f 68 :: f 69 :: f 70 :: f 71 :: f 72 :: f 73 :: f 74 :: f 75 :: f 76 :: f 77 :: f 78 :: f 79 :: f 80 :: f 81 :: f 82 :: f 83 :: f 84 :: f 85 :: f 86 :: f 87 :: f 88 :: f 89 :: f 90 :: f 91 :: f 92 :: f 93 :: f 94 :: f 95 :: f 96 :: f 97 :: f 98 :: f 99 :: f 100 :: f 101 :: f 102 :: f 103 :: f 104 :: f 105 :: f 106 :: f 107 :: f 108 :: f 109 :: f 110 :: f 111 :: f 112 :: f 113 :: f 114 :: f 115 :: f 116 :: f 117 :: f 118 :: f 119 :: [])), []⟩ ∧ ∀ k, slot a k = f k := letters_ln a hs.size hs.defers
  rw [hf] at e0 e1 e7 e8 e9 e10 e12
  rw [ea, e0, e1, e7, e8, e9, e10, e12]
  have HS := Lib.hid hs
  have HF := Lib.hid hf
  have E0 := Lib.hid e0
  have E1 := Lib.hid e1
  have E7 := Lib.hid e7
  have E8 := Lib.hid e8
  have E9 := Lib.hid e9
  have E10 := Lib.hid e10
  have E12 := Lib.hid e12
  clear hs ea hf hN hl h0 e0 h1 e1 h7 e7 h8 e8 h9 e9 h10 e10 h12 e12
  have HC := Lib.hid HC
  have c0 := hT.cell 0
  have c1 := hT.cell 1
  have c2 := hT.cell 2
  simp at c0 c1 c2
  have hfz := fun j => hT.frozen j
  have hlt := hT.lt
  clear hT
  conv => arg 2; whnf
  go_wp2_with fail
  refine (HC.out _).mono ?_
  rintro e w' ⟨rfl, hb⟩
  have d0 := (hb.cell (p := ⟨g, 0, none⟩) hlt).trans c0
  clear c0 c1 c2
  go_wp2_with fail
  refine HN.out _ _ ?_ hb
  exact Sl.add (Sl.stay [0, 1, 4, 7, 8] HS.out HF.out (by kernel_rfl) rfl ⟨Eq.trans (by kernel_rfl) E0.out.symm, Eq.trans (by kernel_rfl) E1.out.symm, by kernel_rfl, Eq.trans (by kernel_rfl) E7.out.symm, Eq.trans (by kernel_rfl) E8.out.symm, trivial⟩ HL.out) (by kernel_rfl)
set_option maxHeartbeats 4000000 in
theorem ln_r11n (a : Act) (w : World) (N : Act → World → Prop) (Q : Exit → Act → World → Prop) (l : List (Nat × Value)) (hs : Sl 120 a l) (hl : (l.map Prod.fst).all (fun k => [0, 1, 4, 7, 8].contains k) = true)
    (s : ByteArray) (a0 : Int) (n : Int) (wh pt q : ByteArray) (k : Int) (b1 : 0 ≤ a0) (b2 : 0 ≤ n) (b3 : a0 + n ≤ 140737488355328) (hq : ∀ w, (Instr.slice 9 (.string s) (some (.int .i64 (a0 + n))) none none).run Tryd.prog w = .ok (.string q) w) (HC : ∀ w, Calls Tryd.prog 53 #[.string q, .bool true] w fun e w' => e = .returned (.int .i64 k) ∧ Below w.heap.size w w') (hk : decide ((0 : Int) < k) = false) (hw : (1 : Int) < (wh.size : Int)) (x : Int) (hi0 : ∀ w, (Instr.index 9 (.string wh) (.int .i64 0)).run Tryd.prog w = .ok (.int .u8 x) w) (hx : (x == 48) = false)  (g : Nat) (v1 v2 : Value) (hT : Blk w g 48 #[.int .i64 4, v1, v2])  (h0 : l.lookup 0 = some (.string s)) (h1 : l.lookup 1 = some (.int .i64 a0)) (h7 : l.lookup 7 = some (.int .i64 n)) (h8 : l.lookup 8 = some (.pointer (some ⟨g, 0, none⟩))) (h9 : slot a 9 = .string wh) (h10 : slot a 10 = .string pt) (h12 : slot a 12 = .bool false)
    (hN : ∀ a' w', Sl 120 a' ((112, .bool false) :: l) → Below w.heap.size w w' → N a' w') : (r_ln 11).wp Tryd.prog (Exit.then N Q) a w := by
  have HN := Lib.hid hN
  have HL := Lib.hid hl
  have e0 := hs.look 0 h0
  have e1 := hs.look 1 h1
  have e7 := hs.look 7 h7
  have e8 := hs.look 8 h8
  have e9 := h9
  have e10 := h10
  have e12 := h12
  obtain ⟨f, ea, hf⟩ : ∃ f : Nat → Value, a = ⟨(List.toArray (f 0 :: f 1 :: f 2 :: f 3 :: f 4 :: f 5 :: f 6 :: f 7 :: f 8 :: f 9 :: f 10 :: f 11 :: f 12 :: f 13 :: f 14 :: f 15 :: f 16 :: f 17 :: f 18 :: f 19 :: f 20 :: f 21 :: f 22 :: f 23 :: f 24 :: f 25 :: f 26 :: f 27 :: f 28 :: f 29 :: f 30 :: f 31 :: f 32 :: f 33 :: f 34 :: f 35 :: f 36 :: f 37 :: f 38 :: f 39 :: f 40 :: f 41 :: f 42 :: f 43 :: f 44 :: f 45 :: f 46 :: f 47 :: f 48 :: f 49 :: f 50 :: f 51 :: f 52 :: f 53 :: f 54 :: f 55 :: f 56 :: f 57 :: f 58 :: f 59 :: f 60 :: f 61 :: f 62 :: f 63 :: f 64 :: f 65 :: f 66 :: f 67 :: f 68 :: f 69 :: f 70 :: f 71 :: f 72 :: f 73 :: f 74 :: f 75 :: f 76 :: f 77 :: f 78 :: f 79 :: f 80 :: f 81 :: f 82 :: f 83 :: f 84 :: f 85 :: f 86 :: f 87 :: f 88 :: f 89 :: f 90 :: f 91 :: f 92 :: f 93 :: f 94 :: f 95 :: f 96 :: f 97 :: f 98 :: f 99 :: f 100 :: f 101 :: f 102 :: f 103 :: f 104 :: f 105 :: f 106 :: f 107 :: f 108 :: f 109 :: f 110 :: f 111 :: f 112 :: f 113 :: f 114 :: f 115 :: f 116 :: f 117 :: f 118 :: f 119 :: [])), []⟩ ∧ ∀ k, slot a k = f k := letters_ln a hs.size hs.defers
  rw [hf] at e0 e1 e7 e8 e9 e10 e12
  rw [ea, e0, e1, e7, e8, e9, e10, e12]
  have HS := Lib.hid hs
  have HF := Lib.hid hf
  have E0 := Lib.hid e0
  have E1 := Lib.hid e1
  have E7 := Lib.hid e7
  have E8 := Lib.hid e8
  have E9 := Lib.hid e9
  have E10 := Lib.hid e10
  have E12 := Lib.hid e12
  clear hs ea hf hN hl h0 e0 h1 e1 h7 e7 h8 e8 h9 e9 h10 e10 h12 e12
  have HC := Lib.hid HC
  have c0 := hT.cell 0
  have c1 := hT.cell 1
  have c2 := hT.cell 2
  simp at c0 c1 c2
  have hfz := fun j => hT.frozen j
  have hlt := hT.lt
  clear hT
  conv => arg 2; whnf
  go_wp2_with fail
  refine (HC.out _).mono ?_
  rintro e w' ⟨rfl, hb⟩
  have d0 := (hb.cell (p := ⟨g, 0, none⟩) hlt).trans c0
  clear c0 c1 c2
  go_wp2_with fail
  refine HN.out _ _ ?_ hb
  exact Sl.add (Sl.stay [0, 1, 4, 7, 8] HS.out HF.out (by kernel_rfl) rfl ⟨Eq.trans (by kernel_rfl) E0.out.symm, Eq.trans (by kernel_rfl) E1.out.symm, by kernel_rfl, Eq.trans (by kernel_rfl) E7.out.symm, Eq.trans (by kernel_rfl) E8.out.symm, trivial⟩ HL.out) (by kernel_rfl)
set_option maxHeartbeats 4000000 in
theorem ln_r11n5T (a : Act) (w : World) (N : Act → World → Prop) (Q : Exit → Act → World → Prop) (l : List (Nat × Value)) (hs : Sl 120 a l) (hl : (l.map Prod.fst).all (fun k => [0, 1, 4, 7, 8].contains k) = true)
    (s : ByteArray) (a0 : Int) (n : Int) (wh pt q : ByteArray) (k : Int) (b1 : 0 ≤ a0) (b2 : 0 ≤ n) (b3 : a0 + n ≤ 140737488355328) (hq : ∀ w, (Instr.slice 9 (.string s) (some (.int .i64 (a0 + n))) none none).run Tryd.prog w = .ok (.string q) w) (HC : ∀ w, Calls Tryd.prog 53 #[.string q, .bool true] w fun e w' => e = .returned (.int .i64 k) ∧ Below w.heap.size w w') (hk : decide ((0 : Int) < k) = false) (hw : (1 : Int) < (wh.size : Int)) (x : Int) (hi0 : ∀ w, (Instr.index 9 (.string wh) (.int .i64 0)).run Tryd.prog w = .ok (.int .u8 x) w) (hx : (x == 48) = false) (m0 : (wh.size : Int) + (pt.size : Int) ≤ 140737488355328) (hm : (15 : Int) < (wh.size : Int) + (pt.size : Int))  (g : Nat) (v1 v2 : Value) (hT : Blk w g 48 #[.int .i64 5, v1, v2])  (h0 : l.lookup 0 = some (.string s)) (h1 : l.lookup 1 = some (.int .i64 a0)) (h7 : l.lookup 7 = some (.int .i64 n)) (h8 : l.lookup 8 = some (.pointer (some ⟨g, 0, none⟩))) (h9 : slot a 9 = .string wh) (h10 : slot a 10 = .string pt) (h12 : slot a 12 = .bool false)
    (hN : ∀ a' w', Sl 120 a' ((112, .bool true) :: l) → Below w.heap.size w w' → N a' w') : (r_ln 11).wp Tryd.prog (Exit.then N Q) a w := by
  have HN := Lib.hid hN
  have HL := Lib.hid hl
  have e0 := hs.look 0 h0
  have e1 := hs.look 1 h1
  have e7 := hs.look 7 h7
  have e8 := hs.look 8 h8
  have e9 := h9
  have e10 := h10
  have e12 := h12
  obtain ⟨f, ea, hf⟩ : ∃ f : Nat → Value, a = ⟨(List.toArray (f 0 :: f 1 :: f 2 :: f 3 :: f 4 :: f 5 :: f 6 :: f 7 :: f 8 :: f 9 :: f 10 :: f 11 :: f 12 :: f 13 :: f 14 :: f 15 :: f 16 :: f 17 :: f 18 :: f 19 :: f 20 :: f 21 :: f 22 :: f 23 :: f 24 :: f 25 :: f 26 :: f 27 :: f 28 :: f 29 :: f 30 :: f 31 :: f 32 :: f 33 :: f 34 :: f 35 :: f 36 :: f 37 :: f 38 :: f 39 :: f 40 :: f 41 :: f 42 :: f 43 :: f 44 :: f 45 :: f 46 :: f 47 :: f 48 :: f 49 :: f 50 :: f 51 :: f 52 :: f 53 :: f 54 :: f 55 :: f 56 :: f 57 :: f 58 :: f 59 :: f 60 :: f 61 :: f 62 :: f 63 :: f 64 :: f 65 :: f 66 :: f 67 :: f 68 :: f 69 :: f 70 :: f 71 :: f 72 :: f 73 :: f 74 :: f 75 :: f 76 :: f 77 :: f 78 :: f 79 :: f 80 :: f 81 :: f 82 :: f 83 :: f 84 :: f 85 :: f 86 :: f 87 :: f 88 :: f 89 :: f 90 :: f 91 :: f 92 :: f 93 :: f 94 :: f 95 :: f 96 :: f 97 :: f 98 :: f 99 :: f 100 :: f 101 :: f 102 :: f 103 :: f 104 :: f 105 :: f 106 :: f 107 :: f 108 :: f 109 :: f 110 :: f 111 :: f 112 :: f 113 :: f 114 :: f 115 :: f 116 :: f 117 :: f 118 :: f 119 :: [])), []⟩ ∧ ∀ k, slot a k = f k := letters_ln a hs.size hs.defers
  rw [hf] at e0 e1 e7 e8 e9 e10 e12
  rw [ea, e0, e1, e7, e8, e9, e10, e12]
  have HS := Lib.hid hs
  have HF := Lib.hid hf
  have E0 := Lib.hid e0
  have E1 := Lib.hid e1
  have E7 := Lib.hid e7
  have E8 := Lib.hid e8
  have E9 := Lib.hid e9
  have E10 := Lib.hid e10
  have E12 := Lib.hid e12
  clear hs ea hf hN hl h0 e0 h1 e1 h7 e7 h8 e8 h9 e9 h10 e10 h12 e12
  have HC := Lib.hid HC
  have c0 := hT.cell 0
  have c1 := hT.cell 1
  have c2 := hT.cell 2
  simp at c0 c1 c2
  have hfz := fun j => hT.frozen j
  have hlt := hT.lt
  clear hT
  conv => arg 2; whnf
  go_wp2_with fail
  refine (HC.out _).mono ?_
  rintro e w' ⟨rfl, hb⟩
  have d0 := (hb.cell (p := ⟨g, 0, none⟩) hlt).trans c0
  clear c0 c1 c2
  go_wp2_with fail
  refine HN.out _ _ ?_ hb
  exact Sl.add (Sl.stay [0, 1, 4, 7, 8] HS.out HF.out (by kernel_rfl) rfl ⟨Eq.trans (by kernel_rfl) E0.out.symm, Eq.trans (by kernel_rfl) E1.out.symm, by kernel_rfl, Eq.trans (by kernel_rfl) E7.out.symm, Eq.trans (by kernel_rfl) E8.out.symm, trivial⟩ HL.out) (by kernel_rfl)
set_option maxHeartbeats 4000000 in
theorem ln_r11n5F (a : Act) (w : World) (N : Act → World → Prop) (Q : Exit → Act → World → Prop) (l : List (Nat × Value)) (hs : Sl 120 a l) (hl : (l.map Prod.fst).all (fun k => [0, 1, 4, 7, 8].contains k) = true)
    (s : ByteArray) (a0 : Int) (n : Int) (wh pt q : ByteArray) (k : Int) (b1 : 0 ≤ a0) (b2 : 0 ≤ n) (b3 : a0 + n ≤ 140737488355328) (hq : ∀ w, (Instr.slice 9 (.string s) (some (.int .i64 (a0 + n))) none none).run Tryd.prog w = .ok (.string q) w) (HC : ∀ w, Calls Tryd.prog 53 #[.string q, .bool true] w fun e w' => e = .returned (.int .i64 k) ∧ Below w.heap.size w w') (hk : decide ((0 : Int) < k) = false) (hw : (1 : Int) < (wh.size : Int)) (x : Int) (hi0 : ∀ w, (Instr.index 9 (.string wh) (.int .i64 0)).run Tryd.prog w = .ok (.int .u8 x) w) (hx : (x == 48) = false) (m0 : (wh.size : Int) + (pt.size : Int) ≤ 140737488355328) (hm : decide ((15 : Int) < (wh.size : Int) + (pt.size : Int)) = false)  (g : Nat) (v1 v2 : Value) (hT : Blk w g 48 #[.int .i64 5, v1, v2])  (h0 : l.lookup 0 = some (.string s)) (h1 : l.lookup 1 = some (.int .i64 a0)) (h7 : l.lookup 7 = some (.int .i64 n)) (h8 : l.lookup 8 = some (.pointer (some ⟨g, 0, none⟩))) (h9 : slot a 9 = .string wh) (h10 : slot a 10 = .string pt) (h12 : slot a 12 = .bool false)
    (hN : ∀ a' w', Sl 120 a' ((112, .bool false) :: l) → Below w.heap.size w w' → N a' w') : (r_ln 11).wp Tryd.prog (Exit.then N Q) a w := by
  have HN := Lib.hid hN
  have HL := Lib.hid hl
  have e0 := hs.look 0 h0
  have e1 := hs.look 1 h1
  have e7 := hs.look 7 h7
  have e8 := hs.look 8 h8
  have e9 := h9
  have e10 := h10
  have e12 := h12
  obtain ⟨f, ea, hf⟩ : ∃ f : Nat → Value, a = ⟨(List.toArray (f 0 :: f 1 :: f 2 :: f 3 :: f 4 :: f 5 :: f 6 :: f 7 :: f 8 :: f 9 :: f 10 :: f 11 :: f 12 :: f 13 :: f 14 :: f 15 :: f 16 :: f 17 :: f 18 :: f 19 :: f 20 :: f 21 :: f 22 :: f 23 :: f 24 :: f 25 :: f 26 :: f 27 :: f 28 :: f 29 :: f 30 :: f 31 :: f 32 :: f 33 :: f 34 :: f 35 :: f 36 :: f 37 :: f 38 :: f 39 :: f 40 :: f 41 :: f 42 :: f 43 :: f 44 :: f 45 :: f 46 :: f 47 :: f 48 :: f 49 :: f 50 :: f 51 :: f 52 :: f 53 :: f 54 :: f 55 :: f 56 :: f 57 :: f 58 :: f 59 :: f 60 :: f 61 :: f 62 :: f 63 :: f 64 :: f 65 :: f 66 :: f 67 :: f 68 :: f 69 :: f 70 :: f 71 :: f 72 :: f 73 :: f 74 :: f 75 :: f 76 :: f 77 :: f 78 :: f 79 :: f 80 :: f 81 :: f 82 :: f 83 :: f 84 :: f 85 :: f 86 :: f 87 :: f 88 :: f 89 :: f 90 :: f 91 :: f 92 :: f 93 :: f 94 :: f 95 :: f 96 :: f 97 :: f 98 :: f 99 :: f 100 :: f 101 :: f 102 :: f 103 :: f 104 :: f 105 :: f 106 :: f 107 :: f 108 :: f 109 :: f 110 :: f 111 :: f 112 :: f 113 :: f 114 :: f 115 :: f 116 :: f 117 :: f 118 :: f 119 :: [])), []⟩ ∧ ∀ k, slot a k = f k := letters_ln a hs.size hs.defers
  rw [hf] at e0 e1 e7 e8 e9 e10 e12
  rw [ea, e0, e1, e7, e8, e9, e10, e12]
  have HS := Lib.hid hs
  have HF := Lib.hid hf
  have E0 := Lib.hid e0
  have E1 := Lib.hid e1
  have E7 := Lib.hid e7
  have E8 := Lib.hid e8
  have E9 := Lib.hid e9
  have E10 := Lib.hid e10
  have E12 := Lib.hid e12
  clear hs ea hf hN hl h0 e0 h1 e1 h7 e7 h8 e8 h9 e9 h10 e10 h12 e12
  have HC := Lib.hid HC
  have c0 := hT.cell 0
  have c1 := hT.cell 1
  have c2 := hT.cell 2
  simp at c0 c1 c2
  have hfz := fun j => hT.frozen j
  have hlt := hT.lt
  clear hT
  conv => arg 2; whnf
  go_wp2_with fail
  refine (HC.out _).mono ?_
  rintro e w' ⟨rfl, hb⟩
  have d0 := (hb.cell (p := ⟨g, 0, none⟩) hlt).trans c0
  clear c0 c1 c2
  go_wp2_with fail
  refine HN.out _ _ ?_ hb
  exact Sl.add (Sl.stay [0, 1, 4, 7, 8] HS.out HF.out (by kernel_rfl) rfl ⟨Eq.trans (by kernel_rfl) E0.out.symm, Eq.trans (by kernel_rfl) E1.out.symm, by kernel_rfl, Eq.trans (by kernel_rfl) E7.out.symm, Eq.trans (by kernel_rfl) E8.out.symm, trivial⟩ HL.out) (by kernel_rfl)
set_option maxHeartbeats 4000000 in
theorem ln_r13 (a : Act) (w : World) (N : Act → World → Prop) (Q : Exit → Act → World → Prop) (l : List (Nat × Value)) (hs : Sl 120 a l) (hl : (l.map Prod.fst).all (fun k => [].contains k) = true)
    (n : Int) (g : Nat) (k0 a0 : Int) (tx : ByteArray) (hT : Blk w g 48 #[.int .i64 k0, .string tx, .int .i64 a0]) (b1 : 0 ≤ a0) (b2 : 0 ≤ n) (b3 : a0 + n ≤ 140737488355328) (R : Nat) (u0 u1 u2 : Value) (hR : Blk w R 48 #[u0, u1, u2]) (hgR : g ≠ R)  (h1 : slot a 1 = .int .i64 a0) (h7 : slot a 7 = .int .i64 n) (h8 : slot a 8 = .pointer (some ⟨g, 0, none⟩)) (h4 : slot a 4 = .pointer (some ⟨R, 0, none⟩))
    (hN : ∀ a' w', Sl 120 a' ((6, .pointer none) :: ((5, .int .i64 (a0 + n)) :: ((4, .pointer (some ⟨R, 0, none⟩)) :: l))) → Blk w' R 48 #[.int .i64 k0, .string tx, .int .i64 a0] → (∀ B z, Below B z w → B ≤ R → Below B z w') → N a' w') : (r_ln 13).wp Tryd.prog (Exit.then N Q) a w := by
  have HN := Lib.hid hN
  have HL := Lib.hid hl
  have e1 := h1
  have e7 := h7
  have e8 := h8
  have e4 := h4
  obtain ⟨f, ea, hf⟩ : ∃ f : Nat → Value, a = ⟨(List.toArray (f 0 :: f 1 :: f 2 :: f 3 :: f 4 :: f 5 :: f 6 :: f 7 :: f 8 :: f 9 :: f 10 :: f 11 :: f 12 :: f 13 :: f 14 :: f 15 :: f 16 :: f 17 :: f 18 :: f 19 :: f 20 :: f 21 :: f 22 :: f 23 :: f 24 :: f 25 :: f 26 :: f 27 :: f 28 :: f 29 :: f 30 :: f 31 :: f 32 :: f 33 :: f 34 :: f 35 :: f 36 :: f 37 :: f 38 :: f 39 :: f 40 :: f 41 :: f 42 :: f 43 :: f 44 :: f 45 :: f 46 :: f 47 :: f 48 :: f 49 :: f 50 :: f 51 :: f 52 :: f 53 :: f 54 :: f 55 :: f 56 :: f 57 :: f 58 :: f 59 :: f 60 :: f 61 :: f 62 :: f 63 :: f 64 :: f 65 :: f 66 :: f 67 :: f 68 :: f 69 :: f 70 :: f 71 :: f 72 :: f 73 :: f 74 :: f 75 :: f 76 :: f 77 :: f 78 :: f 79 :: f 80 :: f 81 :: f 82 :: f 83 :: f 84 :: f 85 :: f 86 :: f 87 :: f 88 :: f 89 :: f 90 :: f 91 :: f 92 :: f 93 :: f 94 :: f 95 :: f 96 :: f 97 :: f 98 :: f 99 :: f 100 :: f 101 :: f 102 :: f 103 :: f 104 :: f 105 :: f 106 :: f 107 :: f 108 :: f 109 :: f 110 :: f 111 :: f 112 :: f 113 :: f 114 :: f 115 :: f 116 :: f 117 :: f 118 :: f 119 :: [])), []⟩ ∧ ∀ k, slot a k = f k := letters_ln a hs.size hs.defers
  rw [hf] at e1 e7 e8 e4
  rw [ea, e1, e7, e8, e4]
  have HS := Lib.hid hs
  have HF := Lib.hid hf
  have E1 := Lib.hid e1
  have E7 := Lib.hid e7
  have E8 := Lib.hid e8
  have E4 := Lib.hid e4
  clear hs ea hf hN hl h1 e1 h7 e7 h8 e8 h4 e4
  have c0 := hT.cell 0
  have c1 := hT.cell 1
  have c2 := hT.cell 2
  simp at c0 c1 c2
  have hfz := fun j => hT.frozen j
  have hlt := hT.lt
  clear hT
  have hRR := Lib.hid hR
  have r0 := hR.cell 0
  have r1 := hR.cell 1
  have r2 := hR.cell 2
  simp at r0 r1 r2
  have hfr := fun j => hR.frozen j
  clear hR
  conv => arg 2; whnf
  go_wp2_with fail
  refine HN.out _ _ ?_ ((((hRR.out.set_ 0 (.int .i64 k0)).set_ 1 (.string tx)).set_ 2 (.int .i64 a0))) ((fun B z h hB => ((h.setCell (p := ⟨R, 0, none⟩) hB _).setCell (p := ⟨R, 1, none⟩) hB _).setCell (p := ⟨R, 2, none⟩) hB _))
  exact Sl.add (Sl.add (Sl.add (Sl.stay [] HS.out HF.out (by kernel_rfl) rfl trivial HL.out) (by kernel_rfl)) (by kernel_rfl)) (by kernel_rfl)
end Go.Proofs.YtpggcmlddmckcaaDoor
