/-
  The region of number that draws its order. Written by an AI agent.
-/
import Derived.Test.YtpggcmlddmckcaaDoorLn1
namespace Go.Proofs.YtpggcmlddmckcaaDoor
open Go.RowKit Go.Sort
set_option maxRecDepth 100000
theorem blk_new_of (w : World) (t : TypeId) (cs : Array Value) {n : Nat} (h : n = w.heap.size) : Blk (w.alloc (.cells cs t)) n t cs := h ▸ Blk.new w t cs
set_option maxHeartbeats 4000000 in
theorem ln_r12 (a : Act) (w : World) (N : Act → World → Prop) (Q : Exit → Act → World → Prop) (l : List (Nat × Value)) (hs : Sl 120 a l) (hl : (l.map Prod.fst).all (fun k => [].contains k) = true)
    (g : Nat) (k0 a0 : Int) (tx : ByteArray) (hT : Blk w g 48 #[.int .i64 k0, .string tx, .int .i64 a0]) (R : Nat) (u0 u1 u2 : Value) (hR : Blk w R 48 #[u0, u1, u2]) (hgR : g ≠ R)  (h1 : slot a 1 = .int .i64 a0) (h8 : slot a 8 = .pointer (some ⟨g, 0, none⟩)) (h4 : slot a 4 = .pointer (some ⟨R, 0, none⟩))
    (hN : ∀ a' w', Sl 120 a' ((6, .pointer (some ⟨w.heap.size, 0, none⟩)) :: ((5, .int .i64 0) :: ((4, .pointer (some ⟨R, 0, none⟩)) :: l))) → Blk w' R 48 #[.int .i64 k0, .string tx, .int .i64 a0] → Blk w' w.heap.size 26 #[.int .i64 12, .int .i64 a0, .string ⟨#[]⟩] → (∀ B z, Below B z w → B ≤ R → Below B z w') → N a' w') : (r_ln 12).wp Tryd.prog (Exit.then N Q) a w := by
  have HN := Lib.hid hN
  have HL := Lib.hid hl
  have e1 := h1
  have e8 := h8
  have e4 := h4
  obtain ⟨f, ea, hf⟩ : ∃ f : Nat → Value, a = ⟨(List.toArray (f 0 :: f 1 :: f 2 :: f 3 :: f 4 :: f 5 :: f 6 :: f 7 :: f 8 :: f 9 :: f 10 :: f 11 :: f 12 :: f 13 :: f 14 :: f 15 :: f 16 :: f 17 :: f 18 :: f 19 :: f 20 :: f 21 :: f 22 :: f 23 :: f 24 :: f 25 :: f 26 :: f 27 :: f 28 :: f 29 :: f 30 :: f 31 :: f 32 :: f 33 :: f 34 :: f 35 :: f 36 :: f 37 :: f 38 :: f 39 :: f 40 :: f 41 :: f 42 :: f 43 :: f 44 :: f 45 :: f 46 :: f 47 :: f 48 :: f 49 :: f 50 :: f 51 :: f 52 :: f 53 :: f 54 :: f 55 :: f 56 :: f 57 :: f 58 :: f 59 :: f 60 :: f 61 :: f 62 :: f 63 :: f 64 :: f 65 :: f 66 :: f 67 :: f 68 :: f 69 :: f 70 :: f 71 :: f 72 :: f 73 :: f 74 :: f 75 :: f 76 :: f 77 :: f 78 :: f 79 :: f 80 :: f 81 :: f 82 :: f 83 :: f 84 :: f 85 :: f 86 :: f 87 :: f 88 :: f 89 :: f 90 :: f 91 :: f 92 :: f 93 :: f 94 :: f 95 :: f 96 :: f 97 :: f 98 :: f 99 :: f 100 :: f 101 :: f 102 :: f 103 :: f 104 :: f 105 :: f 106 :: f 107 :: f 108 :: f 109 :: f 110 :: f 111 :: f 112 :: f 113 :: f 114 :: f 115 :: f 116 :: f 117 :: f 118 :: f 119 :: [])), []⟩ ∧ ∀ k, slot a k = f k := letters_ln a hs.size hs.defers
  rw [hf] at e1 e8 e4
  rw [ea, e1, e8, e4]
  have HS := Lib.hid hs
  have HF := Lib.hid hf
  have E1 := Lib.hid e1
  have E8 := Lib.hid e8
  have E4 := Lib.hid e4
  clear hs ea hf hN hl h1 e1 h8 e8 h4 e4
  have HTT := Lib.hid hT
  have c0 := hT.cell 0
  have c1 := hT.cell 1
  have c2 := hT.cell 2
  simp at c0 c1 c2
  have hfz := fun j => hT.frozen j
  have hlt := hT.lt
  clear hT
  have hRR := Lib.hid hR
  have r0 := hR.cell 0
  have r1 := hR.cell 1
  have r2 := hR.cell 2
  simp at r0 r1 r2
  have hfr := fun j => hR.frozen j
  clear hR
  conv => arg 2; whnf
  refine wp_region_eff (fun W => W.cell? ⟨g, 0, none⟩ = some (.int .i64 k0) ∧ W.cell? ⟨g, 1, none⟩ = some (.string tx) ∧ W.cell? ⟨g, 2, none⟩ = some (.int .i64 a0)) [0, 1] [2] [_, _] [_] [_, _, _] 3 (by kernel_rfl) rfl rfl rfl rfl (by kernel_rfl) ?_
  iterate 2
    apply wpP_step _ rfl (by simp) rfl
    · rintro W ⟨d0, d1, d2⟩
      go_wp2_with fail
      exact ⟨rfl, rfl⟩
    · rfl
  refine wpP_nil ?_
  refine And.intro ⟨c0, c1, c2⟩ ?_
  go_wp2_with fail
  refine (wrong_any _ _ _).mono ?_
  rintro e w' ⟨rfl, rfl⟩
  go_wp2_with fail
  refine And.intro ⟨?_, ?_, ?_⟩ ?_
  · exact (Blk.alloc (w := { w with drawn := w.drawn + 1 }) HTT.out _).cell 0
  · exact (Blk.alloc (w := { w with drawn := w.drawn + 1 }) HTT.out _).cell 1
  · exact (Blk.alloc (w := { w with drawn := w.drawn + 1 }) HTT.out _).cell 2
  have hltR := hRR.out.lt
  change wpList _ _ _ _ _ _
  go_wp2_with fail
  refine HN.out _ _ ?_ (((((hRR.out.set_ 0 (.int .i64 k0)).set_ 1 (.string tx)).set_ 2 (.int .i64 a0)).alloc _)) ((blk_new_of _ _ _ (by simp [World.setCell]))) ((fun B z h hB => Below.drew ((((h.setCell (p := ⟨R, 0, none⟩) hB _).setCell (p := ⟨R, 1, none⟩) hB _).setCell (p := ⟨R, 2, none⟩) hB _).alloc (by simp [World.setCell]; omega) _)))
  exact Sl.add (Sl.add (Sl.add (Sl.stay [] HS.out HF.out (by kernel_rfl) rfl trivial HL.out) (by kernel_rfl)) (by kernel_rfl)) (by kernel_rfl)
end Go.Proofs.YtpggcmlddmckcaaDoor
