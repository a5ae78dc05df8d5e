/-
  The law ValueRight proved: for every datum the program's Right is the document's, whatever the datum; the argument reads as it did. Conditions: the row's own (the package-level variable value.own starts as the text lays it: the card ties it; a datum whose reading ends). Written by an AI agent.
-/
import Derived.Test.YthdmmhiifkebeaaDoorVal18
import Derived.BigQuiet
import Derived.Test.YthdmmhiifkebeaaDoorRef7
import Derived.Test.YthdmmhiifkebeaaDoorRow
import Derived.Test.YthdmmhiifkebeaaDoorCards
import Derived.Test.YthdmmhiifkebeaaDoorTie
import Derived.SevenTiedAt
namespace Go.Proofs.YthdmmhiifkebeaaDoor
open Go.RowKit Go.Sort

set_option maxRecDepth 100000 in
set_option maxHeartbeats 1000000 in
theorem valueRight_any (h : Hd) (k : Fo) (ho : h.ok) (hk : k.ok) (hl : k.len ≤ 1034834473170) (w : World) (S : Nat → Prop) (pa : Option Addr) (pc : Nat) (ia : Option Addr) (ic : Nat) (hd : DatAt w S h k pa pc ia ic) (hown : OwnAt w) :
    Calls Tryd.prog 3 #[.agg (h.cells pa pc ia k.len ic)] w fun e w' => e = .returned (.bool true) ∧ Below w.heap.size w w' := by
  unfold Hd.cells
  go_enter Tryd.func3, Tryd.ntmps3
  go_upto_region 0 with fail
  go_cut [0, 1, 2] (fun _ t1 _ wx => t1 = .pointer (some ⟨w.heap.size, 0, none⟩) ∧ Blk wx w.heap.size 28 (h.cells pa pc ia k.len ic) ∧ Below w.heap.size w wx)
  case first =>
    go_wp2_with fail
    go_meet
    case rel => exact ⟨rfl, Blk.new _ _ _, by ((repeat' (first | exact Below.refl _ _ | assumption | (refine bl_alloc ?_ _) | (refine Below.drew ?_) | (refine below_drewN ?_ _) | (refine Below.setCell ?_ ?_ _) | (refine bl_trans ?_ (by assumption)))) <;> first | omega | (simp; done) | (simp; omega))⟩
  case rest =>
  obtain ⟨rfl, hA, hbw⟩ := hcut
  obtain ⟨w0, rfl⟩ : ∃ w0 : World, w0 = wc := ⟨_, rfl⟩
  go_upto_region 1 with fail
  go_cut [3] (fun t wx => t = .bool true ∧ Below w0.heap.size w0 wx)
  case first =>
    have HO := Lib.hid (hown.below hbw (Nat.le_refl _))
    clear hown hd
    go_wp2_with fail
    refine (known_any _ HO.out).mono ?_
    rintro e w1 ⟨rfl, hb1⟩
    go_wp2_with fail
    go_meet
    case rel => exact ⟨rfl, hb1⟩
  case rest =>
  obtain ⟨rfl, hb0⟩ := hcut
  obtain ⟨w1, rfl⟩ : ∃ w1 : World, w1 = wc := ⟨_, rfl⟩
  have hbw1 := bl_trans hbw hb0
  have hA1 := hA.below hb0 hA.lt
  have h1 := fun d os => Right_any h k ho hk (grow (redrawn w1 d) os) S pa pc ia ic ((hd.below hbw1 (fun b _ h => h)).rg d os) ((hown.below hbw1 (Nat.le_refl _)).rg d os)
  have h2 := fun d os => refRight_any h k ho hk hl (grow (redrawn w1 d) os) S pa pc ia ic ((hd.below hbw1 (fun b _ h => h)).rg d os)
  unfold Hd.cells at h1 h2
  have H1 := Lib.hid h1
  have H2 := Lib.hid h2
  clear h1 h2 hd hown hA hbw hb0 ho hk
  obtain ⟨c0, c1, c2, c3, c4, c5, c6, c7, c8, c9, c10⟩ := (CellsAt.of_blk hA1).boxrg
  go_upto_region 2 with fail
  refine wp_region_below (by kernel_rfl) (by kernel_rfl) ?_
  repeat (go_big_quiet_step ((first | (go_at_call 16; exact Calls.regrown_of (H1.out _ _)) | (go_at_call 17; exact Calls.regrown_of (H2.out _ _)))))
  refine wpQuiet_nil ?_
  intro w2 hb2
  go_wp2_with fail
  go_ret
  exact ⟨rfl, bl_trans hbw1 hb2⟩
end Go.Proofs.YthdmmhiifkebeaaDoor
