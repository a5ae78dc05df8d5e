/-
  The law ValueSames walked: any two data: are they the same? It returns true. Written by an AI agent.
-/
import Derived.Test.YthdmmhiifkebeaaDoorVal18
import Derived.Test.YthdmmhiifkebeaaDoorSm
import Derived.Test.YthdmmhiifkebeaaDoorSmLaw
import Derived.Test.YthdmmhiifkebeaaDoorCp
import Derived.Test.YthdmmhiifkebeaaDoorWide
namespace Go.Proofs.YthdmmhiifkebeaaDoor
open Go.RowKit Go.Sort

/-- What Copied has made lies at block g. -/
def OwnDone (h : Hd) (k : Fo) (v : Value) (w wx : World) : Prop :=
  ∃ g qa qc ja jc, v = .pointer (some ⟨g, 0, none⟩) ∧ Blk wx g 28 (h.cells qa qc ja k.len jc) ∧ DatAt wx (fun b => w.heap.size ≤ b) h k qa qc ja jc ∧ Below w.heap.size w wx

set_option maxRecDepth 100000 in
set_option maxHeartbeats 4000000 in
theorem valueSames_any (h : Hd) (k : Fo) (h' : Hd) (k' : Fo) (ho : h.ok) (hk : k.ok) (hl : k.len ≤ 1034834473170) (ho' : h'.ok) (hk' : k'.ok) (hl' : k'.len ≤ 1034834473170) (w : World) (S T : Nat → Prop) (pa : Option Addr) (pc : Nat) (ia : Option Addr) (ic : Nat) (pa' : Option Addr) (pc' : Nat) (ia' : Option Addr) (ic' : Nat)
    (hd : DatAt w S h k pa pc ia ic) (hd' : DatAt w T h' k' pa' pc' ia' ic') (hown : OwnAt w) :
    Calls Tryd.prog 7 #[.agg (h.cells pa pc ia k.len ic), .agg (h'.cells pa' pc' ia' k'.len ic')] w fun e w' => e = .returned (.bool true) ∧ Below w.heap.size w w' := by
  unfold Hd.cells
  go_enter Tryd.func7, Tryd.ntmps7
  go_upto_region 0 with fail
  go_cut [0, 1, 2, 3, 4] (fun _ _ t2 t3 _ wx => t2 = .pointer (some ⟨w.heap.size, 0, none⟩) ∧ t3 = .pointer (some ⟨w.heap.size + 1, 0, none⟩) ∧ Blk wx w.heap.size 28 (h.cells pa pc ia k.len ic) ∧ Blk wx (w.heap.size + 1) 28 (h'.cells pa' pc' ia' k'.len ic') ∧ Below w.heap.size w wx)
  case first =>
    go_wp2_with fail
    go_meet
    case rel => exact ⟨rfl, rfl, (Blk.new _ _ _).alloc _, Blk.new1 _ _ _ _, by ((repeat' (first | exact Below.refl _ _ | assumption | (refine bl_alloc ?_ _) | (refine Below.drew ?_) | (refine below_drewN ?_ _) | (refine Below.setCell ?_ ?_ _) | (refine bl_trans ?_ (by assumption)))) <;> first | omega | (simp; done) | (simp; omega))⟩
  case rest =>
  obtain ⟨rfl, rfl, hA, hB, hbw⟩ := hcut
  obtain ⟨w0, rfl⟩ : ∃ w0 : World, w0 = wc := ⟨_, rfl⟩
  have HW1 : Hid (∀ w', Below w.heap.size w w' → Calls Tryd.prog 28 #[.agg (h.cells pa pc ia k.len ic), .int .i64 5000] w' (WidePost 5000 w')) := fun w' hb => wide_any h k ho hk hl 5000 w' S pa pc ia ic (by decide) (by decide) (hd.below hb (fun b _ h => h))
  have HW2 : Hid (∀ w', Below w.heap.size w w' → Calls Tryd.prog 28 #[.agg (h'.cells pa' pc' ia' k'.len ic'), .int .i64 5000] w' (WidePost 5000 w')) := fun w' hb => wide_any h' k' ho' hk' hl' 5000 w' T pa' pc' ia' ic' (by decide) (by decide) (hd'.below hb (fun b _ h => h))
  have HC1 : Hid (∀ w', Below w.heap.size w w' → Calls Tryd.prog 29 #[.agg (h.cells pa pc ia k.len ic)] w' (TwinPost h k w')) := fun w' hb => copied_any h k ho hk hl w' S pa pc ia ic (hd.below hb (fun b _ h => h))
  have HS1 : Hid (∀ w', Below w.heap.size w w' → Calls Tryd.prog 30 #[.agg (h.cells pa pc ia k.len ic), .agg (h'.cells pa' pc' ia' k'.len ic')] w' fun e w'' => e = .returned (.bool (sameD h k h' k')) ∧ Below w'.heap.size w' w'') := fun w' hb => same_any h k h' k' ho hk hl ho' hk' hl' w' S T pa pc ia ic pa' pc' ia' ic' (hd.below hb (fun b _ h => h)) (hd'.below hb (fun b _ h => h))
  have HS2 : Hid (∀ w', Below w.heap.size w w' → Calls Tryd.prog 30 #[.agg (h'.cells pa' pc' ia' k'.len ic'), .agg (h.cells pa pc ia k.len ic)] w' fun e w'' => e = .returned (.bool (sameD h k h' k')) ∧ Below w'.heap.size w' w'') := fun w' hb => by
    rw [sameD_symm h k h' k']
    exact same_any h' k' h k ho' hk' hl' ho hk hl w' T S pa' pc' ia' ic' pa pc ia ic (hd'.below hb (fun b _ h => h)) (hd.below hb (fun b _ h => h))
  have HQ : Hid (∀ w', Below w.heap.size w w' → Calls Tryd.prog 31 #[.agg (h.cells pa pc ia k.len ic), .agg (h'.cells pa' pc' ia' k'.len ic')] w' fun e w'' => e = .returned (.bool (sameD h k h' k')) ∧ Below w'.heap.size w' w'') := fun w' hb => rsame_any h k h' k' ho hk hl ho' hk' w' S T pa pc ia ic pa' pc' ia' ic' (hd.below hb (fun b _ h => h)) (hd'.below hb (fun b _ h => h))
  have HS3 : Hid (∀ w' qa qc ja jc, Below w.heap.size w w' → DatAt w' (fun _ => True) h k qa qc ja jc → Calls Tryd.prog 30 #[.agg (h.cells pa pc ia k.len ic), .agg (h.cells qa qc ja k.len jc)] w' fun e w'' => e = .returned (.bool true) ∧ Below w'.heap.size w' w'') := fun w' qa qc ja jc hb hq => by
    rw [← sameD_refl h k]
    exact same_any h k h k ho hk hl ho hk hl w' S _ pa pc ia ic qa qc ja jc (hd.below hb (fun b _ h => h)) hq
  have HO : Hid (OwnAt w) := hown
  unfold Hd.cells at HW1 HW2 HC1 HS1 HS2 HQ HS3
  clear hd hd' hown ho hk hl ho' hk' hl'
  go_upto_region 1 with fail
  go_cut [5] (fun t wx => t = .bool true ∧ Below w0.heap.size w0 wx)
  case first =>
    go_wp2_with fail
    refine (known_any _ (HO.out.below hbw (Nat.le_refl _))).mono ?_
    rintro e w1 ⟨rfl, hb1⟩
    go_wp2_with fail
    go_meet
    case rel => exact ⟨rfl, hb1⟩
  case rest =>
  obtain ⟨rfl, hb0⟩ := hcut
  obtain ⟨w1, rfl⟩ : ∃ w1 : World, w1 = wc := ⟨_, rfl⟩
  have hA1 := hA.below hb0 hA.lt
  have hB1 := hB.below hb0 hB.lt
  have hbw1 := bl_trans hbw hb0
  clear hA hB hbw hb0
  obtain ⟨c0, c1, c2, c3, c4, c5, c6, c7, c8, c9, c10⟩ := (CellsAt.of_blk hA1).box
  go_upto_region 2 with fail
  go_cut [19] (fun t wx => (t = .bool true ∨ t = .bool false) ∧ Below w1.heap.size w1 wx)
  case first =>
    as_aux_lemma =>
      go_wp2_with fail
      refine (HW1.out _ hbw1).mono ?_
      rintro e w2 ⟨n, hn1, hn2, rfl, hb2⟩
      have hB2 := hB1.below hb2 hB1.lt
      have hbw2 := bl_trans hbw1 hb2
      clear c0 c1 c2 c3 c4 c5 c6 c7 c8 c9 c10
      obtain ⟨d0, d1, d2, d3, d4, d5, d6, d7, d8, d9, d10⟩ := (CellsAt.of_blk hB2).box
      by_cases hn : 5000 < n
      · go_wp2_with fail
        go_meet
        case rel => exact ⟨.inl rfl, hb2⟩
      · have hn3 : n ≤ 5000 := by omega
        clear hn
        go_wp2_with fail
        refine (HW2.out _ hbw2).mono ?_
        rintro e w3 ⟨m, hm1, hm2, rfl, hb3⟩
        have hb13 := bl_trans hb2 hb3
        by_cases hm : 5000 < m
        · go_wp2_with fail
          go_meet
          case rel => exact ⟨.inl rfl, hb13⟩
        · have hm3 : m ≤ 5000 := by omega
          clear hm
          go_wp2_with fail
          go_meet
          case rel => exact ⟨.inr (by rw [decide_eq_false (by omega), decide_eq_false (by omega)]; rfl), hb13⟩
  case rest =>
  obtain ⟨ht, hb0⟩ := hcut
  obtain ⟨w2, rfl⟩ : ∃ w2 : World, w2 = wc := ⟨_, rfl⟩
  have hA2 := hA1.below hb0 hA1.lt
  have hB2 := hB1.below hb0 hB1.lt
  have hbw2 := bl_trans hbw1 hb0
  clear hA1 hB1 hbw1 hb0 c0 c1 c2 c3 c4 c5 c6 c7 c8 c9 c10
  rcases ht with rfl | rfl
  · go_wp2_with fail
    go_ret
    exact ⟨rfl, hbw2⟩
  obtain ⟨c0, c1, c2, c3, c4, c5, c6, c7, c8, c9, c10⟩ := (CellsAt.of_blk hA2).box
  go_upto_region 4 with fail
  go_cut [6] (fun t wx => OwnDone h k t w2 wx)
  case first =>
    as_aux_lemma =>
      go_wp2_with fail
      refine (HC1.out _ hbw2).mono ?_
      rintro e w3 ⟨qa, qc, ja, jc, rfl, hda, hb3⟩
      unfold Hd.cells
      go_wp2_with fail
      go_meet
      case rel =>
        refine ⟨_, qa, qc, ja, jc, rfl, by first | exact Blk.new _ _ _ | (unfold Hd.cells; exact Blk.new _ _ _), hda.keep (fun b _ h => Below.heap_alloc _ _ _ h) (fun _ h _ => h), by ((repeat' (first | exact Below.refl _ _ | assumption | (refine bl_alloc ?_ _) | (refine Below.drew ?_) | (refine below_drewN ?_ _) | (refine Below.setCell ?_ ?_ _) | (refine bl_trans ?_ (by assumption)))) <;> first | omega | (simp; done) | (simp; omega))⟩
  case rest =>
  obtain ⟨g, qa, qc, ja, jc, rfl, hG, hdg, hb0⟩ := hcut
  obtain ⟨w3, rfl⟩ : ∃ w3 : World, w3 = wc := ⟨_, rfl⟩
  have hA3 := hA2.below hb0 hA2.lt
  have hB3 := hB2.below hb0 hB2.lt
  have hbw3 := bl_trans hbw2 hb0
  clear hA2 hB2 hbw2 hb0 c0 c1 c2 c3 c4 c5 c6 c7 c8 c9 c10
  obtain ⟨c0, c1, c2, c3, c4, c5, c6, c7, c8, c9, c10⟩ := (CellsAt.of_blk hA3).boxrg
  obtain ⟨d0, d1, d2, d3, d4, d5, d6, d7, d8, d9, d10⟩ := (CellsAt.of_blk hB3).boxrg
  obtain ⟨g0, g1, g2, g3, g4, g5, g6, g7, g8, g9, g10⟩ := (CellsAt.of_blk hG).boxrg
  obtain ⟨x, hx⟩ : ∃ x, sameD h k h' k' = x := ⟨_, rfl⟩
  rw [hx] at HS1 HS2 HQ
  clear hx HW1 HW2 HC1
  have hs3 := fun d os => HS3.out (grow (redrawn w3 d) os) qa qc ja jc (bl_trans hbw3 (below_regrown _ _ _)) ((hdg.below (below_regrown w3 d os) (fun _ _ h => h)).any)
  have HS3' := Lib.hid hs3
  clear HS3 hs3
  go_upto_region 5 with fail
  cases x
  all_goals
    refine wp_region_below (by kernel_rfl) (by kernel_rfl) ?_
    repeat (go_big_quiet_step ((first | (with_reducible exact Calls.regrown_of (HS1.out _ (bl_trans hbw3 (below_regrown _ _ _)))) | (with_reducible exact Calls.regrown_of (HS2.out _ (bl_trans hbw3 (below_regrown _ _ _)))) | (with_reducible exact Calls.regrown_of (HQ.out _ (bl_trans hbw3 (below_regrown _ _ _)))) | (with_reducible exact Calls.regrown_of (HS3'.out _ _)))))
    refine wpQuiet_nil ?_
    intro w4 hb4
    go_wp2_with fail
    go_ret
    exact ⟨rfl, bl_trans hbw3 hb4⟩
end Go.Proofs.YthdmmhiifkebeaaDoor
