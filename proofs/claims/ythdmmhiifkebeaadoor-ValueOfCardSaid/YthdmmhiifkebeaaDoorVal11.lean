/-
  Contracts of value.rank and of the Rank methods. Written by an AI agent.
-/
import Derived.Test.YthdmmhiifkebeaaDoorVal10
namespace Go.Proofs.YthdmmhiifkebeaaDoor
open Go.RowKit Go.Sort

/-- What value.rank answers. -/
def rankH (h h' : Hd) : Int × Bool :=
  if h.kind = 2 then (signI (decide (h.n < h'.n)) (decide (h'.n < h.n)), true)
  else if h.kind = 3 then (signI (fltB h.f.toNat h'.f.toNat) (fltB h'.f.toNat h.f.toNat), !nanB h.f.toNat && !nanB h'.f.toNat)
  else (Lib.compareBytes h.s.data.toList h'.s.data.toList, true)
def rankD (h h' : Hd) (k' : Fo) : Int × Bool := if (!rightB h' k' || !oneB h h') = true then (0, false) else rankH h h'

theorem DatAt.rg {w : World} {S : Nat → Prop} {h : Hd} {k : Fo} {pa : Option Addr} {pc : Nat} {ia : Option Addr} {ic : Nat} (d : DatAt w S h k pa pc ia ic) (n : Nat) (os : Array Obj) : DatAt (grow (redrawn w n) os) S h k pa pc ia ic :=
  d.below (below_regrown w n os) (fun _ _ h => h)
theorem OwnAt.rg {w : World} (h : OwnAt w) (n : Nat) (os : Array Obj) : OwnAt (grow (redrawn w n) os) := h.below (below_regrown w n os) (Nat.le_refl _)

set_option maxRecDepth 100000 in
set_option maxHeartbeats 4000000 in
theorem rank_any (h : Hd) (k : Fo) (h' : Hd) (k' : Fo) (ho' : h'.ok) (hk' : k'.ok) (w : World) (_S T : Nat → Prop) (pa : Option Addr) (pc : Nat) (ia : Option Addr) (ic : Nat) (pa' : Option Addr) (pc' : Nat) (ia' : Option Addr) (ic' : Nat)
    (hd' : DatAt w T h' k' pa' pc' ia' ic') (hown : OwnAt w) :
    Calls Tryd.prog 149 #[.agg (h.cells pa pc ia k.len ic), .agg (h'.cells pa' pc' ia' k'.len ic')] w fun e w' => e = .returned (.tuple #[.int .i64 (rankD h h' k').1, .bool (rankD h h' k').2]) ∧ Below w.heap.size w w' := by
  unfold Hd.cells
  go_enter Tryd.func149, Tryd.ntmps149
  go_upto_region 0 with fail
  go_cut [0, 1, 2, 3] (fun _ _ t2 t3 wx => t2 = .pointer (some ⟨w.heap.size, 0, none⟩) ∧ t3 = .pointer (some ⟨w.heap.size + 1, 0, none⟩) ∧ Blk wx w.heap.size 28 (h.cells pa pc ia k.len ic) ∧ Blk wx (w.heap.size + 1) 28 (h'.cells pa' pc' ia' k'.len ic') ∧ Below w.heap.size w wx)
  case first =>
    go_wp2_with fail
    go_meet
    case rel => exact ⟨rfl, rfl, (Blk.new _ _ _).alloc _, Blk.new1 _ _ _ _, by ((repeat' (first | exact Below.refl _ _ | assumption | (refine bl_alloc ?_ _) | (refine Below.drew ?_) | (refine below_drewN ?_ _) | (refine Below.setCell ?_ ?_ _) | (refine bl_trans ?_ (by assumption)))) <;> first | omega | (simp; done) | (simp; omega))⟩
  case rest =>
  obtain ⟨rfl, rfl, hA, hB, hbw⟩ := hcut
  obtain ⟨k0, k1, k2, k3, k4, k5, k6, k7, k8, k9, k10⟩ := (CellsAt.of_blk hA).boxrg
  obtain ⟨l0, l1, l2, l3, l4, l5, l6, l7, l8, l9, l10⟩ := (CellsAt.of_blk hB).boxrg
  obtain ⟨w0, rfl⟩ : ∃ w0 : World, w0 = wc := ⟨_, rfl⟩
  have hnk := neqKind h h'
  have hR := fun d os => Right_any h' k' ho' hk' (grow (redrawn w0 d) os) T pa' pc' ia' ic' ((hd'.below hbw (fun b _ h => h)).rg d os) ((hown.below hbw (Nat.le_refl _)).rg d os)
  unfold Hd.cells at hR
  have HR := Lib.hid hR
  clear hR
  go_upto_region 1 with fail
  go_cut [17] (fun t wx => t = .bool (!rightB h' k' || !oneB h h') ∧ Below w0.heap.size w0 wx)
  case first =>
    as_aux_lemma =>
      cases hr : rightB h' k' <;> rw [hr] at HR
      · skip
        refine wp_region_below (by kernel_rfl) (by kernel_rfl) ?_
        repeat (quiet_step ((first | (exact Calls.regrown_of (HR.out _ _)) | (go_at_call_of 68 (Value.string h.type); exact Calls.regrown_of (kindOf_any h k.len pa pc ia ic _)) | (go_at_call_of 68 (Value.string h'.type); exact Calls.regrown_of (kindOf_any h' k'.len pa' pc' ia' ic' _)))))
        refine wpQuiet_nil ?_
        intro w1 hb1
        go_wp2_with fail
        go_meet
        case rel => exact ⟨by rw [hr]; rfl, hb1⟩
      · skip
        refine wp_region_below (by kernel_rfl) (by kernel_rfl) ?_
        repeat (quiet_step ((first | (exact Calls.regrown_of (HR.out _ _)) | (go_at_call_of 68 (Value.string h.type); exact Calls.regrown_of (kindOf_any h k.len pa pc ia ic _)) | (go_at_call_of 68 (Value.string h'.type); exact Calls.regrown_of (kindOf_any h' k'.len pa' pc' ia' ic' _)))))
        refine wpQuiet_nil ?_
        intro w1 hb1
        go_wp2_with fail
        go_meet
        case rel => exact ⟨by rw [hr]; rfl, hb1⟩
  case rest =>
  obtain ⟨rfl, hb1⟩ := hcut
  obtain ⟨w1, rfl⟩ : ∃ w1 : World, w1 = wc := ⟨_, rfl⟩
  have hbw1 := hbw.trans (hb1.mono hbw.size)
  have hA1 := hA.below hb1 hA.lt
  have hB1 := hB.below hb1 hB.lt
  clear k0 k1 k2 k3 k4 k5 k6 k7 k8 k9 k10 l0 l1 l2 l3 l4 l5 l6 l7 l8 l9 l10 hnk HR hA hB hb1
  by_cases hq : (!rightB h' k' || !oneB h h') = true
  · have HD : Hid (rankD h h' k' = (0, false)) := by unfold Hid rankD; rw [if_pos hq]
    rw [hq]
    go_wp2_with fail
    go_ret2
    rw [HD.out]
    exact ⟨rfl, hbw1⟩
  have HD : Hid (rankD h h' k' = rankH h h') := by unfold Hid rankD; rw [if_neg hq]
  rw [show (!rightB h' k' || !oneB h h') = false by revert hq; cases (!rightB h' k' || !oneB h h') <;> simp]
  clear hq
  obtain ⟨c0, _, c2, c3, c4, _, _, _, _, _, _⟩ := (CellsAt.of_blk hA1).box
  obtain ⟨_, _, d2, d3, d4, _, _, _, _, _, _⟩ := (CellsAt.of_blk hB1).box
  by_cases h2 : h.kind = 2
  · have HE : Hid (rankD h h' k' = (signI (decide (h.n < h'.n)) (decide (h'.n < h.n)), true)) := by unfold Hid; rw [HD.out, rankH, if_pos h2]
    rw [h2] at c0
    go_wp2_with (go_at_call 150; refine (sign_any _ _ _).mono ?_; rintro e w1 ⟨rfl, rfl⟩)
    go_ret2
    rw [HE.out]
    exact ⟨rfl, hbw1⟩
  have h22 : (h.kind == 2) = false := by simpa using h2
  by_cases h3 : h.kind = 3
  · have HE : Hid (rankD h h' k' = (signI (fltB h.f.toNat h'.f.toNat) (fltB h'.f.toNat h.f.toNat), !nanB h.f.toNat && !nanB h'.f.toNat)) := by unfold Hid; rw [HD.out, rankH, if_neg h2, if_pos h3]
    rw [h3] at c0
    clear h22 h2 c0
    obtain ⟨k0, _, _, k3, _, _, _, _, _, _, _⟩ := (CellsAt.of_blk hA1).boxrg
    obtain ⟨_, _, _, l3, _, _, _, _, _, _, _⟩ := (CellsAt.of_blk hB1).boxrg
    obtain ⟨c0, _, _, c3, _, _, _, _, _, _, _⟩ := (CellsAt.of_blk hA1).box
    rw [h3] at c0
    have hff := fromBits h.f
    have hff' := fromBits h'.f
    have e1 := flt h.f.toNat h'.f.toNat
    have e2 := fgt h.f.toNat h'.f.toNat
    have e3 := feq h.f.toNat h.f.toNat
    have e4 := feq h'.f.toNat h'.f.toNat
    rw [feq_self] at e3 e4
    go_upto_region 7 with fail
    refine wp_region_below (by kernel_rfl) (by kernel_rfl) ?_
    repeat (quiet_step ((fail)))
    refine wpQuiet_nil ?_
    intro w2 hb2
    have hbw2 := hbw1.trans (hb2.mono hbw1.size)
    go_upto_region 8 with fail
    cases e5 : nanB h.f.toNat <;> rw [e5] at e3 HE
    all_goals
      go_wp2_with (go_at_call 150; refine (sign_any _ _ _).mono ?_; rintro e w1 ⟨rfl, rfl⟩)
      go_ret2
      rw [HE.out]
      exact ⟨rfl, hbw2⟩
  have h33 : (h.kind == 3) = false := by simpa using h3
  have HE : Hid (rankD h h' k' = (Lib.compareBytes h.s.data.toList h'.s.data.toList, true)) := by unfold Hid; rw [HD.out, rankH, if_neg h2, if_neg h3]
  clear h2 h3
  go_wp2_with (go_at_call 151; refine (compare_any _ _ _).mono ?_; rintro e w1 ⟨rfl, rfl⟩)
  go_ret2
  rw [HE.out]
  exact ⟨rfl, hbw1⟩
end Go.Proofs.YthdmmhiifkebeaaDoor
