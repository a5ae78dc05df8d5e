/-
  Contracts of the reference's order, Ordered, Rank: the rank is the program's. Written by an AI agent.
-/
import Derived.Test.YthdmmhiifkebeaaDoorEq1
import Derived.Test.YthdmmhiifkebeaaDoorRef7
import Derived.Test.YthdmmhiifkebeaaDoorVal11
import Derived.WalkLawsBesides
import Derived.BigQuiet
namespace Go.Proofs.YthdmmhiifkebeaaDoor
open Go.RowKit Go.Sort

def ordI (a b : Int) : Int := if a < b then -1 else if b < a then 1 else 0
set_option maxHeartbeats 400000 in
theorem rorder_any (a b : Int) (w : World) : Calls Tryd.prog 63 #[.int .i64 a, .int .i64 b] w fun e w' => e = .returned (.int .i64 (ordI a b)) ∧ Below w.heap.size w w' := by
  go_enter Tryd.func63, Tryd.ntmps63
  go_wp2
  all_goals
    go_ret
    refine ⟨ret_int ?_, Below.refl _ _⟩
    unfold ordI
    first | (rw [if_pos (by omega)]; done) | (rw [if_neg (by omega), if_pos (by omega)]; done) | (rw [if_neg (by omega), if_neg (by omega)])
def ordB (h : Hd) : Bool := decide (h.kind = 2 ∨ h.kind = 3 ∨ h.kind = 4)
set_option maxHeartbeats 400000 in
theorem rordered_any (h : Hd) (n : Nat) (pa : Option Addr) (pc : Nat) (ia : Option Addr) (ic : Nat) (w : World) :
    Calls Tryd.prog 19 #[.agg (h.cells pa pc ia n ic)] w fun e w' => e = .returned (.bool (ordB h)) ∧ Below w.heap.size w w' := by
  unfold Hd.cells
  go_enter Tryd.func19, Tryd.ntmps19
  go_wp2
  all_goals
    go_ret
    refine ⟨ret_bool ?_, by ((repeat' (first | exact Below.refl _ _ | assumption | (refine bl_alloc ?_ _) | (refine Below.drew ?_) | (refine below_drewN ?_ _) | (refine Below.setCell ?_ ?_ _) | (refine bl_trans ?_ (by assumption)))) <;> first | omega | (simp; done) | (simp; omega))⟩
    unfold ordB
    rw [Bool.eq_iff_iff]
    simp
    try omega

theorem sign_ord (a b : Int) : signI (decide (a < b)) (decide (b < a)) = ordI a b := by
  unfold signI ordI
  by_cases h1 : a < b
  · simp [h1]
  · by_cases h2 : b < a <;> simp [h1, h2]
theorem cmp_bytes : ∀ (a b : List UInt8), Lib.compareBytes a b = if Op.bytesLess a b = true then -1 else if (!Op.bytesLess a b && !(a == b)) = true then 1 else 0
  | [], [] => by decide
  | [], _ :: _ => by simp [Lib.compareBytes, Op.bytesLess]
  | _ :: _, [] => by simp [Lib.compareBytes, Op.bytesLess]
  | x :: a, y :: b => by
    rw [Lib.compareBytes, cmp_bytes a b, Op.bytesLess]
    by_cases h1 : x < y
    · simp [h1]
    · by_cases h2 : y < x
      · have hne : ¬ x = y := fun e => by subst e; exact absurd h2 h1
        simp [h1, h2, hne]
      · have he : x = y := by
          have := UInt8.le_antisymm (UInt8.not_lt.1 h2) (UInt8.not_lt.1 h1)
          exact this
        subst he
        simp
/-- What the reference's Rank answers of the strings. -/
theorem rank_law (h h' : Hd) : rankH h h' = if h.kind = 2 then (ordI h.n h'.n, true) else if h.kind = 3 then (if (nanB h.f.toNat || nanB h'.f.toNat) = true then (0, false) else (ordI (placeF h.f.toNat) (placeF h'.f.toNat), true))
    else (if Op.bytesLess h.s.toList h'.s.toList = true then -1 else if (!Op.bytesLess h.s.toList h'.s.toList && !(h.s.toList == h'.s.toList)) = true then 1 else 0, true) := by
  unfold rankH
  by_cases h2 : h.kind = 2
  · rw [if_pos h2, if_pos h2, sign_ord]
  rw [if_neg h2, if_neg h2]
  by_cases h3 : h.kind = 3
  · rw [if_pos h3, if_pos h3]
    unfold fltB
    cases nanB h.f.toNat <;> cases nanB h'.f.toNat <;> simp [signI]
    rw [← sign_ord]
    simp [signI]
  · rw [if_neg h3, if_neg h3, cmp_bytes, Lib.toList_data, Lib.toList_data]

set_option maxRecDepth 100000 in
set_option maxHeartbeats 2000000 in
theorem rRank_any (h : Hd) (k : Fo) (h' : Hd) (k' : Fo) (ho : h.ok) (ho' : h'.ok) (hk' : k'.ok) (hl' : k'.len ≤ 1034834473170) (w : World) (T : Nat → Prop) (pa : Option Addr) (pc : Nat) (ia : Option Addr) (ic : Nat) (pa' : Option Addr) (pc' : Nat) (ia' : Option Addr) (ic' : Nat)
    (hd' : DatAt w T h' k' pa' pc' ia' ic') :
    Calls Tryd.prog 20 #[.agg (h.cells pa pc ia k.len ic), .agg (h'.cells pa' pc' ia' k'.len ic')] w fun e w' => e = .returned (.tuple #[.int .i64 (rankD h h' k').1, .bool (rankD h h' k').2]) ∧ Below w.heap.size w w' := by
  have hone := rone_any h h' k.len k'.len pa pc ia ic pa' pc' ia' ic'
  have HR2 : Hid (∀ w', Below w.heap.size w w' → Calls Tryd.prog 17 #[.agg (h'.cells pa' pc' ia' k'.len ic')] w' fun e w'' => e = .returned (.bool (rightB h' k')) ∧ Below w'.heap.size w' w'') := fun w' hb => refRight_any h' k' ho' hk' hl' w' T pa' pc' ia' ic' (hd'.below hb (fun b _ h => h))
  unfold Hd.cells at hone HR2 ⊢
  have HONE := Lib.hid hone
  clear hone hd' hk' hl'
  go_enter Tryd.func20, Tryd.ntmps20
  go_upto_region 0 with fail
  go_cut [0, 1, 2, 3, 4, 5] (fun _ _ t2 t3 _ _ wx => t2 = .pointer (some ⟨w.heap.size, 0, none⟩) ∧ t3 = .pointer (some ⟨w.heap.size + 1, 0, none⟩) ∧ Blk wx w.heap.size 28 (h.cells pa pc ia k.len ic) ∧ Blk wx (w.heap.size + 1) 28 (h'.cells pa' pc' ia' k'.len ic') ∧ Below w.heap.size w wx)
  case first =>
    go_wp2_with fail
    go_meet
    case rel => exact ⟨rfl, rfl, (Blk.new _ _ _).alloc _, Blk.new1 _ _ _ _, by ((repeat' (first | exact Below.refl _ _ | assumption | (refine bl_alloc ?_ _) | (refine Below.drew ?_) | (refine below_drewN ?_ _) | (refine Below.setCell ?_ ?_ _) | (refine bl_trans ?_ (by assumption)))) <;> first | omega | (simp; done) | (simp; omega))⟩
  case rest =>
  obtain ⟨rfl, rfl, hA, hB, hbw⟩ := hcut
  obtain ⟨w0, rfl⟩ : ∃ w0 : World, w0 = wc := ⟨_, rfl⟩
  obtain ⟨d0, d1, d2, d3, d4, d5, d6, d7, d8, d9, d10⟩ := (CellsAt.of_blk hB).box
  go_upto_region 1 with fail
  go_cut [6] (fun t wx => t = .bool (rightB h' k') ∧ Below w0.heap.size w0 wx)
  case first =>
    go_wp2_with fail
    refine (HR2.out _ hbw).mono ?_
    rintro e w1 ⟨rfl, hb1⟩
    go_wp2_with fail
    go_meet
    case rel => exact ⟨rfl, hb1⟩
  case rest =>
  obtain ⟨rfl, hb0⟩ := hcut
  obtain ⟨w1, rfl⟩ : ∃ w1 : World, w1 = wc := ⟨_, rfl⟩
  have hA1 := hA.below hb0 hA.lt
  have hB1 := hB.below hb0 hB.lt
  have hbw1 := bl_trans hbw hb0
  clear d0 d1 d2 d3 d4 d5 d6 d7 d8 d9 d10 hA hB hb0 hbw HR2
  obtain ⟨c0, c1, c2, c3, c4, c5, c6, c7, c8, c9, c10⟩ := (CellsAt.of_blk hA1).box
  obtain ⟨d0, d1, d2, d3, d4, d5, d6, d7, d8, d9, d10⟩ := (CellsAt.of_blk hB1).box
  go_upto_region 2 with fail
  go_cut [7] (fun t wx => t = .bool (oneB h h') ∧ Below w1.heap.size w1 wx)
  case first =>
    go_wp2_with fail
    refine (HONE.out _).mono ?_
    rintro e w2 ⟨rfl, hb1⟩
    go_wp2_with fail
    go_meet
    case rel => exact ⟨rfl, hb1⟩
  case rest =>
  obtain ⟨rfl, hb0⟩ := hcut
  obtain ⟨w2, rfl⟩ : ∃ w2 : World, w2 = wc := ⟨_, rfl⟩
  have hA2 := hA1.below hb0 hA1.lt
  have hB2 := hB1.below hb0 hB1.lt
  have hbw2 := bl_trans hbw1 hb0
  clear c0 c1 c2 c3 c4 c5 c6 c7 c8 c9 c10 d0 d1 d2 d3 d4 d5 d6 d7 d8 d9 d10 hA1 hB1 hb0 hbw1 HONE
  obtain ⟨c0, c1, c2, c3, c4, c5, c6, c7, c8, c9, c10⟩ := (CellsAt.of_blk hA2).box
  obtain ⟨d0, d1, d2, d3, d4, d5, d6, d7, d8, d9, d10⟩ := (CellsAt.of_blk hB2).box
  have HLW := Lib.hid (rank_law h h')
  cases hr : rightB h' k'
  · have HR : Hid (rankD h h' k' = (0, false)) := Lib.hid (by unfold rankD; rw [hr]; rfl)
    go_wp2_with fail
    go_ret2
    exact ⟨by rw [HR.out]; rfl, hbw2⟩
  cases h1 : oneB h h'
  · have HR : Hid (rankD h h' k' = (0, false)) := Lib.hid (by unfold rankD; rw [hr, h1]; rfl)
    go_wp2_with fail
    go_ret2
    exact ⟨by rw [HR.out]; rfl, hbw2⟩
  have HR : Hid (rankD h h' k' = rankH h h') := Lib.hid (by unfold rankD; rw [hr, h1]; rfl)
  by_cases h2 : h.kind = 2
  · have HS : Hid (rankH h h' = (ordI h.n h'.n, true)) := Lib.hid (by rw [HLW.out, if_pos h2])
    rw [h2] at c0
    clear h2
    go_wp2_with fail
    refine (rorder_any _ _ _).mono ?_
    rintro e w3 ⟨rfl, hb3⟩
    go_wp2_with fail
    go_ret2
    exact ⟨by rw [HR.out, HS.out]; rfl, bl_trans hbw2 hb3⟩
  by_cases h3 : h.kind = 3
  · have HS : Hid (rankH h h' = if (nanB h.f.toNat || nanB h'.f.toNat) = true then (0, false) else (ordI (placeF h.f.toNat) (placeF h'.f.toNat), true)) := Lib.hid (by rw [HLW.out, if_neg h2, if_pos h3])
    rw [h3] at c0
    clear h2 h3
    obtain ⟨hf0, hf1⟩ := And.intro ho.f0 ho.f1
    obtain ⟨hf2, hf3⟩ := And.intro ho'.f0 ho'.f1
    go_wp2_with fail
    refine (risNaN_any _ hf0 hf1 _).mono ?_
    rintro e w3 ⟨rfl, rfl⟩
    go_wp2_with fail
    refine (risNaN_any _ hf2 hf3 _).mono ?_
    rintro e w3 ⟨rfl, rfl⟩
    cases hn1 : nanB h.f.toNat
    · cases hn2 : nanB h'.f.toNat
      · rw [hn1, hn2] at HS
        have c3g := (CellsAt.of_blk hA2).boxrg.2.2.2.1
        have d3g := (CellsAt.of_blk hB2).boxrg.2.2.2.1
        have hr1 := rrank_below h.f hf0 hf1
        have hr2 := rrank_below h'.f hf2 hf3
        go_wp2_with fail
        refine wp_region_below (by kernel_rfl) (by kernel_rfl) ?_
        repeat (go_big_quiet_step ((first | (go_at_call_of 65 (Value.int .u64 h.f); exact Calls.regrown_of (hr1 _)) | (go_at_call_of 65 (Value.int .u64 h'.f); exact Calls.regrown_of (hr2 _)) | (go_at_call 63; exact Calls.regrown_of (rorder_any _ _ _)))))
        refine wpQuiet_nil ?_
        intro w4 hb4
        go_wp2_with fail
        go_ret2
        exact ⟨by rw [HR.out, HS.out]; rfl, bl_trans hbw2 hb4⟩
      · rw [hn1, hn2] at HS
        go_wp2_with fail
        go_ret2
        exact ⟨by rw [HR.out, HS.out]; rfl, hbw2⟩
    · rw [hn1] at HS
      go_wp2_with fail
      go_ret2
      exact ⟨by rw [HR.out, HS.out]; rfl, hbw2⟩
  · have HS : Hid (rankH h h' = (if Op.bytesLess h.s.toList h'.s.toList = true then -1 else if (!Op.bytesLess h.s.toList h'.s.toList && !(h.s.toList == h'.s.toList)) = true then 1 else 0, true)) := Lib.hid (by rw [HLW.out, if_neg h2, if_neg h3])
    have h2' : (h.kind == 2) = false := by simpa using h2
    have h3' : (h.kind == 3) = false := by simpa using h3
    clear h2 h3
    cases hb1 : Op.bytesLess h.s.toList h'.s.toList
    · cases hb2 : h.s.toList == h'.s.toList
      · rw [hb1, hb2] at HS
        go_wp2_with fail
        go_ret2
        exact ⟨by rw [HR.out, HS.out]; rfl, hbw2⟩
      · rw [hb1, hb2] at HS
        go_wp2_with fail
        go_ret2
        exact ⟨by rw [HR.out, HS.out]; rfl, hbw2⟩
    · rw [hb1] at HS
      go_wp2_with fail
      go_ret2
      exact ⟨by rw [HR.out, HS.out]; rfl, hbw2⟩
end Go.Proofs.YthdmmhiifkebeaaDoor
