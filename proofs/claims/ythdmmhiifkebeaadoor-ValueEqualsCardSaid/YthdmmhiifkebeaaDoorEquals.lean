/-
  The law ValueEquals walked: any two data: are they equal, or what is wrong? It returns true. Written by an AI agent.
-/
import Derived.Test.YthdmmhiifkebeaaDoorVal18
import Derived.Test.YthdmmhiifkebeaaDoorRef7
import Derived.Test.YthdmmhiifkebeaaDoorEq2
import Derived.Test.YthdmmhiifkebeaaDoorEqLaw
namespace Go.Proofs.YthdmmhiifkebeaaDoor
open Go.RowKit Go.Sort

set_option maxRecDepth 100000 in
set_option maxHeartbeats 4000000 in
theorem valueEquals_any (h : Hd) (k : Fo) (h' : Hd) (k' : Fo) (ho : h.ok) (hk : k.ok) (hl : k.len ≤ 1034834473170) (ho' : h'.ok) (hk' : k'.ok) (hl' : k'.len ≤ 1034834473170) (w : World) (S T : Nat → Prop) (pa : Option Addr) (pc : Nat) (ia : Option Addr) (ic : Nat) (pa' : Option Addr) (pc' : Nat) (ia' : Option Addr) (ic' : Nat)
    (hd : DatAt w S h k pa pc ia ic) (hd' : DatAt w T h' k' pa' pc' ia' ic') (hown : OwnAt w) :
    Calls Tryd.prog 5 #[.agg (h.cells pa pc ia k.len ic), .agg (h'.cells pa' pc' ia' k'.len ic')] w fun e w' => e = .returned (.bool true) ∧ Below w.heap.size w w' := by
  unfold Hd.cells
  go_enter Tryd.func5, Tryd.ntmps5
  go_upto_region 0 with fail
  go_cut [0, 1, 2, 3, 4] (fun _ _ t2 t3 _ wx => t2 = .pointer (some ⟨w.heap.size, 0, none⟩) ∧ t3 = .pointer (some ⟨w.heap.size + 1, 0, none⟩) ∧ Blk wx w.heap.size 28 (h.cells pa pc ia k.len ic) ∧ Blk wx (w.heap.size + 1) 28 (h'.cells pa' pc' ia' k'.len ic') ∧ Below w.heap.size w wx)
  case first =>
    go_wp2_with fail
    go_meet
    case rel => exact ⟨rfl, rfl, (Blk.new _ _ _).alloc _, Blk.new1 _ _ _ _, by ((repeat' (first | exact Below.refl _ _ | assumption | (refine bl_alloc ?_ _) | (refine Below.drew ?_) | (refine below_drewN ?_ _) | (refine Below.setCell ?_ ?_ _) | (refine bl_trans ?_ (by assumption)))) <;> first | omega | (simp; done) | (simp; omega))⟩
  case rest =>
  obtain ⟨rfl, rfl, hA, hB, hbw⟩ := hcut
  obtain ⟨w0, rfl⟩ : ∃ w0 : World, w0 = wc := ⟨_, rfl⟩
  have HR1 : Hid (∀ w', Below w.heap.size w w' → Calls Tryd.prog 17 #[.agg (h.cells pa pc ia k.len ic)] w' fun e w'' => e = .returned (.bool (rightB h k)) ∧ Below w'.heap.size w' w'') := fun w' hb => refRight_any h k ho hk hl w' S pa pc ia ic (hd.below hb (fun b _ h => h))
  have HR2 : Hid (∀ w', Below w.heap.size w w' → Calls Tryd.prog 17 #[.agg (h'.cells pa' pc' ia' k'.len ic')] w' fun e w'' => e = .returned (.bool (rightB h' k')) ∧ Below w'.heap.size w' w'') := fun w' hb => refRight_any h' k' ho' hk' hl' w' T pa' pc' ia' ic' (hd'.below hb (fun b _ h => h))
  have HE : Hid (∀ w', Below w.heap.size w w' → Calls Tryd.prog 21 #[.agg (h.cells pa pc ia k.len ic), .agg (h'.cells pa' pc' ia' k'.len ic')] w' (EqualPost h k h' k' w')) := fun w' hb => Equal_any h k h' k' ho hk ho' hk' w' S T pa pc ia ic pa' pc' ia' ic' (hd.below hb (fun b _ h => h)) (hd'.below hb (fun b _ h => h)) (hown.below hb (Nat.le_refl _))
  have HQ : Hid (∀ w', Below w.heap.size w w' → Calls Tryd.prog 23 #[.agg (h.cells pa pc ia k.len ic), .agg (h'.cells pa' pc' ia' k'.len ic')] w' fun e w'' => e = .returned (.tuple #[.bool (reqD h k h' k').1, fault (reqD h k h' k').2]) ∧ Below w'.heap.size w' w'') := fun w' hb => req_any h k h' k' ho hk ho' hk' w' S T pa pc ia ic pa' pc' ia' ic' (hd.below hb (fun b _ h => h)) (hd'.below hb (fun b _ h => h))
  have HO : Hid (OwnAt w) := hown
  have HLAW : Hid (rightB h k = true → rightB h' k' = true → reqD h k h' k' = conv (equalD h k h' k')) := fun h1 h2 => eq_law h1 h2
  unfold Hd.cells at HR1 HR2 HE HQ
  clear hd hd' hown ho hk hl ho' hk' hl'
  go_upto_region 1 with fail
  go_cut [5] (fun t wx => t = .bool true ∧ Below w0.heap.size w0 wx)
  case first =>
    go_wp2_with fail
    refine (known_any _ (HO.out.below hbw (Nat.le_refl _))).mono ?_
    rintro e w1 ⟨rfl, hb1⟩
    go_wp2_with fail
    go_meet
    case rel => exact ⟨rfl, hb1⟩
  case rest =>
  obtain ⟨rfl, hb0⟩ := hcut
  obtain ⟨w1, rfl⟩ : ∃ w1 : World, w1 = wc := ⟨_, rfl⟩
  have hA1 := hA.below hb0 hA.lt
  have hB1 := hB.below hb0 hB.lt
  have hbw1 := bl_trans hbw hb0
  clear hA hB hbw hb0
  obtain ⟨c0, c1, c2, c3, c4, c5, c6, c7, c8, c9, c10⟩ := (CellsAt.of_blk hA1).box
  go_upto_region 2 with fail
  go_cut [6] (fun t wx => t = .bool (rightB h k) ∧ Below w1.heap.size w1 wx)
  case first =>
    go_wp2_with fail
    refine (HR1.out _ hbw1).mono ?_
    rintro e w2 ⟨rfl, hb2⟩
    go_wp2_with fail
    go_meet
    case rel => exact ⟨rfl, hb2⟩
  case rest =>
  obtain ⟨rfl, hb0⟩ := hcut
  obtain ⟨w2, rfl⟩ : ∃ w2 : World, w2 = wc := ⟨_, rfl⟩
  have hA2 := hA1.below hb0 hA1.lt
  have hB2 := hB1.below hb0 hB1.lt
  have hbw2 := bl_trans hbw1 hb0
  clear hA1 hB1 hbw1 hb0 c0 c1 c2 c3 c4 c5 c6 c7 c8 c9 c10
  obtain ⟨d0, d1, d2, d3, d4, d5, d6, d7, d8, d9, d10⟩ := (CellsAt.of_blk hB2).box
  go_upto_region 3 with fail
  go_cut [7] (fun t wx => t = .bool (rightB h' k') ∧ Below w2.heap.size w2 wx)
  case first =>
    go_wp2_with fail
    refine (HR2.out _ hbw2).mono ?_
    rintro e w3 ⟨rfl, hb2⟩
    go_wp2_with fail
    go_meet
    case rel => exact ⟨rfl, hb2⟩
  case rest =>
  obtain ⟨rfl, hb0⟩ := hcut
  obtain ⟨w3, rfl⟩ : ∃ w3 : World, w3 = wc := ⟨_, rfl⟩
  have hA3 := hA2.below hb0 hA2.lt
  have hB3 := hB2.below hb0 hB2.lt
  have hbw3 := bl_trans hbw2 hb0
  clear hA2 hB2 hbw2 hb0 d0 d1 d2 d3 d4 d5 d6 d7 d8 d9 d10
  obtain ⟨c0, c1, c2, c3, c4, c5, c6, c7, c8, c9, c10⟩ := (CellsAt.of_blk hA3).box
  obtain ⟨d0, d1, d2, d3, d4, d5, d6, d7, d8, d9, d10⟩ := (CellsAt.of_blk hB3).box
  go_upto_region 4 with fail
  go_cut [8, 9] (fun t8 t9 wx => t8 = .bool (eqAns h k h' k') ∧ ErrAt w3 wx t9 (eqEr h k h' k') ∧ Below w3.heap.size w3 wx)
  case first =>
    go_wp2_with fail
    refine (HE.out _ hbw3).mono ?_
    intro e w4 hp
    obtain ⟨v, rfl, hv, hb4⟩ := equal_post hp
    go_wp2_with fail
    go_meet
    case rel => exact ⟨rfl, hv, hb4⟩
  case rest =>
  obtain ⟨rfl, hv1, hb0⟩ := hcut
  obtain ⟨w4, rfl⟩ : ∃ w4 : World, w4 = wc := ⟨_, rfl⟩
  have hA4 := hA3.below hb0 hA3.lt
  have hB4 := hB3.below hb0 hB3.lt
  have hbw4 := bl_trans hbw3 hb0
  clear hA3 hB3 hbw3 hb0 c0 c1 c2 c3 c4 c5 c6 c7 c8 c9 c10 d0 d1 d2 d3 d4 d5 d6 d7 d8 d9 d10
  obtain ⟨c0, c1, c2, c3, c4, c5, c6, c7, c8, c9, c10⟩ := (CellsAt.of_blk hA4).box
  obtain ⟨d0, d1, d2, d3, d4, d5, d6, d7, d8, d9, d10⟩ := (CellsAt.of_blk hB4).box
  go_upto_region 5 with fail
  go_cut [10, 11] (fun t8 t9 wx => t8 = .bool (eqAns h k h' k') ∧ ErrAt w4 wx t9 (eqEr h k h' k') ∧ Below w4.heap.size w4 wx)
  case first =>
    go_wp2_with fail
    refine (HE.out _ hbw4).mono ?_
    intro e w5 hp
    obtain ⟨v, rfl, hv, hb4⟩ := equal_post hp
    go_wp2_with fail
    go_meet
    case rel => exact ⟨rfl, hv, hb4⟩
  case rest =>
  obtain ⟨rfl, hv2, hb0⟩ := hcut
  obtain ⟨w5, rfl⟩ : ∃ w5 : World, w5 = wc := ⟨_, rfl⟩
  have hA5 := hA4.below hb0 hA4.lt
  have hB5 := hB4.below hb0 hB4.lt
  have hbw5 := bl_trans hbw4 hb0
  have hv1 := hv1.keep hb0
  clear hA4 hB4 hbw4 hb0 c0 c1 c2 c3 c4 c5 c6 c7 c8 c9 c10 d0 d1 d2 d3 d4 d5 d6 d7 d8 d9 d10
  obtain ⟨x, hx⟩ : ∃ x, eqAns h k h' k' = x := ⟨_, rfl⟩
  obtain ⟨er, her⟩ : ∃ x, eqEr h k h' k' = x := ⟨_, rfl⟩
  obtain ⟨r1, hr1⟩ : ∃ x, rightB h k = x := ⟨_, rfl⟩
  obtain ⟨r2, hr2⟩ : ∃ x, rightB h' k' = x := ⟨_, rfl⟩
  rw [hx, hr1, hr2]
  rw [her] at hv1 hv2
  have HX := Lib.hid hx
  have HER := Lib.hid her
  have HR1' := Lib.hid hr1
  have HR2' := Lib.hid hr2
  clear hx her hr1 hr2 HR1 HR2 HE
  have hwr1 := lawWrong_any w3 w5 _ er hv1
  have HW1 := Lib.hid hwr1
  clear hwr1
  go_upto_region 6 with fail
  go_cut [40] (fun t wx => t = .bool (!(r1 && r2)) ∧ w5 = wx)
  case first =>
    cases r1 <;> cases r2 <;> (go_wp2_with fail; go_meet; exact ⟨rfl, rfl⟩)
  case rest =>
  obtain ⟨rfl, rfl⟩ := hcut
  by_cases hboth : r1 = true ∧ r2 = true
  · obtain ⟨rfl, rfl⟩ := hboth
    have hlaw := HLAW.out HR1'.out HR2'.out
    have hq := HQ.out _ hbw5
    rw [hlaw] at hq
    have hxx : x = (equalD h k h' k').1 := by rw [← HX.out, eqAns, HR1'.out, HR2'.out]; rfl
    have hee : er = if (equalD h k h' k').2 = emp then .ok else .fault cmpW (equalD h k h' k').2 := by rw [← HER.out, eqEr, HR1'.out, HR2'.out]; rfl
    obtain ⟨word, more, hfw, htold⟩ : ∃ word more, fault (conv (equalD h k h' k')).2 = .agg #[.string word, .string more] ∧ er.told word more = true := by
      rw [hee]
      unfold conv
      by_cases he : (equalD h k h' k').2 = emp
      · refine ⟨emp, emp, ?_, ?_⟩
        · simp only [if_pos he]; rfl
        · rw [if_pos he]; rfl
      · refine ⟨cmpW, (equalD h k h' k').2, ?_, ?_⟩
        · simp only [if_neg he]; rfl
        · rw [if_neg he]
          have hc : cmpW ≠ emp := by decide
          simp [Er.told, hc]
    rw [hfw, show (conv (equalD h k h' k')).1 = x from hxx.symm] at hq
    have HQ' := Lib.hid hq
    have HT1 := Lib.hid htold
    clear hq hlaw hxx hee hfw htold HQ HLAW
    obtain ⟨c0, c1, c2, c3, c4, c5, c6, c7, c8, c9, c10⟩ := (CellsAt.of_blk hA5).box
    obtain ⟨d0, d1, d2, d3, d4, d5, d6, d7, d8, d9, d10⟩ := (CellsAt.of_blk hB5).box
    go_upto_region 10 with fail
    go_cut [14, 15] (fun t14 t15 wx => t14 = .bool x ∧ ∃ g, t15 = .pointer (some ⟨g, 0, none⟩) ∧ Blk wx g 48 #[.string word, .string more] ∧ Below w5.heap.size w5 wx)
    case first =>
      go_wp2_with fail
      refine HQ'.out.mono ?_
      rintro e w6 ⟨rfl, hb6⟩
      have hn := Blk.new w6 48 #[.string ⟨#[]⟩, .string ⟨#[]⟩]
      have e0 := hn.cell 0
      have e1 := hn.cell 1
      have hfr := fun j => hn.frozen j
      simp at e0 e1
      have hns := (hn.set_ 0 (.string word)).set_ 1 (.string more)
      simp at hns
      have HNS := Lib.hid hns
      clear hn hns
      go_wp2_with fail
      go_meet
      case rel => exact ⟨rfl, _, rfl, (by first | exact HNS.out | exact Blk.new _ _ _), by ((repeat' (first | exact Below.refl _ _ | assumption | (refine bl_alloc ?_ _) | (refine Below.drew ?_) | (refine below_drewN ?_ _) | (refine Below.setCell ?_ ?_ _) | (refine bl_trans ?_ (by assumption)))) <;> first | omega | (simp; done) | (simp; omega))⟩
    case rest =>
    obtain ⟨rfl, g, rfl, hG, hb0⟩ := hcut
    obtain ⟨w6, rfl⟩ : ∃ w6 : World, w6 = wc := ⟨_, rfl⟩
    have hbw6 := bl_trans hbw5 hb0
    have hv1 := hv1.keep hb0
    have hv2 := hv2.keep hb0
    have e0 := hG.cell 0
    have e1 := hG.cell 1
    simp at e0 e1
    clear c0 c1 c2 c3 c4 c5 c6 c7 c8 c9 c10 d0 d1 d2 d3 d4 d5 d6 d7 d8 d9 d10 hb0 hA5 hB5 hbw5 HW1
    have ht1 := lawTold_any w3 w6 _ er word more hv1
    rw [HT1.out] at ht1
    have HTA := Lib.hid ht1
    clear ht1
    go_upto_region 11 with fail
    go_cut [16] (fun t wx => t = .bool true ∧ Below w6.heap.size w6 wx)
    case first =>
      go_wp2_with fail
      refine HTA.out.mono ?_
      rintro e w7 ⟨rfl, hb7⟩
      go_wp2_with fail
      go_meet
      case rel => exact ⟨rfl, hb7⟩
    case rest =>
    obtain ⟨rfl, hb0⟩ := hcut
    obtain ⟨w7, rfl⟩ : ∃ w7 : World, w7 = wc := ⟨_, rfl⟩
    have hbw7 := bl_trans hbw6 hb0
    have hv2 := hv2.keep hb0
    have hG7 := hG.below hb0 hG.lt
    clear e0 e1 HTA hb0 hbw6 hv1 hG
    have e0 := hG7.cell 0
    have e1 := hG7.cell 1
    simp at e0 e1
    have ht2 := lawTold_any w4 w7 _ er word more hv2
    rw [HT1.out] at ht2
    have HTB := Lib.hid ht2
    clear ht2
    go_upto_region 12 with fail
    go_cut [17] (fun t wx => t = .bool true ∧ Below w7.heap.size w7 wx)
    case first =>
      go_wp2_with fail
      refine HTB.out.mono ?_
      rintro e w8 ⟨rfl, hb8⟩
      go_wp2_with fail
      go_meet
      case rel => exact ⟨rfl, hb8⟩
    case rest =>
    obtain ⟨rfl, hb0⟩ := hcut
    cases x <;> (go_wp2_with fail; go_ret; exact ⟨rfl, bl_trans hbw7 hb0⟩)
  · have hx0 : x = false := by rw [← HX.out, eqAns, HR1'.out, HR2'.out]; revert hboth; cases r1 <;> cases r2 <;> simp
    have he0 : er = .wrong := by rw [← HER.out, eqEr, HR1'.out, HR2'.out]; revert hboth; cases r1 <;> cases r2 <;> simp
    subst hx0 he0
    clear HQ HLAW
    have hnb : (!(r1 && r2)) = true := by revert hboth; cases r1 <;> cases r2 <;> simp
    rw [hnb]
    clear hboth hnb
    go_upto_region 7 with fail
    go_cut [12] (fun t wx => t = .bool true ∧ Below w5.heap.size w5 wx)
    case first =>
      go_wp2_with fail
      refine HW1.out.mono ?_
      rintro e w6 ⟨rfl, hb6⟩
      go_wp2_with fail
      go_meet
      case rel => exact ⟨rfl, hb6⟩
    case rest =>
    obtain ⟨rfl, hb0⟩ := hcut
    obtain ⟨w6, rfl⟩ : ∃ w6 : World, w6 = wc := ⟨_, rfl⟩
    have hbw6 := bl_trans hbw5 hb0
    have hv2 := hv2.keep hb0
    have hw2 := lawWrong_any w4 w6 _ .wrong hv2
    have HW2 := Lib.hid hw2
    clear hw2 hb0 HW1
    go_upto_region 8 with fail
    go_cut [13] (fun t wx => t = .bool true ∧ Below w6.heap.size w6 wx)
    case first =>
      go_wp2_with fail
      refine HW2.out.mono ?_
      rintro e w7 ⟨rfl, hb7⟩
      go_wp2_with fail
      go_meet
      case rel => exact ⟨rfl, hb7⟩
    case rest =>
    obtain ⟨rfl, hb0⟩ := hcut
    go_wp2_with fail
    go_ret
    exact ⟨rfl, bl_trans hbw6 hb0⟩
end Go.Proofs.YthdmmhiifkebeaaDoor
