/-
  The law ValueKeys walked: any two data as keys; equal ones have one number. It returns true. Written by an AI agent.
-/
import Derived.Test.YthdmmhiifkebeaaDoorVal18
import Derived.Test.YthdmmhiifkebeaaDoorRef7
import Derived.Test.YthdmmhiifkebeaaDoorRKey
import Derived.Test.YthdmmhiifkebeaaDoorKyLaw
namespace Go.Proofs.YthdmmhiifkebeaaDoor
open Go.RowKit Go.Sort

set_option maxRecDepth 100000 in
set_option maxHeartbeats 4000000 in
theorem valueKeys_any (h : Hd) (k : Fo) (h' : Hd) (k' : Fo) (ho : h.ok) (hk : k.ok) (hl : k.len ≤ 1034834473170) (ho' : h'.ok) (hk' : k'.ok) (hl' : k'.len ≤ 1034834473170) (w : World) (S T : Nat → Prop) (pa : Option Addr) (pc : Nat) (ia : Option Addr) (ic : Nat) (pa' : Option Addr) (pc' : Nat) (ia' : Option Addr) (ic' : Nat)
    (hd : DatAt w S h k pa pc ia ic) (hd' : DatAt w T h' k' pa' pc' ia' ic') (hown : OwnAt w) :
    Calls Tryd.prog 6 #[.agg (h.cells pa pc ia k.len ic), .agg (h'.cells pa' pc' ia' k'.len ic')] w fun e w' => e = .returned (.bool true) ∧ Below w.heap.size w w' := by
  unfold Hd.cells
  go_enter Tryd.func6, Tryd.ntmps6
  go_upto_region 0 with fail
  go_cut [0, 1, 2, 3, 4] (fun _ _ t2 t3 _ wx => t2 = .pointer (some ⟨w.heap.size, 0, none⟩) ∧ t3 = .pointer (some ⟨w.heap.size + 1, 0, none⟩) ∧ Blk wx w.heap.size 28 (h.cells pa pc ia k.len ic) ∧ Blk wx (w.heap.size + 1) 28 (h'.cells pa' pc' ia' k'.len ic') ∧ Below w.heap.size w wx)
  case first =>
    go_wp2_with fail
    go_meet
    case rel => exact ⟨rfl, rfl, (Blk.new _ _ _).alloc _, Blk.new1 _ _ _ _, by ((repeat' (first | exact Below.refl _ _ | assumption | (refine bl_alloc ?_ _) | (refine Below.drew ?_) | (refine below_drewN ?_ _) | (refine Below.setCell ?_ ?_ _) | (refine bl_trans ?_ (by assumption)))) <;> first | omega | (simp; done) | (simp; omega))⟩
  case rest =>
  obtain ⟨rfl, rfl, hA, hB, hbw⟩ := hcut
  obtain ⟨w0, rfl⟩ : ∃ w0 : World, w0 = wc := ⟨_, rfl⟩
  have hA0 := hA
  have hB0 := hB
  have hbw0 := hbw
  clear hA hB hbw
  have HR1 : Hid (∀ w', Below w.heap.size w w' → Calls Tryd.prog 17 #[.agg (h.cells pa pc ia k.len ic)] w' fun e w'' => e = .returned (.bool (rightB h k)) ∧ Below w'.heap.size w' w'') := fun w' hb => refRight_any h k ho hk hl w' S pa pc ia ic (hd.below hb (fun b _ h => h))
  have HR2 : Hid (∀ w', Below w.heap.size w w' → Calls Tryd.prog 17 #[.agg (h'.cells pa' pc' ia' k'.len ic')] w' fun e w'' => e = .returned (.bool (rightB h' k')) ∧ Below w'.heap.size w' w'') := fun w' hb => refRight_any h' k' ho' hk' hl' w' T pa' pc' ia' ic' (hd'.below hb (fun b _ h => h))
  have HK : Hid (∀ w', Below w.heap.size w w' → Calls Tryd.prog 25 #[.agg (h.cells pa pc ia k.len ic)] w' (KeyPost h k w')) := fun w' hb => key_any h k ho hk hl w' S pa pc ia ic (hd.below hb (fun b _ h => h)) (hown.below hb (Nat.le_refl _))
  have HH : Hid (∀ w', Below w.heap.size w w' → Calls Tryd.prog 26 #[.agg (h.cells pa pc ia k.len ic)] w' (HashPost h k w')) := fun w' hb => Hash_any h k ho hk hl w' S pa pc ia ic (hd.below hb (fun b _ h => h)) (hown.below hb (Nat.le_refl _))
  have HH2 : Hid (∀ w', Below w.heap.size w w' → Calls Tryd.prog 26 #[.agg (h'.cells pa' pc' ia' k'.len ic')] w' (HashPost h' k' w')) := fun w' hb => Hash_any h' k' ho' hk' hl' w' T pa' pc' ia' ic' (hd'.below hb (fun b _ h => h)) (hown.below hb (Nat.le_refl _))
  have HRK : Hid (∀ w', Below w.heap.size w w' → Calls Tryd.prog 27 #[.agg (h.cells pa pc ia k.len ic)] w' fun e w'' => e = .returned (keyFault (reqD h k h k).2) ∧ Below w'.heap.size w' w'') := fun w' hb => rKey_any h k ho hk w' S pa pc ia ic (hd.below hb (fun b _ h => h))
  have HQ : Hid (∀ w', Below w.heap.size w w' → Calls Tryd.prog 23 #[.agg (h.cells pa pc ia k.len ic), .agg (h'.cells pa' pc' ia' k'.len ic')] w' fun e w'' => e = .returned (.tuple #[.bool (reqD h k h' k').1, fault (reqD h k h' k').2]) ∧ Below w'.heap.size w' w'') := fun w' hb => req_any h k h' k' ho hk ho' hk' w' S T pa pc ia ic pa' pc' ia' ic' (hd.below hb (fun b _ h => h)) (hd'.below hb (fun b _ h => h))
  have HO : Hid (OwnAt w) := hown
  have HLAW : Hid (rightB h k = true → rightB h' k' = true → reqD h k h' k' = conv (equalD h k h' k')) := fun h1 h2 => eq_law h1 h2
  have HKT : Hid (rightB h k = true → ∃ word more : ByteArray, keyFault (reqD h k h k).2 = .agg #[.string word, .string more] ∧ (keyEr h k).told word more = true ∧ ((keyB h k = true ∧ word = ⟨#[]⟩) ∨ (keyB h k = false ∧ word = ⟨#[107, 101, 121]⟩ ∧ keyN h k = 0))) := fun h1 => key_told h1
  have HKE : Hid (rightB h' k' = true → (equalD h k h' k').1 = true → keyB h' k' = true) := fun h1 h2 => key_equal h1 h2
  have HHV : Hid (rightB h k = true → rightB h' k' = true → (equalD h k h' k').1 = true → hashV h k = hashV h' k') := fun h1 h2 h3 => hashV_eq ho ho' hk hk' h1 h2 h3
  unfold Hd.cells at HR1 HR2 HK HH HH2 HRK HQ
  clear hd hd' hown ho hk hl ho' hk' hl' 
  go_upto_region 1 with fail
  go_cut [5] (fun t wx => t = .bool true ∧ Below w0.heap.size w0 wx)
  case first =>
    go_wp2_with fail
    refine (known_any _ (HO.out.below hbw0 (Nat.le_refl _))).mono ?_
    rintro e w1 ⟨rfl, hb1⟩
    go_wp2_with fail
    go_meet
    case rel => exact ⟨rfl, hb1⟩
  case rest =>
  obtain ⟨rfl, hb0⟩ := hcut
  obtain ⟨w1, rfl⟩ : ∃ w1 : World, w1 = wc := ⟨_, rfl⟩
  have hA1 := hA0.below hb0 hA0.lt
  have hB1 := hB0.below hb0 hB0.lt
  have hbw1 := bl_trans hbw0 hb0
  clear hb0 hbw0 hA0 hB0
  obtain ⟨c0, c1, c2, c3, c4, c5, c6, c7, c8, c9, c10⟩ := (CellsAt.of_blk hA1).box
  go_upto_region 2 with fail
  go_cut [6] (fun t wx => t = .bool (rightB h k) ∧ Below w1.heap.size w1 wx)
  case first =>
    go_wp2_with fail
    refine (HR1.out _ hbw1).mono ?_
    rintro e wa ⟨rfl, hb1⟩
    go_wp2_with fail
    go_meet
    case rel => exact ⟨rfl, hb1⟩
  case rest =>
  obtain ⟨rfl, hb0⟩ := hcut
  obtain ⟨w2, rfl⟩ : ∃ w2 : World, w2 = wc := ⟨_, rfl⟩
  have hA2 := hA1.below hb0 hA1.lt
  have hB2 := hB1.below hb0 hB1.lt
  have hbw2 := bl_trans hbw1 hb0
  clear hb0 hbw1 hA1 hB1 c0 c1 c2 c3 c4 c5 c6 c7 c8 c9 c10
  obtain ⟨c0, c1, c2, c3, c4, c5, c6, c7, c8, c9, c10⟩ := (CellsAt.of_blk hB2).box
  go_upto_region 3 with fail
  go_cut [7] (fun t wx => t = .bool (rightB h' k') ∧ Below w2.heap.size w2 wx)
  case first =>
    go_wp2_with fail
    refine (HR2.out _ hbw2).mono ?_
    rintro e wa ⟨rfl, hb1⟩
    go_wp2_with fail
    go_meet
    case rel => exact ⟨rfl, hb1⟩
  case rest =>
  obtain ⟨rfl, hb0⟩ := hcut
  obtain ⟨w3, rfl⟩ : ∃ w3 : World, w3 = wc := ⟨_, rfl⟩
  have hA3 := hA2.below hb0 hA2.lt
  have hB3 := hB2.below hb0 hB2.lt
  have hbw3 := bl_trans hbw2 hb0
  clear hb0 hbw2 hA2 hB2 c0 c1 c2 c3 c4 c5 c6 c7 c8 c9 c10
  obtain ⟨c0, c1, c2, c3, c4, c5, c6, c7, c8, c9, c10⟩ := (CellsAt.of_blk hA3).box
  go_upto_region 4 with fail
  go_cut [8] (fun t wx => ErrAt w3 wx t (keyEr h k) ∧ Below w3.heap.size w3 wx)
  case first =>
    go_wp2_with fail
    refine (HK.out _ hbw3).mono ?_
    rintro e wa ⟨hb1, v, rfl, hv⟩
    replace hv := key_err hv
    go_wp2_with fail
    go_meet
    case rel => exact ⟨hv, hb1⟩
  case rest =>
  obtain ⟨hv1, hb0⟩ := hcut
  obtain ⟨w4, rfl⟩ : ∃ w4 : World, w4 = wc := ⟨_, rfl⟩
  have hA4 := hA3.below hb0 hA3.lt
  have hB4 := hB3.below hb0 hB3.lt
  have hbw4 := bl_trans hbw3 hb0
  clear hb0 hbw3 hA3 hB3 c0 c1 c2 c3 c4 c5 c6 c7 c8 c9 c10
  obtain ⟨c0, c1, c2, c3, c4, c5, c6, c7, c8, c9, c10⟩ := (CellsAt.of_blk hA4).box
  go_upto_region 5 with fail
  go_cut [9, 10] (fun t9 t10 wx => (t9 = .int .u64 (keyN h k) ∧ ErrAt w4 wx t10 (keyEr h k)) ∧ Below w4.heap.size w4 wx)
  case first =>
    go_wp2_with fail
    refine (HH.out _ hbw4).mono ?_
    rintro e wa ⟨hb1, m, v, rfl, hv, hm⟩
    replace hv := key_err hv
    replace hm : m = keyN h k := hm
    subst hm
    go_wp2_with fail
    go_meet
    case rel => exact ⟨⟨rfl, hv⟩, hb1⟩
  case rest =>
  obtain ⟨⟨rfl, hv2⟩, hb0⟩ := hcut
  obtain ⟨w5, rfl⟩ : ∃ w5 : World, w5 = wc := ⟨_, rfl⟩
  have hA5 := hA4.below hb0 hA4.lt
  have hB5 := hB4.below hb0 hB4.lt
  have hv1 := hv1.keep hb0
  have hbw5 := bl_trans hbw4 hb0
  clear hb0 hbw4 hA4 hB4 c0 c1 c2 c3 c4 c5 c6 c7 c8 c9 c10
  obtain ⟨c0, c1, c2, c3, c4, c5, c6, c7, c8, c9, c10⟩ := (CellsAt.of_blk hA5).box
  go_upto_region 6 with fail
  go_cut [11, 12] (fun t9 t10 wx => (t9 = .int .u64 (keyN h k) ∧ ErrAt w5 wx t10 (keyEr h k)) ∧ Below w5.heap.size w5 wx)
  case first =>
    go_wp2_with fail
    refine (HH.out _ hbw5).mono ?_
    rintro e wa ⟨hb1, m, v, rfl, hv, hm⟩
    replace hv := key_err hv
    replace hm : m = keyN h k := hm
    subst hm
    go_wp2_with fail
    go_meet
    case rel => exact ⟨⟨rfl, hv⟩, hb1⟩
  case rest =>
  obtain ⟨⟨rfl, hv3⟩, hb0⟩ := hcut
  obtain ⟨w6, rfl⟩ : ∃ w6 : World, w6 = wc := ⟨_, rfl⟩
  have hA6 := hA5.below hb0 hA5.lt
  have hB6 := hB5.below hb0 hB5.lt
  have hv1 := hv1.keep hb0
  have hv2 := hv2.keep hb0
  have hbw6 := bl_trans hbw5 hb0
  clear hb0 hbw5 hA5 hB5 c0 c1 c2 c3 c4 c5 c6 c7 c8 c9 c10
  obtain ⟨N, hN⟩ : ∃ x, keyN h k = x := ⟨_, rfl⟩
  have hNd : N = keyN h k := hN.symm
  have HN := Lib.hid hNd
  obtain ⟨r1, hr1⟩ : ∃ x, rightB h k = x := ⟨_, rfl⟩
  obtain ⟨r2, hr2⟩ : ∃ x, rightB h' k' = x := ⟨_, rfl⟩
  rw [hN, hr1, hr2]
  have HR1' := Lib.hid hr1
  have HR2' := Lib.hid hr2
  clear hN hNd hr1 hr2 HR1 HR2 HK HH
  cases r1
  · as_aux_lemma =>
      have he0 : keyEr h k = .wrong := by unfold keyEr; rw [if_neg (by rw [HR1'.out]; simp)]
      have hN0 : N = 0 := by rw [HN.out, keyN, HR1'.out]; rfl
      subst hN0
      rw [he0] at hv1 hv2 hv3
      clear he0 HN HKT HLAW HQ HRK HH2 HKE HHV
      go_upto_region 8 with fail
      go_cut [13] (fun t wx => t = .bool true ∧ Below w6.heap.size w6 wx)
      case first =>
        go_wp2_with fail
        refine (lawWrong_any _ w6 _ .wrong hv1).mono ?_
        rintro e wa ⟨rfl, hb1⟩
        go_wp2_with fail
        go_meet
        case rel => exact ⟨rfl, hb1⟩
      case rest =>
      obtain ⟨rfl, hb0⟩ := hcut
      obtain ⟨w7, rfl⟩ : ∃ w7 : World, w7 = wc := ⟨_, rfl⟩
      have hA7 := hA6.below hb0 hA6.lt
      have hB7 := hB6.below hb0 hB6.lt
      have hv1 := hv1.keep hb0
      have hv2 := hv2.keep hb0
      have hv3 := hv3.keep hb0
      have hbw7 := bl_trans hbw6 hb0
      clear hb0 hbw6 hA6 hB6
      go_upto_region 9 with fail
      go_cut [14] (fun t wx => t = .bool true ∧ Below w7.heap.size w7 wx)
      case first =>
        go_wp2_with fail
        refine (lawWrong_any _ w7 _ .wrong hv2).mono ?_
        rintro e wa ⟨rfl, hb1⟩
        go_wp2_with fail
        go_meet
        case rel => exact ⟨rfl, hb1⟩
      case rest =>
      obtain ⟨rfl, hb0⟩ := hcut
      obtain ⟨w8, rfl⟩ : ∃ w8 : World, w8 = wc := ⟨_, rfl⟩
      have hA8 := hA7.below hb0 hA7.lt
      have hB8 := hB7.below hb0 hB7.lt
      have hv1 := hv1.keep hb0
      have hv2 := hv2.keep hb0
      have hv3 := hv3.keep hb0
      have hbw8 := bl_trans hbw7 hb0
      clear hb0 hbw7 hA7 hB7
      go_wp2_with fail
      go_ret
      exact ⟨rfl, hbw8⟩
  obtain ⟨word, more, hkf, htold, hcase⟩ := HKT.out HR1'.out
  rw [hkf] at HRK
  have HT := Lib.hid htold
  have HC := Lib.hid hcase
  clear hkf htold hcase HKT
  obtain ⟨c0, c1, c2, c3, c4, c5, c6, c7, c8, c9, c10⟩ := (CellsAt.of_blk hA6).box
  go_upto_region 11 with fail
  go_cut [15] (fun t wx => (∃ g, t = .pointer (some ⟨g, 0, none⟩) ∧ Blk wx g 48 #[.string word, .string more]) ∧ Below w6.heap.size w6 wx)
  case first =>
    go_wp2_with fail
    refine (HRK.out _ hbw6).mono ?_
    rintro e wa ⟨rfl, hb1⟩
    go_wp2_with fail
    go_meet
    case rel => exact ⟨⟨_, rfl, Blk.new _ _ _⟩, by ((repeat' (first | exact Below.refl _ _ | assumption | (refine bl_alloc ?_ _) | (refine Below.drew ?_) | (refine below_drewN ?_ _) | (refine Below.setCell ?_ ?_ _) | (refine bl_trans ?_ (by assumption)))) <;> first | omega | (simp; done) | (simp; omega))⟩
  case rest =>
  obtain ⟨⟨g, rfl, hG0⟩, hb0⟩ := hcut
  obtain ⟨w7, rfl⟩ : ∃ w7 : World, w7 = wc := ⟨_, rfl⟩
  have hA7 := hA6.below hb0 hA6.lt
  have hB7 := hB6.below hb0 hB6.lt
  have hv1 := hv1.keep hb0
  have hv2 := hv2.keep hb0
  have hv3 := hv3.keep hb0
  have hbw7 := bl_trans hbw6 hb0
  clear hb0 hbw6 hA6 hB6 c0 c1 c2 c3 c4 c5 c6 c7 c8 c9 c10
  have hG7 := hG0
  clear hG0 HRK
  have ht1 := lawTold_any _ w7 _ _ word more hv1
  rw [HT.out] at ht1
  have HTA := Lib.hid ht1
  clear ht1 hv1
  have e0 := hG7.cell 0
  have e1 := hG7.cell 1
  simp at e0 e1
  go_upto_region 12 with fail
  go_cut [16] (fun t wx => t = .bool true ∧ Below w7.heap.size w7 wx)
  case first =>
    go_wp2_with fail
    refine (HTA.out).mono ?_
    rintro e wa ⟨rfl, hb1⟩
    go_wp2_with fail
    go_meet
    case rel => exact ⟨rfl, hb1⟩
  case rest =>
  obtain ⟨rfl, hb0⟩ := hcut
  obtain ⟨w8, rfl⟩ : ∃ w8 : World, w8 = wc := ⟨_, rfl⟩
  have hA8 := hA7.below hb0 hA7.lt
  have hB8 := hB7.below hb0 hB7.lt
  have hG8 := hG7.below hb0 hG7.lt
  have hv2 := hv2.keep hb0
  have hv3 := hv3.keep hb0
  have hbw8 := bl_trans hbw7 hb0
  clear hb0 hbw7 hA7 hB7 hG7
  clear HTA e0 e1
  have ht1 := lawTold_any _ w8 _ _ word more hv2
  rw [HT.out] at ht1
  have HTA := Lib.hid ht1
  clear ht1 hv2
  have e0 := hG8.cell 0
  have e1 := hG8.cell 1
  simp at e0 e1
  go_upto_region 13 with fail
  go_cut [17] (fun t wx => t = .bool true ∧ Below w8.heap.size w8 wx)
  case first =>
    go_wp2_with fail
    refine (HTA.out).mono ?_
    rintro e wa ⟨rfl, hb1⟩
    go_wp2_with fail
    go_meet
    case rel => exact ⟨rfl, hb1⟩
  case rest =>
  obtain ⟨rfl, hb0⟩ := hcut
  obtain ⟨w9, rfl⟩ : ∃ w9 : World, w9 = wc := ⟨_, rfl⟩
  have hA9 := hA8.below hb0 hA8.lt
  have hB9 := hB8.below hb0 hB8.lt
  have hG9 := hG8.below hb0 hG8.lt
  have hv3 := hv3.keep hb0
  have hbw9 := bl_trans hbw8 hb0
  clear hb0 hbw8 hA8 hB8 hG8
  clear HTA e0 e1
  have ht1 := lawTold_any _ w9 _ _ word more hv3
  rw [HT.out] at ht1
  have HTA := Lib.hid ht1
  clear ht1 hv3
  have e0 := hG9.cell 0
  have e1 := hG9.cell 1
  simp at e0 e1
  go_upto_region 14 with fail
  go_cut [18] (fun t wx => t = .bool true ∧ Below w9.heap.size w9 wx)
  case first =>
    go_wp2_with fail
    refine (HTA.out).mono ?_
    rintro e wa ⟨rfl, hb1⟩
    go_wp2_with fail
    go_meet
    case rel => exact ⟨rfl, hb1⟩
  case rest =>
  obtain ⟨rfl, hb0⟩ := hcut
  obtain ⟨w10, rfl⟩ : ∃ w10 : World, w10 = wc := ⟨_, rfl⟩
  have hA10 := hA9.below hb0 hA9.lt
  have hB10 := hB9.below hb0 hB9.lt
  have hG10 := hG9.below hb0 hG9.lt
  have hbw10 := bl_trans hbw9 hb0
  clear hb0 hbw9 hA9 hB9 hG9
  clear HTA e0 e1
  have e0 := hG10.cell 0
  have e1 := hG10.cell 1
  simp at e0 e1
  go_upto_region 15 with fail
  go_cut [99] (fun t wx => t = .bool false ∧ w10 = wx)
  case first =>
    as_aux_lemma =>
      rcases HC.out with ⟨_, hw⟩ | ⟨_, hw, hn⟩
      · subst hw
        go_wp2_with fail
        go_meet
        case rel => exact ⟨by first | rfl | simp, rfl⟩
      · subst hw
        have hN0 : N = 0 := HN.out.trans hn
        subst hN0
        clear hn
        go_wp2_with fail
        go_meet
        case rel => exact ⟨by first | rfl | simp, rfl⟩
  case rest =>
  obtain ⟨rfl, rfl⟩ := hcut
  cases r2
  · go_wp2_with fail
    go_ret
    exact ⟨rfl, hbw10⟩
  have hlaw := HLAW.out HR1'.out HR2'.out
  rw [hlaw] at HQ
  obtain ⟨x, hx⟩ : ∃ x, (equalD h k h' k').1 = x := ⟨_, rfl⟩
  obtain ⟨word2, more2, hfw, hw2⟩ : ∃ word2 more2, fault (conv (equalD h k h' k')).2 = .agg #[.string word2, .string more2] ∧ (x = true → word2 = ⟨#[]⟩) := by
    unfold conv
    by_cases he : (equalD h k h' k').2 = emp
    · exact ⟨⟨#[]⟩, ⟨#[]⟩, by simp only [if_pos he]; rfl, fun _ => rfl⟩
    · refine ⟨cmpW, (equalD h k h' k').2, by simp only [if_neg he]; rfl, fun e => ?_⟩
      rw [← hx, equalD_no he] at e
      cases e
  rw [hfw, show (conv (equalD h k h' k')).1 = x from hx] at HQ
  have HX := Lib.hid hx
  have HW2 := Lib.hid hw2
  clear hfw hx hw2 hlaw HLAW e0 e1
  obtain ⟨d0, d1, d2, d3, d4, d5, d6, d7, d8, d9, d10⟩ := (CellsAt.of_blk hB10).box
  obtain ⟨c0, c1, c2, c3, c4, c5, c6, c7, c8, c9, c10⟩ := (CellsAt.of_blk hA10).box
  go_upto_region 19 with fail
  go_cut [19, 20] (fun t wb wx => (t = .bool x ∧ ∃ g2, wb = .pointer (some ⟨g2, 0, none⟩) ∧ Blk wx g2 48 #[.string word2, .string more2]) ∧ Below w10.heap.size w10 wx)
  case first =>
    go_wp2_with fail
    refine (HQ.out _ hbw10).mono ?_
    rintro e wa ⟨rfl, hb1⟩
    go_wp2_with fail
    go_meet
    case rel => exact ⟨⟨rfl, _, rfl, Blk.new _ _ _⟩, by ((repeat' (first | exact Below.refl _ _ | assumption | (refine bl_alloc ?_ _) | (refine Below.drew ?_) | (refine below_drewN ?_ _) | (refine Below.setCell ?_ ?_ _) | (refine bl_trans ?_ (by assumption)))) <;> first | omega | (simp; done) | (simp; omega))⟩
  case rest =>
  obtain ⟨⟨rfl, g2, rfl, hJ0⟩, hb0⟩ := hcut
  obtain ⟨w11, rfl⟩ : ∃ w11 : World, w11 = wc := ⟨_, rfl⟩
  have hA11 := hA10.below hb0 hA10.lt
  have hB11 := hB10.below hb0 hB10.lt
  have hG11 := hG10.below hb0 hG10.lt
  have hbw11 := bl_trans hbw10 hb0
  clear hb0 hbw10 hA10 hB10 hG10 c0 c1 c2 c3 c4 c5 c6 c7 c8 c9 c10
  have hJ11 := hJ0
  clear hJ0 HQ d0 d1 d2 d3 d4 d5 d6 d7 d8 d9 d10
  obtain ⟨c0, c1, c2, c3, c4, c5, c6, c7, c8, c9, c10⟩ := (CellsAt.of_blk hB11).box
  go_upto_region 20 with fail
  go_cut [21, 22] (fun t9 t10 wx => (t9 = .int .u64 (keyN h' k') ∧ ErrAt w11 wx t10 (keyEr h' k')) ∧ Below w11.heap.size w11 wx)
  case first =>
    go_wp2_with fail
    refine (HH2.out _ hbw11).mono ?_
    rintro e wa ⟨hb1, m, v, rfl, hv, hm⟩
    replace hv := key_err hv
    replace hm : m = keyN h' k' := hm
    subst hm
    go_wp2_with fail
    go_meet
    case rel => exact ⟨⟨rfl, hv⟩, hb1⟩
  case rest =>
  obtain ⟨⟨rfl, hv4⟩, hb0⟩ := hcut
  obtain ⟨w12, rfl⟩ : ∃ w12 : World, w12 = wc := ⟨_, rfl⟩
  have hA12 := hA11.below hb0 hA11.lt
  have hB12 := hB11.below hb0 hB11.lt
  have hG12 := hG11.below hb0 hG11.lt
  have hJ12 := hJ11.below hb0 hJ11.lt
  have hbw12 := bl_trans hbw11 hb0
  clear hb0 hbw11 hA11 hB11 hG11 hJ11 c0 c1 c2 c3 c4 c5 c6 c7 c8 c9 c10
  have e0 := hG12.cell 0
  have e1 := hG12.cell 1
  have g0 := hJ12.cell 0
  have g1 := hJ12.cell 1
  simp at e0 e1 g0 g1
  cases x
  · obtain ⟨y, hy⟩ : ∃ y, keyN h' k' = y := ⟨_, rfl⟩
    rw [hy]
    clear hy
    go_wp2_with fail
    go_ret
    exact ⟨rfl, hbw12⟩
  have hw2 := HW2.out rfl
  subst hw2
  rcases HC.out with ⟨hkb, hw⟩ | ⟨_, hw, _⟩
  · subst hw
    have hk2 : keyB h' k' = true := HKE.out HR2'.out HX.out
    have hn2 : keyN h' k' = N := by
      rw [HN.out, keyN, keyN, HR1'.out, HR2'.out, hkb, hk2]
      exact (HHV.out HR1'.out HR2'.out HX.out).symm
    have her : keyEr h' k' = .ok := by unfold keyEr; rw [if_pos HR2'.out, if_pos hk2]
    rw [her] at hv4
    have hv4 : _ = Value.nilIface := hv4
    rw [hn2]
    subst hv4
    clear hk2 hn2 her hkb
    go_wp2_with fail
    go_ret
    exact ⟨by first | rfl | simp, hbw12⟩
  · subst hw
    obtain ⟨y, hy⟩ : ∃ y, keyN h' k' = y := ⟨_, rfl⟩
    rw [hy]
    clear hy
    go_wp2_with fail
    go_ret
    exact ⟨rfl, hbw12⟩
end Go.Proofs.YthdmmhiifkebeaaDoor
