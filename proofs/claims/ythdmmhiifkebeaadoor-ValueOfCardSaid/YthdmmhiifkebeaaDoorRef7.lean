/-
  Contracts of the reference's fields, right and Right. Written by an AI agent.
-/
import Derived.Test.YthdmmhiifkebeaaDoorRef6
namespace Go.Proofs.YthdmmhiifkebeaaDoor
open Go.RowKit Go.Sort

set_option maxRecDepth 100000 in
set_option maxHeartbeats 4000000 in
theorem fields_one (h : Hd) (k : Fo) (ho : h.ok) (ih : ∀ i h' k', k.get i = some (h', k') → RRC h' k') (hkl : k.len ≤ 1034834473170) : FieldsC h k := by
  intro deep w S pa pc ia ic h1 h2 hd
  have hplain := fun n f s r t hc w => rplain_any h k.len pa pc ia ic n f s r t hc w
  have hts := ho.type
  unfold Hd.cells at hplain
  have HPL := Lib.hid hplain
  clear hplain
  unfold Hd.cells
  go_enter Tryd.func99, Tryd.ntmps99
  go_upto_region 0 with fail
  go_cut [0, 2, 4] (fun _ t1 _ wx => t1 = .pointer (some ⟨w.heap.size, 0, none⟩) ∧ Blk wx w.heap.size 28 (h.cells pa pc ia k.len ic) ∧ Below w.heap.size w wx)
  case first =>
    go_wp2_with fail
    go_meet
    case rel => exact ⟨rfl, Blk.new _ _ _, by ((repeat' (first | exact Below.refl _ _ | assumption | (refine bl_alloc ?_ _) | (refine Below.drew ?_) | (refine below_drewN ?_ _) | (refine Below.setCell ?_ ?_ _) | (refine bl_trans ?_ (by assumption)))) <;> first | omega | (simp; done) | (simp; omega))⟩
  case rest =>
  obtain ⟨rfl, hA, hbw⟩ := hcut
  obtain ⟨w0, rfl⟩ : ∃ w0 : World, w0 = wc := ⟨_, rfl⟩
  obtain ⟨c0, c1, c2, c3, c4, c5, c6, c7, c8, c9, c10⟩ := (CellsAt.of_blk hA).box
  go_upto_region 1 with fail
  go_cut [5] (fun t wx => t = .bool (declB h.type) ∧ Below w0.heap.size w0 wx)
  case first =>
    go_wp2_with fail
    refine (rdecl_any _ hts _).mono ?_
    rintro e w1 ⟨rfl, hb1⟩
    go_wp2_with fail
    go_meet
    case rel => exact ⟨rfl, hb1⟩
  case rest =>
  obtain ⟨rfl, hb0⟩ := hcut
  obtain ⟨w1, rfl⟩ : ∃ w1 : World, w1 = wc := ⟨_, rfl⟩
  have hA1 := hA.below hb0 hA.lt
  have hbw1 := bl_trans hbw hb0
  clear c0 c1 c2 c3 c4 c5 c6 c7 c8 c9 c10 hA hb0 hbw
  obtain ⟨c0, c1, c2, c3, c4, c5, c6, c7, c8, c9, c10⟩ := (CellsAt.of_blk hA1).box
  go_upto_region 2 with fail
  go_cut [5, 6] (fun _ t wx => t = .bool (declB h.type && (rplainB h k.len false false false false true && decide (k.len ≤ 30))) ∧ Below w1.heap.size w1 wx)
  case first =>
    cases hdl : declB h.type
    · go_wp2_with fail
      go_meet
      case rel => exact ⟨by rw [hdl]; rfl, Below.refl _ _⟩
    · go_wp2_with fail
      refine (HPL.out _ _ _ _ _ (by simp [oneOf]) _).mono ?_
      rintro e w2 ⟨rfl, hb2⟩
      have hA2 := hA1.below hb2 hA1.lt
      clear c0 c1 c2 c3 c4 c5 c6 c7 c8 c9 c10
      obtain ⟨c0, c1, c2, c3, c4, c5, c6, c7, c8, c9, c10⟩ := (CellsAt.of_blk hA2).box
      cases hpb : rplainB h k.len false false false false true
      · go_wp2_with fail
        go_meet
        case rel => exact ⟨by rw [hdl, hpb]; rfl, hb2⟩
      · go_wp2_with fail
        go_meet
        case rel => exact ⟨by rw [hdl, hpb]; refine congrArg Value.bool ?_; rw [Bool.eq_iff_iff]; simp; try omega, hb2⟩
  case rest =>
  obtain ⟨rfl, hb0⟩ := hcut
  obtain ⟨w2, rfl⟩ : ∃ w2 : World, w2 = wc := ⟨_, rfl⟩
  have hA2 := hA1.below hb0 hA1.lt
  have hbw2 := bl_trans hbw1 hb0
  clear c0 c1 c2 c3 c4 c5 c6 c7 c8 c9 c10 hA1 hb0 hbw1
  obtain ⟨b0, hb0⟩ : ∃ b, (declB h.type && (rplainB h k.len false false false false true && decide (k.len ≤ 30))) = b := ⟨_, rfl⟩
  rw [hb0]
  have HB0 := Lib.hid hb0
  have HD := Lib.hid hd
  have HIH := Lib.hid ih
  have HA := Lib.hid hA2
  clear hd ih hA2 hb0
  go_wp2_with fail
  go_loopg [6, 7] k.len (fun g t i wr => ∃ (j : Nat) (b : Bool), j ≤ k.len ∧ t = .bool b ∧ i = .int .i64 j ∧ g = k.len - j ∧ Below w.heap.size w wr ∧ Blk wr w.heap.size 28 (h.cells pa pc ia k.len ic) ∧ Hid ((b0 && rrF (deep + 1) k) = (b && rrF (deep + 1) (k.drop j))))
  case atStart => exact ⟨0, b0, by omega, rfl, rfl, by omega, hbw2, HA.out, by unfold Hid; simp⟩
  case round =>
  obtain ⟨j, b, hj, rfl, rfl, rfl, hbr, hAr, HN⟩ := hrel
  obtain ⟨c0, c1, c2, c3, c4, c5, c6, c7, c8, c9, c10⟩ := (CellsAt.of_blk hAr).box
  by_cases hlt : j < k.len
  · cases b
    · go_wp2_with fail
      go_ret
      exact ⟨ret_bool (by rw [HB0.out, HN.out]; rfl), hbr⟩
    · obtain ⟨h', k', hget⟩ := Fo.get_lt k j hlt
      have hks : SlAt _ S ia k := (HD.out.below hbr (fun b _ h => h)).kids
      obtain ⟨b, o, rfl, hSb, pa', pc', ia', ic', hcs, hda⟩ := hks.get hget
      obtain ⟨d0, d1, d2, d3, d4, d5, d6, d7, d8, d9, d10⟩ := hcs.eleven
      have hih := HIH.out j h' k' hget (deep + 1) wr S pa' pc' ia' ic' (by omega) (by omega) hda
      unfold Hd.cells at hih
      have HI := Lib.hid hih
      have HDr : Hid (rrF (deep + 1) (k.drop j) = (rrD (deep + 1) h' k' && rrF (deep + 1) (k.drop (j + 1)))) := Lib.hid (by rw [Fo.drop_get k j h' k' hget, rrF_cons])
      clear hih hget hcs hda hks
      go_wp2_with fail
      refine HI.out.mono ?_
      rintro e w4 ⟨rfl, hb4⟩
      have hbr4 : Below w.heap.size w w4 := bl_trans hbr hb4
      have hA4 := hAr.below hb4 hAr.lt
      clear HI d0 d1 d2 d3 d4 d5 d6 d7 d8 d9 d10 hb4 c0 c1 c2 c3 c4 c5 c6 c7 c8 c9 c10 hbr hAr
      go_wp2_with fail
      go_roundg (k.len - (j + 1))
      case measure => omega
      case rel => exact ⟨j + 1, _, by omega, rfl, by go_num, rfl, hbr4, hA4, by unfold Hid; rw [HN.out, HDr.out]; rfl⟩
  · have hjk : j = k.len := by omega
    subst hjk
    go_wp2_with fail
    go_ret
    exact ⟨ret_bool (by rw [HB0.out, HN.out, Fo.drop_len k _ (Nat.le_refl _), rrF, Bool.and_true]), hbr⟩

theorem rr_one (h : Hd) (k : Fo) (ho : h.ok) (hkl : k.len ≤ 1034834473170) (ih : ∀ i h' k', k.get i = some (h', k') → RRC h' k') : RRC h k := by
  by_cases hn : h.kind < 0 ∨ 9 < h.kind
  · exact rr_no h k hn
  by_cases h0 : h.kind = 0
  · exact rr_0 h k ho h0
  by_cases h12 : h.kind = 1 ∨ h.kind = 2
  · exact rr_12 h k ho h12
  by_cases h3 : h.kind = 3
  · exact rr_3 h k ho h3
  by_cases h4 : h.kind = 4
  · exact rr_4 h k ho h4
  by_cases h567 : h.kind = 5 ∨ h.kind = 6 ∨ h.kind = 7
  · exact rr_567 h k ho h567
  by_cases h9 : h.kind = 9
  · exact rr_9 h k ho h9
  exact rr_8 h k (by omega) (fields_one h k ho ih hkl)
theorem rr_all : ∀ (f : Fo), f.ok → ∀ i h k, f.get i = some (h, k) → RRC h k
  | .nil, _, i, h, k, e => by simp [Fo.get] at e
  | .cons h' k' r, o, 0, h, k, e => by
    simp only [Fo.get, Option.some.injEq, Prod.mk.injEq] at e
    obtain ⟨rfl, rfl⟩ := e
    exact rr_one _ _ o.1 o.2.2.2 (rr_all k' o.2.1)
  | .cons h' k' r, o, i + 1, h, k, e => rr_all r o.2.2.1 i h k e
theorem rr_any (h : Hd) (k : Fo) (ho : h.ok) (hk : k.ok) (hl : k.len ≤ 1034834473170) : RRC h k := rr_one h k ho hl (rr_all k hk)

set_option maxRecDepth 100000 in
set_option maxHeartbeats 1000000 in
theorem refRight_any (h : Hd) (k : Fo) (ho : h.ok) (hk : k.ok) (hl : k.len ≤ 1034834473170) (w : World) (S : Nat → Prop) (pa : Option Addr) (pc : Nat) (ia : Option Addr) (ic : Nat) (hd : DatAt w S h k pa pc ia ic) :
    Calls Tryd.prog 17 #[.agg (h.cells pa pc ia k.len ic)] w fun e w' => e = .returned (.bool (rightB h k)) ∧ Below w.heap.size w w' := by
  rw [right_law]
  have hs := fun w' hd' => size_any h k ho hk w' S pa pc ia ic hd'
  have hr := fun w' hd' => rr_any h k ho hk hl 1 w' S pa pc ia ic (by decide) (by decide) hd'
  unfold Hd.cells at hs hr
  have HS := Lib.hid hs
  have HR := Lib.hid hr
  clear hs hr
  have hd0 := hd.keep (w' := w.alloc (.cells (h.cells pa pc ia k.len ic) 28)) (fun b _ h => Below.heap_alloc _ _ _ h) (S' := S) (fun _ h _ => h)
  unfold Hd.cells at hd0 ⊢
  have HD0 := Lib.hid hd0
  clear hd hd0
  unfold refRight
  go_enter Tryd.func17, Tryd.ntmps17
  go_wp2_with fail
  refine (HS.out _ HD0.out).mono ?_
  rintro e w1 ⟨rfl, hb1⟩
  obtain ⟨hc1, hf1⟩ := bcell hb1
  have HD1 := Lib.hid (HD0.out.below hb1 (fun b _ h => h))
  by_cases hz : sizeD h k ≤ 100
  · go_wp2_with fail
    refine (HR.out _ HD1.out).mono ?_
    rintro e w2 ⟨rfl, hb2⟩
    go_wp2_with fail
    go_ret
    exact ⟨ret_bool (by rw [decide_eq_true (by omega)]; rfl), by ((repeat' (first | exact Below.refl _ _ | assumption | (refine bl_alloc ?_ _) | (refine Below.drew ?_) | (refine below_drewN ?_ _) | (refine Below.setCell ?_ ?_ _) | (refine bl_trans ?_ (by assumption)))) <;> first | omega | (simp; done) | (simp; omega))⟩
  · have hz' : 100 < sizeD h k := by omega
    go_wp2_with fail
    go_ret
    exact ⟨ret_bool (by rw [decide_eq_false (by omega)]; rfl), by ((repeat' (first | exact Below.refl _ _ | assumption | (refine bl_alloc ?_ _) | (refine Below.drew ?_) | (refine below_drewN ?_ _) | (refine Below.setCell ?_ ?_ _) | (refine bl_trans ?_ (by assumption)))) <;> first | omega | (simp; done) | (simp; omega))⟩
end Go.Proofs.YthdmmhiifkebeaaDoor
