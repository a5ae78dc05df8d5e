/-
  The law ValueRanks walked: how a value stands to any datum; it returns true. Written by an AI agent.
-/
import Derived.Test.YthdmmhiifkebeaaDoorVal18
import Derived.Test.YthdmmhiifkebeaaDoorRk1
namespace Go.Proofs.YthdmmhiifkebeaaDoor
open Go.RowKit Go.Sort

theorem and_not {a b : Bool} (h : ¬ a = true) : (a && b) = false := by revert h; cases a <;> simp
theorem tyO_ord {h : Hd} {k : Fo} {t : TypeId} (e : tyO h k = some t) : orderedT t = ordB h := by
  unfold tyO at e
  unfold ordB
  by_cases h1 : h.kind = 1
  · rw [if_pos h1] at e; injection e with e; subst e; rw [decide_eq_false (by omega)]; decide
  rw [if_neg h1] at e
  by_cases h2 : h.kind = 2 ∨ h.kind = 3
  · rw [if_pos h2] at e; injection e with e; subst e; rw [decide_eq_true (by omega)]; decide
  rw [if_neg h2] at e
  by_cases h4 : h.kind = 4
  · rw [if_pos h4] at e; injection e with e; subst e; rw [decide_eq_true (by omega)]; decide
  rw [if_neg h4] at e
  have hf : decide (h.kind = 2 ∨ h.kind = 3 ∨ h.kind = 4) = false := decide_eq_false (by omega)
  rw [hf]
  split at e
  · injection e with e; subst e; decide
  split at e
  · injection e with e; subst e; decide
  split at e
  · injection e with e; subst e; decide
  split at e
  · split at e <;> (injection e with e; subst e; decide)
  · cases e
theorem tyO_none_ord {h : Hd} {k : Fo} (e : tyO h k = none) : ordB h = false := by
  unfold tyO at e
  unfold ordB
  apply decide_eq_false
  intro hh
  rcases hh with hh | hh | hh <;> rw [hh] at e <;> simp at e
theorem ord_two {t : TypeId} (h : orderedT t = true) : t = 115 ∨ t = 116 := by
  unfold orderedT at h
  simpa using h
set_option maxRecDepth 100000 in
set_option maxHeartbeats 1000000 in
theorem letterRank_any (h : Hd) (k : Fo) (h' : Hd) (k' : Fo) (ho' : h'.ok) (hk' : k'.ok) (w : World) (S T : Nat → Prop) (pa : Option Addr) (pc : Nat) (ia : Option Addr) (ic : Nat) (pa' : Option Addr) (pc' : Nat) (ia' : Option Addr) (ic' : Nat)
    (hd' : DatAt w T h' k' pa' pc' ia' ic') (hown : OwnAt w) :
    Calls Tryd.prog 156 #[.agg (h.cells pa pc ia k.len ic), .agg (h'.cells pa' pc' ia' k'.len ic')] w fun e w' => e = .returned (.tuple #[.int .i64 (rankD h h' k').1, .bool (rankD h h' k').2]) ∧ Below w.heap.size w w' := by
  have hb : Below w.heap.size w ((w.alloc (.cells (h.cells pa pc ia k.len ic) 116)).alloc (.cells (h'.cells pa' pc' ia' k'.len ic') 28)) := bl_alloc (bl_alloc (Below.refl _ _) _) _
  have hr := rank_any h k h' k' ho' hk' _ S T pa pc ia ic pa' pc' ia' ic' (hd'.below hb (fun b _ h => h)) (hown.below hb (Nat.le_refl _))
  unfold Hd.cells at hr ⊢
  have HR := Lib.hid hr
  clear hr hb
  go_enter Tryd.func156, Tryd.ntmps156
  go_wp2_with fail
  refine HR.out.mono ?_
  rintro e w1 ⟨rfl, hb1⟩
  go_wp2_with fail
  go_ret2
  exact ⟨rfl, by ((repeat' (first | exact Below.refl _ _ | assumption | (refine bl_alloc ?_ _) | (refine Below.drew ?_) | (refine below_drewN ?_ _) | (refine Below.setCell ?_ ?_ _) | (refine bl_trans ?_ (by assumption)))) <;> first | omega | (simp; done) | (simp; omega))⟩

set_option maxRecDepth 100000 in
set_option maxHeartbeats 4000000 in
theorem valueRanks_any (h : Hd) (k : Fo) (h' : Hd) (k' : Fo) (ho : h.ok) (hk : k.ok) (hl : k.len ≤ 1034834473170) (ho' : h'.ok) (hk' : k'.ok) (hl' : k'.len ≤ 1034834473170) (w : World) (S T : Nat → Prop) (pa : Option Addr) (pc : Nat) (ia : Option Addr) (ic : Nat) (pa' : Option Addr) (pc' : Nat) (ia' : Option Addr) (ic' : Nat)
    (hd : DatAt w S h k pa pc ia ic) (hd' : DatAt w T h' k' pa' pc' ia' ic') (hown : OwnAt w) :
    Calls Tryd.prog 4 #[.agg (h.cells pa pc ia k.len ic), .agg (h'.cells pa' pc' ia' k'.len ic')] w fun e w' => e = .returned (.bool true) ∧ Below w.heap.size w w' := by
  unfold Hd.cells
  go_enter Tryd.func4, Tryd.ntmps4
  go_upto_region 0 with fail
  go_cut [0, 1, 2, 3, 4] (fun _ _ t2 t3 _ wx => t2 = .pointer (some ⟨w.heap.size, 0, none⟩) ∧ t3 = .pointer (some ⟨w.heap.size + 1, 0, none⟩) ∧ Blk wx w.heap.size 28 (h.cells pa pc ia k.len ic) ∧ Blk wx (w.heap.size + 1) 28 (h'.cells pa' pc' ia' k'.len ic') ∧ Below w.heap.size w wx)
  case first =>
    go_wp2_with fail
    go_meet
    case rel => exact ⟨rfl, rfl, (Blk.new _ _ _).alloc _, Blk.new1 _ _ _ _, by ((repeat' (first | exact Below.refl _ _ | assumption | (refine bl_alloc ?_ _) | (refine Below.drew ?_) | (refine below_drewN ?_ _) | (refine Below.setCell ?_ ?_ _) | (refine bl_trans ?_ (by assumption)))) <;> first | omega | (simp; done) | (simp; omega))⟩
  case rest =>
  obtain ⟨rfl, rfl, hA, hB, hbw⟩ := hcut
  obtain ⟨w0, rfl⟩ : ∃ w0 : World, w0 = wc := ⟨_, rfl⟩
  have HR1 : Hid (∀ w', Below w.heap.size w w' → Calls Tryd.prog 17 #[.agg (h.cells pa pc ia k.len ic)] w' fun e w'' => e = .returned (.bool (rightB h k)) ∧ Below w'.heap.size w' w'') := fun w' hb => refRight_any h k ho hk hl w' S pa pc ia ic (hd.below hb (fun b _ h => h))
  have HOF : Hid (∀ w', Below w.heap.size w w' → Calls Tryd.prog 18 #[.agg (h.cells pa pc ia k.len ic)] w' (OfPost h k w')) := fun w' hb => of_any h k ho hk hl w' S pa pc ia ic (hd.below hb (fun b _ h => h)) (hown.below hb (Nat.le_refl _))
  have HORD : Hid (∀ w', Calls Tryd.prog 19 #[.agg (h.cells pa pc ia k.len ic)] w' fun e w'' => e = .returned (.bool (ordB h)) ∧ Below w'.heap.size w' w'') := fun w' => rordered_any h k.len pa pc ia ic w'
  have HRB : Hid (∀ w', Below w.heap.size w w' → Calls Tryd.prog 20 #[.agg (h.cells pa pc ia k.len ic), .agg (h'.cells pa' pc' ia' k'.len ic')] w' fun e w'' => e = .returned (.tuple #[.int .i64 (rankD h h' k').1, .bool (rankD h h' k').2]) ∧ Below w'.heap.size w' w'') := fun w' hb => rRank_any h k h' k' ho ho' hk' hl' w' T pa pc ia ic pa' pc' ia' ic' (hd'.below hb (fun b _ h => h))
  have HRA : Hid (∀ w', Below w.heap.size w w' → Calls Tryd.prog 20 #[.agg (h.cells pa pc ia k.len ic), .agg (h.cells pa pc ia k.len ic)] w' fun e w'' => e = .returned (.tuple #[.int .i64 (rankD h h k).1, .bool (rankD h h k).2]) ∧ Below w'.heap.size w' w'') := fun w' hb => rRank_any h k h k ho ho hk hl w' S pa pc ia ic pa pc ia ic (hd.below hb (fun b _ h => h))
  have HPB : Hid (∀ w' qa qc ja jc, Below w.heap.size w w' → Calls Tryd.prog 148 #[.agg (h.cells qa qc ja k.len jc), .agg (h'.cells pa' pc' ia' k'.len ic')] w' fun e w'' => e = .returned (.tuple #[.int .i64 (rankD h h' k').1, .bool (rankD h h' k').2]) ∧ Below w'.heap.size w' w'') := fun w' qa qc ja jc hb => figureRank_any h k h' k' ho' hk' w' S T qa qc ja jc pa' pc' ia' ic' (hd'.below hb (fun b _ h => h)) (hown.below hb (Nat.le_refl _))
  have HPA : Hid (∀ w' qa qc ja jc, Below w.heap.size w w' → Calls Tryd.prog 148 #[.agg (h.cells qa qc ja k.len jc), .agg (h.cells pa pc ia k.len ic)] w' fun e w'' => e = .returned (.tuple #[.int .i64 (rankD h h k).1, .bool (rankD h h k).2]) ∧ Below w'.heap.size w' w'') := fun w' qa qc ja jc hb => figureRank_any h k h k ho hk w' S S qa qc ja jc pa pc ia ic (hd.below hb (fun b _ h => h)) (hown.below hb (Nat.le_refl _))
  have HQB : Hid (∀ w' qa qc ja jc, Below w.heap.size w w' → Calls Tryd.prog 156 #[.agg (h.cells qa qc ja k.len jc), .agg (h'.cells pa' pc' ia' k'.len ic')] w' fun e w'' => e = .returned (.tuple #[.int .i64 (rankD h h' k').1, .bool (rankD h h' k').2]) ∧ Below w'.heap.size w' w'') := fun w' qa qc ja jc hb => letterRank_any h k h' k' ho' hk' w' S T qa qc ja jc pa' pc' ia' ic' (hd'.below hb (fun b _ h => h)) (hown.below hb (Nat.le_refl _))
  have HQA : Hid (∀ w' qa qc ja jc, Below w.heap.size w w' → Calls Tryd.prog 156 #[.agg (h.cells qa qc ja k.len jc), .agg (h.cells pa pc ia k.len ic)] w' fun e w'' => e = .returned (.tuple #[.int .i64 (rankD h h k).1, .bool (rankD h h k).2]) ∧ Below w'.heap.size w' w'') := fun w' qa qc ja jc hb => letterRank_any h k h k ho hk w' S S qa qc ja jc pa pc ia ic (hd.below hb (fun b _ h => h)) (hown.below hb (Nat.le_refl _))
  have HO : Hid (OwnAt w) := hown
  unfold Hd.cells at HR1 HOF HORD HRB HRA HPB HPA HQB HQA
  clear hd hd' hown ho hk hl ho' hk' hl'
  go_upto_region 1 with fail
  go_cut [5] (fun t wx => t = .bool true ∧ Below w0.heap.size w0 wx)
  case first =>
    go_wp2_with fail
    refine (known_any _ (HO.out.below hbw (Nat.le_refl _))).mono ?_
    rintro e w1 ⟨rfl, hb1⟩
    go_wp2_with fail
    go_meet
    case rel => exact ⟨rfl, hb1⟩
  case rest =>
  obtain ⟨rfl, hb0⟩ := hcut
  obtain ⟨w1, rfl⟩ : ∃ w1 : World, w1 = wc := ⟨_, rfl⟩
  have hA1 := hA.below hb0 hA.lt
  have hB1 := hB.below hb0 hB.lt
  have hbw1 := bl_trans hbw hb0
  clear hA hB hbw hb0 HO
  obtain ⟨c0, c1, c2, c3, c4, c5, c6, c7, c8, c9, c10⟩ := (CellsAt.of_blk hA1).box
  -- a value, or none; whether it is Ordered
  go_upto_region 2 with fail
  go_cut [6, 7] (fun t6 _ wx => (t6 = .nilIface ∧ (rightB h k && ordB h) = false ∨ ∃ t qa qc ja jc, ValTy t ∧ orderedT t = (rightB h k && ordB h) ∧ t6 = .iface t (.agg (h.cells qa qc ja k.len jc))) ∧ Below w1.heap.size w1 wx)
  case first =>
    go_wp2_with fail
    refine (HOF.out _ hbw1).mono ?_
    rintro e w2 ⟨hb2, he⟩
    by_cases hr : rightB h k = true
    · rw [if_pos hr] at he
      obtain ⟨v, rfl, hv⟩ := he
      have hq : v = .nilIface ∧ (rightB h k && ordB h) = false ∨ ∃ t qa qc ja jc, ValTy t ∧ orderedT t = (rightB h k && ordB h) ∧ v = .iface t (.agg (h.cells qa qc ja k.len jc)) := by
        unfold ValAt at hv
        cases hty : tyO h k with
        | none => rw [hty] at hv; exact .inl ⟨hv, by rw [tyO_none_ord hty, Bool.and_false]⟩
        | some t =>
          rw [hty] at hv
          obtain ⟨qa, qc, ja, jc, e, _⟩ := hv
          exact .inr ⟨t, qa, qc, ja, jc, tyO_val hty, by rw [hr, tyO_ord hty]; rfl, e⟩
      have HQ := Lib.hid hq
      clear hq hv hr
      go_wp2_with fail
      go_meet
      case rel => exact ⟨HQ.out, hb2⟩
    · rw [if_neg hr] at he
      obtain ⟨v, rfl, hv⟩ := he
      have HQ : Hid ((rightB h k && ordB h) = false) := Lib.hid (and_not hr)
      clear hv hr
      go_wp2_with fail
      go_meet
      case rel => exact ⟨.inl ⟨rfl, HQ.out⟩, hb2⟩
  case rest =>
  obtain ⟨hq, hb0⟩ := hcut
  obtain ⟨w2, rfl⟩ : ∃ w2 : World, w2 = wc := ⟨_, rfl⟩
  have hA2 := hA1.below hb0 hA1.lt
  have hB2 := hB1.below hb0 hB1.lt
  have hbw2 := bl_trans hbw1 hb0
  clear c0 c1 c2 c3 c4 c5 c6 c7 c8 c9 c10 hA1 hB1 hbw1 hb0 HOF
  obtain ⟨c0, c1, c2, c3, c4, c5, c6, c7, c8, c9, c10⟩ := (CellsAt.of_blk hA2).box
  obtain ⟨is, his⟩ : ∃ b, (rightB h k && ordB h) = b := ⟨_, rfl⟩
  rw [his] at hq
  have HIS := Lib.hid his
  clear his
  go_upto_region 3 with fail
  go_cut [8, 9] (fun t8 t9 wx => t9 = .bool is ∧ (is = true → ∃ t qa qc ja jc, (t = 115 ∨ t = 116) ∧ t8 = .iface t (.agg (h.cells qa qc ja k.len jc))) ∧ w2 = wx)
  case first =>
    rcases hq with ⟨rfl, hf⟩ | ⟨t, qa, qc, ja, jc, ht, hot, rfl⟩
    · subst hf
      have hn := assert_ordered_nil
      go_wp2_with fail
      go_meet
      case rel => exact ⟨rfl, fun h => (by cases h), rfl⟩
    · have hn := assert_ordered ht
      rw [hot] at hn
      have HT := Lib.hid ht
      have HOT := Lib.hid hot
      clear ht hot
      cases is
      · go_wp2_with fail
        go_meet
        case rel => exact ⟨rfl, fun h => (by cases h), rfl⟩
      · go_wp2_with fail
        go_meet
        case rel => exact ⟨rfl, fun _ => ⟨t, qa, qc, ja, jc, ord_two HOT.out, rfl⟩, rfl⟩
  case rest =>
  obtain ⟨rfl, hq2, rfl⟩ := hcut
  clear hq
  have HQ2 := Lib.hid hq2
  clear hq2
  go_upto_region 4 with fail
  go_cut [10] (fun t wx => t = .bool is ∧ Below w2.heap.size w2 wx)
  case first =>
    go_wp2_with fail
    refine (HR1.out _ hbw2).mono ?_
    rintro e w3 ⟨rfl, hb3⟩
    have hA3 := hA2.below hb3 hA2.lt
    clear c0 c1 c2 c3 c4 c5 c6 c7 c8 c9 c10
    obtain ⟨c0, c1, c2, c3, c4, c5, c6, c7, c8, c9, c10⟩ := (CellsAt.of_blk hA3).box
    cases hr : rightB h k
    · rw [hr] at HIS
      go_wp2_with fail
      go_meet
      case rel => exact ⟨by rw [← HIS.out]; rfl, hb3⟩
    · rw [hr] at HIS
      go_wp2_with fail
      refine (HORD.out _).mono ?_
      rintro e w4 ⟨rfl, hb4⟩
      go_wp2_with fail
      go_meet
      case rel => exact ⟨by rw [← HIS.out]; rfl, bl_trans hb3 hb4⟩
  case rest =>
  obtain ⟨rfl, hb0⟩ := hcut
  obtain ⟨w3, rfl⟩ : ∃ w3 : World, w3 = wc := ⟨_, rfl⟩
  have hA3 := hA2.below hb0 hA2.lt
  have hB3 := hB2.below hb0 hB2.lt
  have hbw3 := bl_trans hbw2 hb0
  clear c0 c1 c2 c3 c4 c5 c6 c7 c8 c9 c10 hA2 hB2 hbw2 hb0 HR1 HORD HIS
  cases is
  · go_wp2_with fail
    go_ret
    exact ⟨rfl, hbw3⟩
  obtain ⟨t, qa, qc, ja, jc, ht, rfl⟩ := HQ2.out rfl
  clear HQ2
  obtain ⟨n1, hn1⟩ : ∃ x, (rankD h h' k').1 = x := ⟨_, rfl⟩
  obtain ⟨n2, hn2⟩ : ∃ x, (rankD h h' k').2 = x := ⟨_, rfl⟩
  obtain ⟨m1, hm1⟩ : ∃ x, (rankD h h k).1 = x := ⟨_, rfl⟩
  obtain ⟨m2, hm2⟩ : ∃ x, (rankD h h k).2 = x := ⟨_, rfl⟩
  rw [hn1, hn2] at HRB HPB HQB
  rw [hm1, hm2] at HRA HPA HQA
  clear hn1 hn2 hm1 hm2
  obtain ⟨c0, c1, c2, c3, c4, c5, c6, c7, c8, c9, c10⟩ := (CellsAt.of_blk hA3).box
  obtain ⟨d0, d1, d2, d3, d4, d5, d6, d7, d8, d9, d10⟩ := (CellsAt.of_blk hB3).box
  go_upto_region 9 with fail
  go_cut [11, 12] (fun ta tb wx => ta = .int .i64 n1 ∧ tb = .bool n2 ∧ Below w3.heap.size w3 wx)
  case first =>
    rcases ht with rfl | rfl
    · have hm := fun x => figure_rank (w := w3) (x := x)
      go_wp2_with fail
      refine (HPB.out _ _ _ _ _ hbw3).mono ?_
      rintro e wz ⟨rfl, hbz⟩
      go_wp2_with fail
      go_meet
      case rel => exact ⟨rfl, rfl, hbz⟩
    · have hm := fun x => letter_rank (w := w3) (x := x)
      go_wp2_with fail
      refine (HQB.out _ _ _ _ _ hbw3).mono ?_
      rintro e wz ⟨rfl, hbz⟩
      go_wp2_with fail
      go_meet
      case rel => exact ⟨rfl, rfl, hbz⟩
  case rest =>
  obtain ⟨rfl, rfl, hb0⟩ := hcut
  obtain ⟨w4, rfl⟩ : ∃ w4 : World, w4 = wc := ⟨_, rfl⟩
  have hA4 := hA3.below hb0 hA3.lt
  have hB4 := hB3.below hb0 hB3.lt
  have hbw4 := bl_trans hbw3 hb0
  clear c0 c1 c2 c3 c4 c5 c6 c7 c8 c9 c10 d0 d1 d2 d3 d4 d5 d6 d7 d8 d9 d10 hA3 hB3 hbw3 hb0
  obtain ⟨c0, c1, c2, c3, c4, c5, c6, c7, c8, c9, c10⟩ := (CellsAt.of_blk hA4).box
  obtain ⟨d0, d1, d2, d3, d4, d5, d6, d7, d8, d9, d10⟩ := (CellsAt.of_blk hB4).box
  go_upto_region 10 with fail
  go_cut [13, 14] (fun ta tb wx => ta = .int .i64 n1 ∧ tb = .bool n2 ∧ Below w4.heap.size w4 wx)
  case first =>
    go_wp2_with fail
    refine (HRB.out _ hbw4).mono ?_
    rintro e wz ⟨rfl, hbz⟩
    go_wp2_with fail
    go_meet
    case rel => exact ⟨rfl, rfl, hbz⟩
  case rest =>
  obtain ⟨rfl, rfl, hb0⟩ := hcut
  obtain ⟨w5, rfl⟩ : ∃ w5 : World, w5 = wc := ⟨_, rfl⟩
  have hA5 := hA4.below hb0 hA4.lt
  have hB5 := hB4.below hb0 hB4.lt
  have hbw5 := bl_trans hbw4 hb0
  clear c0 c1 c2 c3 c4 c5 c6 c7 c8 c9 c10 d0 d1 d2 d3 d4 d5 d6 d7 d8 d9 d10 hA4 hB4 hbw4 hb0
  obtain ⟨c0, c1, c2, c3, c4, c5, c6, c7, c8, c9, c10⟩ := (CellsAt.of_blk hA5).box
  obtain ⟨d0, d1, d2, d3, d4, d5, d6, d7, d8, d9, d10⟩ := (CellsAt.of_blk hB5).box
  go_upto_region 11 with fail
  go_cut [15, 16] (fun ta tb wx => ta = .int .i64 m1 ∧ tb = .bool m2 ∧ Below w5.heap.size w5 wx)
  case first =>
    rcases ht with rfl | rfl
    · have hm := fun x => figure_rank (w := w5) (x := x)
      go_wp2_with fail
      refine (HPA.out _ _ _ _ _ hbw5).mono ?_
      rintro e wz ⟨rfl, hbz⟩
      go_wp2_with fail
      go_meet
      case rel => exact ⟨rfl, rfl, hbz⟩
    · have hm := fun x => letter_rank (w := w5) (x := x)
      go_wp2_with fail
      refine (HQA.out _ _ _ _ _ hbw5).mono ?_
      rintro e wz ⟨rfl, hbz⟩
      go_wp2_with fail
      go_meet
      case rel => exact ⟨rfl, rfl, hbz⟩
  case rest =>
  obtain ⟨rfl, rfl, hb0⟩ := hcut
  obtain ⟨w6, rfl⟩ : ∃ w6 : World, w6 = wc := ⟨_, rfl⟩
  have hA6 := hA5.below hb0 hA5.lt
  have hB6 := hB5.below hb0 hB5.lt
  have hbw6 := bl_trans hbw5 hb0
  clear c0 c1 c2 c3 c4 c5 c6 c7 c8 c9 c10 d0 d1 d2 d3 d4 d5 d6 d7 d8 d9 d10 hA5 hB5 hbw5 hb0
  obtain ⟨c0, c1, c2, c3, c4, c5, c6, c7, c8, c9, c10⟩ := (CellsAt.of_blk hA6).box
  obtain ⟨d0, d1, d2, d3, d4, d5, d6, d7, d8, d9, d10⟩ := (CellsAt.of_blk hB6).box
  go_upto_region 12 with fail
  go_cut [17, 18] (fun ta tb wx => ta = .int .i64 m1 ∧ tb = .bool m2 ∧ Below w6.heap.size w6 wx)
  case first =>
    go_wp2_with fail
    refine (HRA.out _ hbw6).mono ?_
    rintro e wz ⟨rfl, hbz⟩
    go_wp2_with fail
    go_meet
    case rel => exact ⟨rfl, rfl, hbz⟩
  case rest =>
  obtain ⟨rfl, rfl, hb0⟩ := hcut
  obtain ⟨w7, rfl⟩ : ∃ w7 : World, w7 = wc := ⟨_, rfl⟩
  have hA7 := hA6.below hb0 hA6.lt
  have hB7 := hB6.below hb0 hB6.lt
  have hbw7 := bl_trans hbw6 hb0
  clear c0 c1 c2 c3 c4 c5 c6 c7 c8 c9 c10 d0 d1 d2 d3 d4 d5 d6 d7 d8 d9 d10 hA6 hB6 hbw6 hb0
  obtain ⟨c0, c1, c2, c3, c4, c5, c6, c7, c8, c9, c10⟩ := (CellsAt.of_blk hA7).box
  obtain ⟨d0, d1, d2, d3, d4, d5, d6, d7, d8, d9, d10⟩ := (CellsAt.of_blk hB7).box
  have hn : (n1 == n1) = true := by simp
  have hm : (m1 == m1) = true := by simp
  cases n2 <;> cases m2 <;> (go_wp2_with fail; go_ret; exact ⟨rfl, hbw7⟩)
end Go.Proofs.YthdmmhiifkebeaaDoor
