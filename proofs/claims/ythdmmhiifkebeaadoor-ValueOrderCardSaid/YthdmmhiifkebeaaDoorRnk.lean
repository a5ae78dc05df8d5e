/-
  Contract of the law's own rank: how one that is Ordered stands to another datum; 9: it has no rank. Written by an AI agent.
-/
import Derived.Test.YthdmmhiifkebeaaDoorVal18
namespace Go.Proofs.YthdmmhiifkebeaaDoor
open Go.RowKit Go.Sort

def ordBB (h : Hd) : Bool := decide (h.kind = 2 ∨ h.kind = 3 ∨ h.kind = 4)
theorem tyO_ord2 {h : Hd} {k : Fo} {t : TypeId} (e : tyO h k = some t) : orderedT t = ordBB h := by
  unfold tyO at e
  unfold ordBB
  by_cases h1 : h.kind = 1
  · rw [if_pos h1] at e; injection e with e; subst e; rw [decide_eq_false (by omega)]; decide
  rw [if_neg h1] at e
  by_cases h2 : h.kind = 2 ∨ h.kind = 3
  · rw [if_pos h2] at e; injection e with e; subst e; rw [decide_eq_true (by omega)]; decide
  rw [if_neg h2] at e
  by_cases h4 : h.kind = 4
  · rw [if_pos h4] at e; injection e with e; subst e; rw [decide_eq_true (by omega)]; decide
  rw [if_neg h4] at e
  have hf : decide (h.kind = 2 ∨ h.kind = 3 ∨ h.kind = 4) = false := decide_eq_false (by omega)
  rw [hf]
  split at e
  · injection e with e; subst e; decide
  split at e
  · injection e with e; subst e; decide
  split at e
  · injection e with e; subst e; decide
  split at e
  · split at e <;> (injection e with e; subst e; decide)
  · cases e
theorem tyO_none_ord2 {h : Hd} {k : Fo} (e : tyO h k = none) : ordBB h = false := by
  unfold tyO at e
  unfold ordBB
  apply decide_eq_false
  intro hh
  rcases hh with hh | hh | hh <;> rw [hh] at e <;> simp at e
theorem ord_two2 {t : TypeId} (h : orderedT t = true) : t = 115 ∨ t = 116 := by
  unfold orderedT at h
  simpa using h
set_option maxRecDepth 100000 in
set_option maxHeartbeats 1000000 in
theorem letterRank2_any (h : Hd) (k : Fo) (h' : Hd) (k' : Fo) (ho' : h'.ok) (hk' : k'.ok) (w : World) (S T : Nat → Prop) (pa : Option Addr) (pc : Nat) (ia : Option Addr) (ic : Nat) (pa' : Option Addr) (pc' : Nat) (ia' : Option Addr) (ic' : Nat)
    (hd' : DatAt w T h' k' pa' pc' ia' ic') (hown : OwnAt w) :
    Calls Tryd.prog 156 #[.agg (h.cells pa pc ia k.len ic), .agg (h'.cells pa' pc' ia' k'.len ic')] w fun e w' => e = .returned (.tuple #[.int .i64 (rankD h h' k').1, .bool (rankD h h' k').2]) ∧ Below w.heap.size w w' := by
  have hb : Below w.heap.size w ((w.alloc (.cells (h.cells pa pc ia k.len ic) 116)).alloc (.cells (h'.cells pa' pc' ia' k'.len ic') 28)) := bl_alloc (bl_alloc (Below.refl _ _) _) _
  have hr := rank_any h k h' k' ho' hk' _ S T pa pc ia ic pa' pc' ia' ic' (hd'.below hb (fun b _ h => h)) (hown.below hb (Nat.le_refl _))
  unfold Hd.cells at hr ⊢
  have HR := Lib.hid hr
  clear hr hb
  go_enter Tryd.func156, Tryd.ntmps156
  go_wp2_with fail
  refine HR.out.mono ?_
  rintro e w1 ⟨rfl, hb1⟩
  go_wp2_with fail
  go_ret2
  exact ⟨rfl, by ((repeat' (first | exact Below.refl _ _ | assumption | (refine bl_alloc ?_ _) | (refine Below.drew ?_) | (refine below_drewN ?_ _) | (refine Below.setCell ?_ ?_ _) | (refine bl_trans ?_ (by assumption)))) <;> first | omega | (simp; done) | (simp; omega))⟩


/-- What the law's rank answers of one that is Ordered. -/
def rankV (h h' : Hd) (k' : Fo) : Int := if (rankD h h' k').2 = true then (rankD h h' k').1 else 9
set_option maxRecDepth 100000 in
set_option maxHeartbeats 1000000 in
theorem lawRank_any (h : Hd) (k : Fo) (h' : Hd) (k' : Fo) (ho : h.ok) (hk : k.ok) (hl : k.len ≤ 1034834473170) (ho' : h'.ok) (hk' : k'.ok) (_hl' : k'.len ≤ 1034834473170) (w : World) (S T : Nat → Prop) (pa : Option Addr) (pc : Nat) (ia : Option Addr) (ic : Nat) (pa' : Option Addr) (pc' : Nat) (ia' : Option Addr) (ic' : Nat)
    (hd : DatAt w S h k pa pc ia ic) (hd' : DatAt w T h' k' pa' pc' ia' ic') (hown : OwnAt w) (hr : rightB h k = true) (hord : ordBB h = true) :
    Calls Tryd.prog 35 #[.agg (h.cells pa pc ia k.len ic), .agg (h'.cells pa' pc' ia' k'.len ic')] w fun e w' => e = .returned (.int .i64 (rankV h h' k')) ∧ Below w.heap.size w w' := by
  unfold Hd.cells
  go_enter Tryd.func35, Tryd.ntmps35
  go_upto_region 0 with fail
  go_cut [0, 1, 2, 3, 4] (fun _ _ t2 t3 _ wx => t2 = .pointer (some ⟨w.heap.size, 0, none⟩) ∧ t3 = .pointer (some ⟨w.heap.size + 1, 0, none⟩) ∧ Blk wx w.heap.size 28 (h.cells pa pc ia k.len ic) ∧ Blk wx (w.heap.size + 1) 28 (h'.cells pa' pc' ia' k'.len ic') ∧ Below w.heap.size w wx)
  case first =>
    go_wp2_with fail
    go_meet
    case rel => exact ⟨rfl, rfl, (Blk.new _ _ _).alloc _, Blk.new1 _ _ _ _, by ((repeat' (first | exact Below.refl _ _ | assumption | (refine bl_alloc ?_ _) | (refine Below.drew ?_) | (refine below_drewN ?_ _) | (refine Below.setCell ?_ ?_ _) | (refine bl_trans ?_ (by assumption)))) <;> first | omega | (simp; done) | (simp; omega))⟩
  case rest =>
  obtain ⟨rfl, rfl, hA, hB, hbw⟩ := hcut
  obtain ⟨w0, rfl⟩ : ∃ w0 : World, w0 = wc := ⟨_, rfl⟩
  have HOF : Hid (∀ w', Below w.heap.size w w' → Calls Tryd.prog 18 #[.agg (h.cells pa pc ia k.len ic)] w' (OfPost h k w')) := fun w' hb => of_any h k ho hk hl w' S pa pc ia ic (hd.below hb (fun b _ h => h)) (hown.below hb (Nat.le_refl _))
  have HPB : Hid (∀ w' qa qc ja jc, Below w.heap.size w w' → Calls Tryd.prog 148 #[.agg (h.cells qa qc ja k.len jc), .agg (h'.cells pa' pc' ia' k'.len ic')] w' fun e w'' => e = .returned (.tuple #[.int .i64 (rankD h h' k').1, .bool (rankD h h' k').2]) ∧ Below w'.heap.size w' w'') := fun w' qa qc ja jc hb => figureRank_any h k h' k' ho' hk' w' S T qa qc ja jc pa' pc' ia' ic' (hd'.below hb (fun b _ h => h)) (hown.below hb (Nat.le_refl _))
  have HQB : Hid (∀ w' qa qc ja jc, Below w.heap.size w w' → Calls Tryd.prog 156 #[.agg (h.cells qa qc ja k.len jc), .agg (h'.cells pa' pc' ia' k'.len ic')] w' fun e w'' => e = .returned (.tuple #[.int .i64 (rankD h h' k').1, .bool (rankD h h' k').2]) ∧ Below w'.heap.size w' w'') := fun w' qa qc ja jc hb => letterRank2_any h k h' k' ho' hk' w' S T qa qc ja jc pa' pc' ia' ic' (hd'.below hb (fun b _ h => h)) (hown.below hb (Nat.le_refl _))
  have HRT : Hid (rightB h k = true) := hr
  have HORD : Hid (ordBB h = true) := hord
  obtain ⟨n1, hn1⟩ : ∃ x, (rankD h h' k').1 = x := ⟨_, rfl⟩
  obtain ⟨n2, hn2⟩ : ∃ x, (rankD h h' k').2 = x := ⟨_, rfl⟩
  have hv : rankV h h' k' = if n2 = true then n1 else 9 := by unfold rankV; rw [hn1, hn2]
  rw [hn1, hn2] at HPB HQB
  have HV := Lib.hid hv
  unfold Hd.cells at HOF HPB HQB
  clear hd hd' hown ho hk hl ho' hk' hr hord hn1 hn2 hv
  obtain ⟨c0, c1, c2, c3, c4, c5, c6, c7, c8, c9, c10⟩ := (CellsAt.of_blk hA).box
  go_upto_region 1 with fail
  go_cut [5, 6] (fun t5 t6 wx => (∃ t qa qc ja jc, (t = 115 ∨ t = 116) ∧ t5 = .iface t (.agg (h.cells qa qc ja k.len jc))) ∧ t6 = .nilIface ∧ Below w0.heap.size w0 wx)
  case first =>
    go_wp2_with fail
    refine (HOF.out _ hbw).mono ?_
    rintro e w2 ⟨hb2, he⟩
    rw [if_pos HRT.out] at he
    obtain ⟨v, rfl, hv⟩ := he
    have hq : ∃ t qa qc ja jc, (t = 115 ∨ t = 116) ∧ v = .iface t (.agg (h.cells qa qc ja k.len jc)) := by
      unfold ValAt at hv
      cases hty : tyO h k with
      | none => have := tyO_none_ord2 hty; rw [HORD.out] at this; cases this
      | some t =>
        rw [hty] at hv
        obtain ⟨qa, qc, ja, jc, e, _⟩ := hv
        exact ⟨t, qa, qc, ja, jc, ord_two2 (by rw [tyO_ord2 hty, HORD.out]), e⟩
    have HQ := Lib.hid hq
    clear hq hv
    go_wp2_with fail
    go_meet
    case rel => exact ⟨HQ.out, rfl, hb2⟩
  case rest =>
  obtain ⟨⟨t, qa, qc, ja, jc, ht, rfl⟩, rfl, hb0⟩ := hcut
  obtain ⟨w2, rfl⟩ : ∃ w2 : World, w2 = wc := ⟨_, rfl⟩
  have hB2 := hB.below hb0 hB.lt
  have hbw2 := bl_trans hbw hb0
  clear c0 c1 c2 c3 c4 c5 c6 c7 c8 c9 c10 hA hB hbw hb0 HOF
  obtain ⟨d0, d1, d2, d3, d4, d5, d6, d7, d8, d9, d10⟩ := (CellsAt.of_blk hB2).box
  rcases ht with rfl | rfl
  · have ha := assert_ordered (t := 115) (Or.inr (Or.inl rfl))
    rw [show orderedT 115 = true by decide] at ha
    have hm := fun x => figure_rank (w := w2) (x := x)
    go_wp2_with fail
    refine (HPB.out _ _ _ _ _ hbw2).mono ?_
    rintro e wz ⟨rfl, hbz⟩
    cases n2 <;> (go_wp2_with fail; go_ret; exact ⟨by rw [HV.out]; rfl, bl_trans hbw2 hbz⟩)
  · have ha := assert_ordered (t := 116) (Or.inr (Or.inr (Or.inl rfl)))
    rw [show orderedT 116 = true by decide] at ha
    have hm := fun x => letter_rank (w := w2) (x := x)
    go_wp2_with fail
    refine (HQB.out _ _ _ _ _ hbw2).mono ?_
    rintro e wz ⟨rfl, hbz⟩
    cases n2 <;> (go_wp2_with fail; go_ret; exact ⟨by rw [HV.out]; rfl, bl_trans hbw2 hbz⟩)
end Go.Proofs.YthdmmhiifkebeaaDoor
