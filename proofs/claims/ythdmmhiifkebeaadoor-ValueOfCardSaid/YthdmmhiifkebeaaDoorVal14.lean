/-
  Contracts of value.Equal, value.Key. Written by an AI agent.
-/
import Derived.Test.YthdmmhiifkebeaaDoorVal13
namespace Go.Proofs.YthdmmhiifkebeaaDoor
open Go.RowKit Go.Sort

def cmpW : ByteArray := ⟨#[99, 111, 109, 112, 97, 114, 101]⟩
def keyW : ByteArray := ⟨#[107, 101, 121]⟩
/-- A fault. -/
def FaultAt (w w' : World) (v : Value) (word more : ByteArray) : Prop := ∃ g, v = .iface 128 (.pointer (some ⟨g, 0, none⟩)) ∧ Blk w' g 48 #[.string word, .string more] ∧ w.heap.size ≤ g
theorem FaultAt.keep {w w1 w2 : World} {v : Value} {a b : ByteArray} (h : FaultAt w w1 v a b) (hb : Below w1.heap.size w1 w2) : FaultAt w w2 v a b := by
  obtain ⟨g, h1, h2, h3⟩ := h
  exact ⟨g, h1, h2.below hb h2.lt, h3⟩
theorem WrongAt.keep {w w1 w2 : World} {v : Value} (h : WrongAt w w1 v) (hb : Below w1.heap.size w1 w2) : WrongAt w w2 v := by
  obtain ⟨g, h1, h2, h3⟩ := h
  exact ⟨g, h1, h2.below hb h2.lt, h3⟩
theorem WrongAt.from {w0 w w1 : World} {v : Value} (h : WrongAt w w1 v) (hb : w0.heap.size ≤ w.heap.size) : WrongAt w0 w1 v := by
  obtain ⟨g, h1, h2, h3⟩ := h
  exact ⟨g, h1, h2, Nat.le_trans hb h3⟩
theorem FaultAt.from {w0 w w1 : World} {v : Value} {a b : ByteArray} (h : FaultAt w w1 v a b) (hb : w0.heap.size ≤ w.heap.size) : FaultAt w0 w1 v a b := by
  obtain ⟨g, h1, h2, h3⟩ := h
  exact ⟨g, h1, h2, Nat.le_trans hb h3⟩

/-- What value.Equal answers. -/
def EqualPost (h : Hd) (k : Fo) (h' : Hd) (k' : Fo) (w : World) (e : Ending) (w' : World) : Prop := Below w.heap.size w w' ∧ ∃ b v, e = .returned (.tuple #[.bool b, v]) ∧
  if (rightB h k && rightB h' k') = true then b = (if (equalD h k h' k').2 = emp then (equalD h k h' k').1 else false) ∧ (if (equalD h k h' k').2 = emp then v = .nilIface else FaultAt w w' v cmpW (equalD h k h' k').2) else b = false ∧ WrongAt w w' v

set_option maxRecDepth 100000 in
set_option maxHeartbeats 4000000 in
theorem Equal_any (h : Hd) (k : Fo) (h' : Hd) (k' : Fo) (ho : h.ok) (hk : k.ok) (ho' : h'.ok) (hk' : k'.ok) (w : World) (S T : Nat → Prop) (pa : Option Addr) (pc : Nat) (ia : Option Addr) (ic : Nat) (pa' : Option Addr) (pc' : Nat) (ia' : Option Addr) (ic' : Nat)
    (hd : DatAt w S h k pa pc ia ic) (hd' : DatAt w T h' k' pa' pc' ia' ic') (hown : OwnAt w) :
    Calls Tryd.prog 21 #[.agg (h.cells pa pc ia k.len ic), .agg (h'.cells pa' pc' ia' k'.len ic')] w (EqualPost h k h' k' w) := by
  unfold Hd.cells
  go_enter Tryd.func21, Tryd.ntmps21
  go_upto_region 0 with fail
  go_cut [0, 1, 2, 3] (fun _ _ t2 t3 wx => t2 = .pointer (some ⟨w.heap.size, 0, none⟩) ∧ t3 = .pointer (some ⟨w.heap.size + 1, 0, none⟩) ∧ Blk wx w.heap.size 28 (h.cells pa pc ia k.len ic) ∧ Blk wx (w.heap.size + 1) 28 (h'.cells pa' pc' ia' k'.len ic') ∧ Below w.heap.size w wx)
  case first =>
    go_wp2_with fail
    go_meet
    case rel => exact ⟨rfl, rfl, (Blk.new _ _ _).alloc _, Blk.new1 _ _ _ _, by ((repeat' (first | exact Below.refl _ _ | assumption | (refine bl_alloc ?_ _) | (refine Below.drew ?_) | (refine below_drewN ?_ _) | (refine Below.setCell ?_ ?_ _) | (refine bl_trans ?_ (by assumption)))) <;> first | omega | (simp; done) | (simp; omega))⟩
  case rest =>
  obtain ⟨rfl, rfl, hA, hB, hbw⟩ := hcut
  obtain ⟨w0, rfl⟩ : ∃ w0 : World, w0 = wc := ⟨_, rfl⟩
  go_upto_region 1 with fail
  go_cut [15] (fun t wx => t = .bool (!(rightB h k && rightB h' k')) ∧ Below w0.heap.size w0 wx)
  case first =>
    as_aux_lemma =>
      have hR := Right_any h k ho hk w0 S pa pc ia ic (hd.below hbw (fun b _ h => h)) (hown.below hbw (Nat.le_refl _))
      unfold Hd.cells at hR
      have HR := Lib.hid hR
      clear hR
      obtain ⟨c0, c1, c2, c3, c4, c5, c6, c7, c8, c9, c10⟩ := (CellsAt.of_blk hA).box
      obtain ⟨d0, d1, d2, d3, d4, d5, d6, d7, d8, d9, d10⟩ := (CellsAt.of_blk hB).box
      go_wp2_with fail
      refine HR.out.mono ?_
      rintro e w1 ⟨rfl, hb1⟩
      have hR' := Right_any h' k' ho' hk' w1 T pa' pc' ia' ic' (hd'.below (bl_trans hbw hb1) (fun b _ h => h)) (hown.below (bl_trans hbw hb1) (Nat.le_refl _))
      unfold Hd.cells at hR'
      have HR' := Lib.hid hR'
      have hB1 := hB.below hb1 hB.lt
      clear hR' HR c0 c1 c2 c3 c4 c5 c6 c7 c8 c9 c10 d0 d1 d2 d3 d4 d5 d6 d7 d8 d9 d10
      obtain ⟨d0, d1, d2, d3, d4, d5, d6, d7, d8, d9, d10⟩ := (CellsAt.of_blk hB1).box
      cases hr : rightB h k
      · go_wp2_with fail
        go_meet
        case rel => exact ⟨by rw [hr]; rfl, hb1⟩
      · go_wp2_with fail
        refine HR'.out.mono ?_
        rintro e w2 ⟨rfl, hb2⟩
        go_wp2_with fail
        go_meet
        case rel => exact ⟨by rw [hr]; simp, bl_trans hb1 hb2⟩
  case rest =>
  obtain ⟨rfl, hb1⟩ := hcut
  obtain ⟨w1, rfl⟩ : ∃ w1 : World, w1 = wc := ⟨_, rfl⟩
  have hbw1 := bl_trans hbw hb1
  have hA1 := hA.below hb1 hA.lt
  have hB1 := hB.below hb1 hB.lt
  clear hA hB hb1 hbw
  cases hr : (rightB h k && rightB h' k')
  · go_wp2_with fail
    refine (wrong_any _).mono ?_
    rintro e w2 ⟨rfl, hg, hb2⟩
    go_wp2_with fail
    go_ret2
    refine ⟨bl_trans hbw1 hb2, _, _, rfl, ?_⟩
    rw [if_neg (by rw [hr]; simp)]
    exact ⟨rfl, _, rfl, hg, hbw1.size⟩
  have HRR := Lib.hid hr
  clear hr
  obtain ⟨c0, c1, c2, c3, c4, c5, c6, c7, c8, c9, c10⟩ := (CellsAt.of_blk hA1).box
  obtain ⟨d0, d1, d2, d3, d4, d5, d6, d7, d8, d9, d10⟩ := (CellsAt.of_blk hB1).box
  have hE := equal_any h k h' k' ho hk ho' hk' w1 S T pa pc ia ic pa' pc' ia' ic' (hd.below hbw1 (fun _ _ h => h)) (hd'.below hbw1 (fun _ _ h => h))
  unfold Hd.cells at hE
  have HE := Lib.hid hE
  clear hE
  have HP : Hid (∀ w' b v, Below w.heap.size w w' → (b = (if (equalD h k h' k').2 = emp then (equalD h k h' k').1 else false)) → (if (equalD h k h' k').2 = emp then v = .nilIface else FaultAt w w' v cmpW (equalD h k h' k').2) → EqualPost h k h' k' w (.returned (.tuple #[.bool b, v])) w') := fun w' b v hb e f =>
    ⟨hb, b, v, rfl, by rw [if_pos HRR.out]; exact ⟨e, f⟩⟩
  generalize equalD h k h' k' = q at HE HP
  obtain ⟨qb, qs⟩ := q
  go_wp2_with fail
  refine HE.out.mono ?_
  rintro e w2 ⟨rfl, hb2⟩
  clear HE c0 c1 c2 c3 c4 c5 c6 c7 c8 c9 c10 d0 d1 d2 d3 d4 d5 d6 d7 d8 d9 d10
  have hbw2 := bl_trans hbw1 hb2
  go_wp2_with fail
  · go_ret2
    have he : qs ≠ emp := fun e => by have := (empty_iff _).2 e; simp_all
    exact HP.out _ _ _ (bl_alloc hbw2 _) (by rw [if_neg he]) (by rw [if_neg he]; exact ⟨_, rfl, Blk.new _ _ _, hbw2.size⟩)
  · go_ret2
    have he : qs = emp := (empty_iff _).1 (by simp_all)
    exact HP.out _ _ _ hbw2 (by rw [if_pos he]) (by rw [if_pos he]; rfl)

/-- May a right one be a key? -/
def keyB (h : Hd) (k : Fo) : Bool := match tyO h k with | none => true | some t => keyedT t
def KeyV (h : Hd) (k : Fo) (w w' : World) (v : Value) : Prop := if rightB h k = true then (if keyB h k = true then v = .nilIface else FaultAt w w' v keyW (heldS h k)) else WrongAt w w' v
def KeyPost (h : Hd) (k : Fo) (w : World) (e : Ending) (w' : World) : Prop := Below w.heap.size w w' ∧ ∃ v, e = .returned v ∧ KeyV h k w w' v

set_option maxRecDepth 100000 in
set_option maxHeartbeats 4000000 in
theorem key_any (h : Hd) (k : Fo) (ho : h.ok) (hk : k.ok) (hl : k.len ≤ 1034834473170) (w : World) (S : Nat → Prop) (pa : Option Addr) (pc : Nat) (ia : Option Addr) (ic : Nat) (hd : DatAt w S h k pa pc ia ic) (hown : OwnAt w) :
    Calls Tryd.prog 25 #[.agg (h.cells pa pc ia k.len ic)] w (KeyPost h k w) := by
  unfold Hd.cells
  go_enter Tryd.func25, Tryd.ntmps25
  go_upto_region 0 with fail
  go_cut [0, 1] (fun _ t1 wx => t1 = .pointer (some ⟨w.heap.size, 0, none⟩) ∧ Blk wx w.heap.size 28 (h.cells pa pc ia k.len ic) ∧ Below w.heap.size w wx)
  case first =>
    go_wp2_with fail
    go_meet
    case rel => exact ⟨rfl, Blk.new _ _ _, by ((repeat' (first | exact Below.refl _ _ | assumption | (refine bl_alloc ?_ _) | (refine Below.drew ?_) | (refine below_drewN ?_ _) | (refine Below.setCell ?_ ?_ _) | (refine bl_trans ?_ (by assumption)))) <;> first | omega | (simp; done) | (simp; omega))⟩
  case rest =>
  obtain ⟨rfl, hA, hbw⟩ := hcut
  obtain ⟨w0, rfl⟩ : ∃ w0 : World, w0 = wc := ⟨_, rfl⟩
  obtain ⟨c0, c1, c2, c3, c4, c5, c6, c7, c8, c9, c10⟩ := (CellsAt.of_blk hA).box
  have hO := of_any h k ho hk hl w0 S pa pc ia ic (hd.below hbw (fun b _ h => h)) (hown.below hbw (Nat.le_refl _))
  unfold Hd.cells at hO
  have HO := Lib.hid hO
  clear hO
  go_wp2_with fail
  refine HO.out.mono ?_
  rintro e w1 ⟨hb1, he⟩
  have hbw1 := bl_trans hbw hb1
  have hA1 := hA.below hb1 hA.lt
  have hd1 := hd.below hbw1 (fun b _ h => h)
  clear HO c0 c1 c2 c3 c4 c5 c6 c7 c8 c9 c10 hA hb1
  by_cases hr : rightB h k = true
  · rw [if_pos hr] at he
    obtain ⟨v, rfl, hv⟩ := he
    have HRR := Lib.hid hr
    cases et : tyO h k with
    | none =>
      unfold ValAt at hv
      rw [et] at hv
      subst hv
      have HK : Hid (keyB h k = true) := by unfold Hid keyB; rw [et]
      have hn := assert_keyed_nil
      go_wp2_with fail
      go_ret
      exact ⟨hbw1, _, rfl, by unfold KeyV; rw [if_pos HRR.out, if_pos HK.out]; rfl⟩
    | some t =>
      unfold ValAt at hv
      rw [et] at hv
      obtain ⟨qa, qc, ja, jc, rfl, _⟩ := hv
      have ht := tyO_val et
      have hn := assert_keyed ht
      cases hkt : keyedT t <;> rw [hkt] at hn
      · have HK : Hid (keyB h k = false) := by unfold Hid keyB; rw [et]; exact hkt
        have hH := held_any h k ho hk w1 S pa pc ia ic hd1
        unfold Hd.cells at hH
        have HH := Lib.hid hH
        obtain ⟨c0, c1, c2, c3, c4, c5, c6, c7, c8, c9, c10⟩ := (CellsAt.of_blk hA1).box
        clear hH hkt
        go_wp2_with fail
        refine HH.out.mono ?_
        rintro e w2 ⟨rfl, hb2⟩
        go_wp2_with fail
        go_ret
        refine ⟨bl_alloc (bl_trans hbw1 hb2) _, _, rfl, ?_⟩
        unfold KeyV
        rw [if_pos HRR.out, if_neg (by rw [HK.out]; simp)]
        exact ⟨_, rfl, Blk.new _ _ _, (bl_trans hbw1 hb2).size⟩
      · have HK : Hid (keyB h k = true) := by unfold Hid keyB; rw [et]; exact hkt
        go_wp2_with fail
        go_ret
        exact ⟨hbw1, _, rfl, by unfold KeyV; rw [if_pos HRR.out, if_pos HK.out]; rfl⟩
  · rw [if_neg hr] at he
    obtain ⟨v, rfl, g, rfl, hv⟩ := he
    have HRR := Lib.hid hr
    clear hr
    go_wp2_with fail
    go_ret
    exact ⟨hbw1, _, rfl, by unfold KeyV; rw [if_neg HRR.out]; exact ⟨g, rfl, hv.1, Nat.le_trans hbw.size hv.2⟩⟩
end Go.Proofs.YthdmmhiifkebeaaDoor
