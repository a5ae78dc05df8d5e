/-
  Contract of value.Of. Written by an AI agent.
-/
import Derived.Test.YthdmmhiifkebeaaDoorVal11
namespace Go.Proofs.YthdmmhiifkebeaaDoor
open Go.RowKit Go.Sort

/-- The type of a datum's value; none: nil. -/
def tyO (h : Hd) (k : Fo) : Option TypeId :=
  if h.kind = 1 then some 114 else if h.kind = 2 ∨ h.kind = 3 then some 115 else if h.kind = 4 then some 116
  else if h.kind = 5 then some 117 else if h.kind = 6 ∨ h.kind = 7 then some 118 else if h.kind = 9 then some 119
  else if h.kind = 8 then (if heldS h k = emp then some 123 else some 121) else none
/-- An error that says that an argument may not be. -/
def WrongAt (w w' : World) (v : Value) : Prop := ∃ g, v = .iface 129 (.pointer (some ⟨g, 0, none⟩)) ∧ Blk w' g 133 #[.int .i64 1, .int .i64 0, .string emp] ∧ w.heap.size ≤ g
/-- A datum's value: of its type, in memory that has been made since w. -/
def ValAt (w w' : World) (h : Hd) (k : Fo) (v : Value) : Prop := match tyO h k with
  | none => v = .nilIface
  | some t => ∃ pa pc ia ic, v = .iface t (.agg (h.cells pa pc ia k.len ic)) ∧ DatAt w' (fun b => w.heap.size ≤ b) h k pa pc ia ic
theorem ValAt.none {w w' : World} {h : Hd} {k : Fo} (e : tyO h k = none) : ValAt w w' h k .nilIface := by unfold ValAt; rw [e]
theorem ValAt.some {w w' : World} {h : Hd} {k : Fo} {t : TypeId} {pa : Option Addr} {pc : Nat} {ia : Option Addr} {ic : Nat} (e : tyO h k = some t) (d : DatAt w' (fun b => w.heap.size ≤ b) h k pa pc ia ic) :
    ValAt w w' h k (.iface t (.agg (h.cells pa pc ia k.len ic))) := by unfold ValAt; rw [e]; exact ⟨_, _, _, _, rfl, d⟩
def OfPost (h : Hd) (k : Fo) (w : World) (e : Ending) (w' : World) : Prop := Below w.heap.size w w' ∧
  if rightB h k = true then ∃ v, e = .returned (.tuple #[v, .nilIface]) ∧ ValAt w w' h k v else ∃ v, e = .returned (.tuple #[.nilIface, v]) ∧ WrongAt w w' v

theorem empty_iff (s : ByteArray) : s.toList = [] ↔ s = emp := by
  rw [Lib.toList_data]
  constructor
  · intro h; cases s with | mk d => simp at h; subst h; rfl
  · rintro rfl; rfl

set_option maxRecDepth 100000 in
set_option maxHeartbeats 4000000 in
theorem of_any (h : Hd) (k : Fo) (ho : h.ok) (hk : k.ok) (hl : k.len ≤ 1034834473170) (w : World) (S : Nat → Prop) (pa : Option Addr) (pc : Nat) (ia : Option Addr) (ic : Nat) (hd : DatAt w S h k pa pc ia ic) (hown : OwnAt w) :
    Calls Tryd.prog 18 #[.agg (h.cells pa pc ia k.len ic)] w (OfPost h k w) := by
  unfold Hd.cells
  go_enter Tryd.func18, Tryd.ntmps18
  go_upto_region 0 with fail
  go_cut [0, 1] (fun _ t1 wx => t1 = .pointer (some ⟨w.heap.size, 0, none⟩) ∧ Blk wx w.heap.size 28 (h.cells pa pc ia k.len ic) ∧ Below w.heap.size w wx)
  case first =>
    go_wp2_with fail
    go_meet
    case rel => exact ⟨rfl, Blk.new _ _ _, by ((repeat' (first | exact Below.refl _ _ | assumption | (refine bl_alloc ?_ _) | (refine Below.drew ?_) | (refine below_drewN ?_ _) | (refine Below.setCell ?_ ?_ _) | (refine bl_trans ?_ (by assumption)))) <;> first | omega | (simp; done) | (simp; omega))⟩
  case rest =>
  obtain ⟨rfl, hA, hbw⟩ := hcut
  obtain ⟨w0, rfl⟩ : ∃ w0 : World, w0 = wc := ⟨_, rfl⟩
  obtain ⟨c0, c1, c2, c3, c4, c5, c6, c7, c8, c9, c10⟩ := (CellsAt.of_blk hA).box
  have hR := Right_any h k ho hk w0 S pa pc ia ic (hd.below hbw (fun b _ h => h)) (hown.below hbw (Nat.le_refl _))
  unfold Hd.cells at hR
  have HR := Lib.hid hR
  clear hR
  go_wp2_with fail
  refine HR.out.mono ?_
  rintro e w1 ⟨rfl, hb1⟩
  have hbw1 := bl_trans hbw hb1
  have hA1 := hA.below hb1 hA.lt
  have hd1 := hd.below hbw1 (fun b _ h => h)
  clear HR c0 c1 c2 c3 c4 c5 c6 c7 c8 c9 c10 hA hbw hb1
  cases hr : rightB h k
  · go_wp2_with fail
    refine (wrong_any _).mono ?_
    rintro e w2 ⟨rfl, hg, hb2⟩
    go_wp2_with fail
    go_ret2
    refine ⟨bl_trans hbw1 hb2, ?_⟩
    rw [if_neg (by rw [hr]; simp)]
    exact ⟨_, rfl, _, rfl, hg, hbw1.size⟩
  have HRR := Lib.hid hr
  clear hr
  obtain ⟨c0, c1, c2, c3, c4, c5, c6, c7, c8, c9, c10⟩ := (CellsAt.of_blk hA1).box
  have hT := twin_any h k ho hk hl w1 S pa pc ia ic hd1
  unfold Hd.cells at hT
  have HT := Lib.hid hT
  clear hT
  go_upto_region 3 with fail
  go_cut [4, 9, 10, 11] (fun t4 _ _ _ wx => ∃ g pa pc ia ic, t4 = .pointer (some ⟨g, 0, none⟩) ∧ Blk wx g 112 (h.cells pa pc ia k.len ic) ∧ DatAt wx (fun b => w.heap.size ≤ b) h k pa pc ia ic ∧ w.heap.size ≤ g ∧ Below w.heap.size w wx ∧ Below w1.heap.size w1 wx)
  case first =>
    go_wp2_with fail
    refine HT.out.mono ?_
    rintro e w2 ⟨pa', pc', ia', ic', rfl, hd2, hb2⟩
    unfold Hd.cells
    go_wp2_with fail
    go_meet
    case rel =>
      have hs1 := hbw1.size
      have hs2 := hb2.size
      exact ⟨_, pa', pc', ia', ic', rfl, Blk.new _ _ _, hd2.keep (fun b _ h => Below.heap_alloc _ _ _ h) (fun b h _ => Nat.le_trans hs1 h), Nat.le_trans hs1 hs2, bl_alloc (bl_trans hbw1 hb2) _, bl_alloc hb2 _⟩
  case rest =>
  obtain ⟨g, qa, qc, ja, jc, rfl, hG, hd4, hgw, hbw4, hb14⟩ := hcut
  obtain ⟨w4, rfl⟩ : ∃ w4 : World, w4 = wc := ⟨_, rfl⟩
  have hA4 := hA1.below hb14 hA1.lt
  clear c0 c1 c2 c3 c4 c5 c6 c7 c8 c9 c10 HT hA1 hbw1 hb14 hd1
  obtain ⟨c0, c1, c2, c3, c4, c5, c6, c7, c8, c9, c10⟩ := (CellsAt.of_blk hA4).box
  obtain ⟨d0, d1, d2, d3, d4, d5, d6, d7, d8, d9, d10⟩ := (CellsAt.of_blk hG).box
  by_cases h1 : h.kind = 1
  · rw [h1] at c0
    have HV : Hid (OfPost h k w (.returned (.tuple #[.iface (114) (.agg (h.cells qa qc ja k.len jc)), .nilIface])) w4) := ⟨hbw4, by rw [if_pos HRR.out]; exact ⟨_, rfl, ValAt.some (by unfold tyO; simp [h1]) hd4⟩⟩
    unfold Hd.cells at HV
    clear hd4 hbw4 hG hA4 h1
    go_wp2_with fail
    go_ret2
    exact HV.out
  have n1 : (h.kind == 1) = false := by simpa using h1
  by_cases h2 : h.kind = 2
  · rw [h2] at c0
    have HV : Hid (OfPost h k w (.returned (.tuple #[.iface (115) (.agg (h.cells qa qc ja k.len jc)), .nilIface])) w4) := ⟨hbw4, by rw [if_pos HRR.out]; exact ⟨_, rfl, ValAt.some (by unfold tyO; simp [h2]) hd4⟩⟩
    unfold Hd.cells at HV
    clear hd4 hbw4 hG hA4 h2
    go_wp2_with fail
    go_ret2
    exact HV.out
  have n2 : (h.kind == 2) = false := by simpa using h2
  by_cases h3 : h.kind = 3
  · rw [h3] at c0
    have HV : Hid (OfPost h k w (.returned (.tuple #[.iface (115) (.agg (h.cells qa qc ja k.len jc)), .nilIface])) w4) := ⟨hbw4, by rw [if_pos HRR.out]; exact ⟨_, rfl, ValAt.some (by unfold tyO; simp [h3]) hd4⟩⟩
    unfold Hd.cells at HV
    clear hd4 hbw4 hG hA4 h3
    go_wp2_with fail
    go_ret2
    exact HV.out
  have n3 : (h.kind == 3) = false := by simpa using h3
  by_cases h4 : h.kind = 4
  · rw [h4] at c0
    have HV : Hid (OfPost h k w (.returned (.tuple #[.iface (116) (.agg (h.cells qa qc ja k.len jc)), .nilIface])) w4) := ⟨hbw4, by rw [if_pos HRR.out]; exact ⟨_, rfl, ValAt.some (by unfold tyO; simp [h4]) hd4⟩⟩
    unfold Hd.cells at HV
    clear hd4 hbw4 hG hA4 h4
    go_wp2_with fail
    go_ret2
    exact HV.out
  have n4 : (h.kind == 4) = false := by simpa using h4
  by_cases h5 : h.kind = 5
  · rw [h5] at c0
    have HV : Hid (OfPost h k w (.returned (.tuple #[.iface (117) (.agg (h.cells qa qc ja k.len jc)), .nilIface])) w4) := ⟨hbw4, by rw [if_pos HRR.out]; exact ⟨_, rfl, ValAt.some (by unfold tyO; simp [h5]) hd4⟩⟩
    unfold Hd.cells at HV
    clear hd4 hbw4 hG hA4 h5
    go_wp2_with fail
    go_ret2
    exact HV.out
  have n5 : (h.kind == 5) = false := by simpa using h5
  by_cases h6 : h.kind = 6
  · rw [h6] at c0
    have HV : Hid (OfPost h k w (.returned (.tuple #[.iface (118) (.agg (h.cells qa qc ja k.len jc)), .nilIface])) w4) := ⟨hbw4, by rw [if_pos HRR.out]; exact ⟨_, rfl, ValAt.some (by unfold tyO; simp [h6]) hd4⟩⟩
    unfold Hd.cells at HV
    clear hd4 hbw4 hG hA4 h6
    go_wp2_with fail
    go_ret2
    exact HV.out
  have n6 : (h.kind == 6) = false := by simpa using h6
  by_cases h7 : h.kind = 7
  · rw [h7] at c0
    have HV : Hid (OfPost h k w (.returned (.tuple #[.iface (118) (.agg (h.cells qa qc ja k.len jc)), .nilIface])) w4) := ⟨hbw4, by rw [if_pos HRR.out]; exact ⟨_, rfl, ValAt.some (by unfold tyO; simp [h7]) hd4⟩⟩
    unfold Hd.cells at HV
    clear hd4 hbw4 hG hA4 h7
    go_wp2_with fail
    go_ret2
    exact HV.out
  have n7 : (h.kind == 7) = false := by simpa using h7
  by_cases h9 : h.kind = 9
  · rw [h9] at c0
    have HV : Hid (OfPost h k w (.returned (.tuple #[.iface (119) (.agg (h.cells qa qc ja k.len jc)), .nilIface])) w4) := ⟨hbw4, by rw [if_pos HRR.out]; exact ⟨_, rfl, ValAt.some (by unfold tyO; simp [h9]) hd4⟩⟩
    unfold Hd.cells at HV
    clear hd4 hbw4 hG hA4 h9
    go_wp2_with fail
    go_ret2
    exact HV.out
  have n9 : (h.kind == 9) = false := by simpa using h9
  by_cases h8 : h.kind = 8
  · rw [h8] at c0
    have hH := held_any h k ho hk w4 S pa pc ia ic (hd.below hbw4 (fun b _ h => h))
    unfold Hd.cells at hH
    rw [h8] at hH
    have HH := Lib.hid hH
    have HT : Hid (∀ w5, Below w4.heap.size w4 w5 → heldS h k = emp → OfPost h k w (.returned (.tuple #[.iface 123 (.agg (h.cells qa qc ja k.len jc)), .nilIface])) w5) := fun w5 hb e =>
      ⟨bl_trans hbw4 hb, by rw [if_pos HRR.out]; exact ⟨_, rfl, ValAt.some (by unfold tyO; simp [h8, e]) (hd4.below hb (fun _ _ h => h))⟩⟩
    have HF : Hid (∀ w5, Below w4.heap.size w4 w5 → heldS h k ≠ emp → OfPost h k w (.returned (.tuple #[.iface 121 (.agg (h.cells qa qc ja k.len jc)), .nilIface])) w5) := fun w5 hb e =>
      ⟨bl_trans hbw4 hb, by rw [if_pos HRR.out]; exact ⟨_, rfl, ValAt.some (by unfold tyO; simp [h8, e]) (hd4.below hb (fun _ _ h => h))⟩⟩
    unfold Hd.cells at HT HF
    have hG1 := hG.lt
    clear hH hd4 hbw4 hA4 h8
    generalize heldS h k = sb at HH HT HF
    go_wp2_with fail
    refine HH.out.mono ?_
    rintro e w5 ⟨rfl, hb5⟩
    have hG5 := hG.below hb5 hG1
    clear HH hG c0 c1 c2 c3 c4 c5 c6 c7 c8 c9 c10 d0 d1 d2 d3 d4 d5 d6 d7 d8 d9 d10
    obtain ⟨d0, d1, d2, d3, d4, d5, d6, d7, d8, d9, d10⟩ := (CellsAt.of_blk hG5).box
    go_wp2_with fail
    · go_ret2
      exact HT.out _ hb5 ((empty_iff _).1 (by simp_all))
    · go_ret2
      exact HF.out _ hb5 (fun e => by have := (empty_iff _).2 e; simp_all)
  have n8 : (h.kind == 8) = false := by simpa using h8
  have HV : Hid (OfPost h k w (.returned (.tuple #[.nilIface, .nilIface])) w4) := ⟨hbw4, by rw [if_pos HRR.out]; exact ⟨_, rfl, ValAt.none (by unfold tyO; simp [h1, h2, h3, h4, h5, h6, h7, h8, h9])⟩⟩
  clear hd4 hbw4 hG hA4 h1 h2 h3 h4 h5 h6 h7 h8 h9
  go_wp2_with fail
  go_ret2
  exact HV.out
end Go.Proofs.YthdmmhiifkebeaaDoor
