/-
  Contract of the reference's Key: the fault of a datum that is held against itself, called otherwise. Written by an AI agent.
-/
import Derived.Test.YthdmmhiifkebeaaDoorEq2
namespace Go.Proofs.YthdmmhiifkebeaaDoor
open Go.RowKit Go.Sort

def keyFault (o : Option ByteArray) : Value := match o with | none => .agg #[.string ⟨#[]⟩, .string ⟨#[]⟩] | some m => .agg #[.string ⟨#[107, 101, 121]⟩, .string m]
theorem fault_none : fault none = .agg #[.string ⟨#[]⟩, .string ⟨#[]⟩] := rfl
theorem fault_some (m : ByteArray) : fault (some m) = .agg #[.string ⟨#[99, 111, 109, 112, 97, 114, 101]⟩, .string m] := rfl

set_option maxRecDepth 100000 in
set_option maxHeartbeats 2000000 in
theorem rKey_any (h : Hd) (k : Fo) (ho : h.ok) (hk : k.ok) (w : World) (S : Nat → Prop) (pa : Option Addr) (pc : Nat) (ia : Option Addr) (ic : Nat) (hd : DatAt w S h k pa pc ia ic) :
    Calls Tryd.prog 27 #[.agg (h.cells pa pc ia k.len ic)] w fun e w' => e = .returned (keyFault (reqD h k h k).2) ∧ Below w.heap.size w w' := by
  have hE : ∀ w', Below w.heap.size w w' → Calls Tryd.prog 23 #[.agg (h.cells pa pc ia k.len ic), .agg (h.cells pa pc ia k.len ic)] w' fun e w'' => e = .returned (.tuple #[.bool (reqD h k h k).1, fault (reqD h k h k).2]) ∧ Below w'.heap.size w' w'' := fun w' hb => req_any h k h k ho hk ho hk w' S S pa pc ia ic pa pc ia ic (hd.below hb (fun b _ h => h)) (hd.below hb (fun b _ h => h))
  obtain ⟨b, hb⟩ : ∃ b, (reqD h k h k).1 = b := ⟨_, rfl⟩
  obtain ⟨o, ho2⟩ : ∃ o, (reqD h k h k).2 = o := ⟨_, rfl⟩
  rw [hb, ho2] at hE
  rw [ho2]
  clear hb ho2
  unfold Hd.cells at hE ⊢
  have HK : Hid (∀ m, o = some m → keyFault o = .agg #[.string ⟨#[107, 101, 121]⟩, .string m]) := fun m e => by rw [e]; rfl
  cases o with
  | none =>
    rw [fault_none] at hE
    have HE := Lib.hid hE
    clear hE
    go_enter Tryd.func27, Tryd.ntmps27
    go_upto_region 0 with fail
    go_cut [0, 1, 2] (fun _ t1 t2 wx => t1 = .pointer (some ⟨w.heap.size, 0, none⟩) ∧ t2 = .pointer (some ⟨w.heap.size + 1, 0, none⟩) ∧ Blk wx w.heap.size 28 (h.cells pa pc ia k.len ic) ∧ Blk wx (w.heap.size + 1) 48 #[.string ⟨#[]⟩, .string ⟨#[]⟩] ∧ Below w.heap.size w wx)
    case first =>
      go_wp2_with fail
      go_meet
      case rel => exact ⟨rfl, rfl, (Blk.new _ _ _).alloc _, Blk.new1 _ _ _ _, by ((repeat' (first | exact Below.refl _ _ | assumption | (refine bl_alloc ?_ _) | (refine Below.drew ?_) | (refine below_drewN ?_ _) | (refine Below.setCell ?_ ?_ _) | (refine bl_trans ?_ (by assumption)))) <;> first | omega | (simp; done) | (simp; omega))⟩
    case rest =>
    obtain ⟨rfl, rfl, hA, hC, hbw⟩ := hcut
    obtain ⟨w0, rfl⟩ : ∃ w0 : World, w0 = wc := ⟨_, rfl⟩
    obtain ⟨c0, c1, c2, c3, c4, c5, c6, c7, c8, c9, c10⟩ := (CellsAt.of_blk hA).box
    go_upto_region 1 with fail
    go_cut [4] (fun t wx => ∃ g, t = .pointer (some ⟨g, 0, none⟩) ∧ Blk wx g 48 #[.string ⟨#[]⟩, .string ⟨#[]⟩] ∧ w0.heap.size ≤ g ∧ Below w0.heap.size w0 wx)
    case first =>
      go_wp2_with fail
      refine (HE.out _ hbw).mono ?_
      rintro e w1 ⟨rfl, hb1⟩
      have hs1 := hb1.size
      go_wp2_with fail
      go_meet
      case rel => exact ⟨_, rfl, Blk.new _ _ _, hs1, by ((repeat' (first | exact Below.refl _ _ | assumption | (refine bl_alloc ?_ _) | (refine Below.drew ?_) | (refine below_drewN ?_ _) | (refine Below.setCell ?_ ?_ _) | (refine bl_trans ?_ (by assumption)))) <;> first | omega | (simp; done) | (simp; omega))⟩
    case rest =>
    obtain ⟨g, rfl, hG, hgw, hb1⟩ := hcut
    obtain ⟨w1, rfl⟩ : ∃ w1 : World, w1 = wc := ⟨_, rfl⟩
    have hlC := hC.lt
    have hC1 := hC.below hb1 hlC
    have hgne : g ≠ w.heap.size + 1 := by omega
    have hbw1 := bl_trans hbw hb1
    clear c0 c1 c2 c3 c4 c5 c6 c7 c8 c9 c10 hA hC hbw hb1
    have g0 := hG.cell 0
    have g1 := hG.cell 1
    have e0 := hC1.cell 0
    have e1 := hC1.cell 1
    simp at g0 g1 e0 e1
    have hfr := fun j => hC1.frozen j
    have hfg := fun j => hG.frozen j
    have HR : Hid (Ending.returned (.agg #[.string ⟨#[]⟩, .string ⟨#[]⟩]) = .returned (keyFault none)) := rfl
    go_wp2_with fail
    exact bodyPost_ret (v := .agg #[.string ⟨#[]⟩, .string ⟨#[]⟩]) (by simp [results, Tryd.results27, go_sem, (two_cells hC1 (.string ⟨#[]⟩) (.string ⟨#[]⟩)).1, (two_cells hC1 (.string ⟨#[]⟩) (.string ⟨#[]⟩)).2]) rfl ⟨HR.out, by ((repeat' (first | exact Below.refl _ _ | assumption | (refine bl_alloc ?_ _) | (refine Below.drew ?_) | (refine below_drewN ?_ _) | (refine Below.setCell ?_ ?_ _) | (refine bl_trans ?_ (by assumption)))) <;> first | omega | (simp; done) | (simp; omega))⟩
  | some m =>
    rw [fault_some] at hE
    have HE := Lib.hid hE
    clear hE
    go_enter Tryd.func27, Tryd.ntmps27
    go_upto_region 0 with fail
    go_cut [0, 1, 2] (fun _ t1 t2 wx => t1 = .pointer (some ⟨w.heap.size, 0, none⟩) ∧ t2 = .pointer (some ⟨w.heap.size + 1, 0, none⟩) ∧ Blk wx w.heap.size 28 (h.cells pa pc ia k.len ic) ∧ Blk wx (w.heap.size + 1) 48 #[.string ⟨#[]⟩, .string ⟨#[]⟩] ∧ Below w.heap.size w wx)
    case first =>
      go_wp2_with fail
      go_meet
      case rel => exact ⟨rfl, rfl, (Blk.new _ _ _).alloc _, Blk.new1 _ _ _ _, by ((repeat' (first | exact Below.refl _ _ | assumption | (refine bl_alloc ?_ _) | (refine Below.drew ?_) | (refine below_drewN ?_ _) | (refine Below.setCell ?_ ?_ _) | (refine bl_trans ?_ (by assumption)))) <;> first | omega | (simp; done) | (simp; omega))⟩
    case rest =>
    obtain ⟨rfl, rfl, hA, hC, hbw⟩ := hcut
    obtain ⟨w0, rfl⟩ : ∃ w0 : World, w0 = wc := ⟨_, rfl⟩
    obtain ⟨c0, c1, c2, c3, c4, c5, c6, c7, c8, c9, c10⟩ := (CellsAt.of_blk hA).box
    go_upto_region 1 with fail
    go_cut [4] (fun t wx => ∃ g, t = .pointer (some ⟨g, 0, none⟩) ∧ Blk wx g 48 #[.string ⟨#[99, 111, 109, 112, 97, 114, 101]⟩, .string m] ∧ w0.heap.size ≤ g ∧ Below w0.heap.size w0 wx)
    case first =>
      go_wp2_with fail
      refine (HE.out _ hbw).mono ?_
      rintro e w1 ⟨rfl, hb1⟩
      have hs1 := hb1.size
      go_wp2_with fail
      go_meet
      case rel => exact ⟨_, rfl, Blk.new _ _ _, hs1, by ((repeat' (first | exact Below.refl _ _ | assumption | (refine bl_alloc ?_ _) | (refine Below.drew ?_) | (refine below_drewN ?_ _) | (refine Below.setCell ?_ ?_ _) | (refine bl_trans ?_ (by assumption)))) <;> first | omega | (simp; done) | (simp; omega))⟩
    case rest =>
    obtain ⟨g, rfl, hG, hgw, hb1⟩ := hcut
    obtain ⟨w1, rfl⟩ : ∃ w1 : World, w1 = wc := ⟨_, rfl⟩
    have hlC := hC.lt
    have hC1 := hC.below hb1 hlC
    have hgne : g ≠ w.heap.size + 1 := by omega
    have hgw2 : w.heap.size ≤ g := by omega
    have hbw1 := bl_trans hbw hb1
    clear c0 c1 c2 c3 c4 c5 c6 c7 c8 c9 c10 hA hC hbw hb1
    have g0 := hG.cell 0
    have g1 := hG.cell 1
    simp at g0 g1
    have hfg := fun j => hG.frozen j
    go_upto_region 3 with fail
    go_cut [4] (fun t wx => t = .pointer (some ⟨g, 0, none⟩) ∧ Blk wx g 48 #[.string ⟨#[107, 101, 121]⟩, .string m] ∧ Blk wx (w.heap.size + 1) 48 #[.string ⟨#[]⟩, .string ⟨#[]⟩] ∧ Below w.heap.size w wx)
    case first =>
      have hG2 := hG.set_ 0 (.string ⟨#[107, 101, 121]⟩)
      have hC2 := hC1.far (p := ⟨g, 0, none⟩) (by simpa using Ne.symm hgne) (.string ⟨#[107, 101, 121]⟩)
      have hb2 : Below w.heap.size w (w1.setCell ⟨g, 0, none⟩ (.string ⟨#[107, 101, 121]⟩)) := hbw1.setCell hgw2 _
      go_wp2_with fail
      go_meet
      case rel => exact ⟨rfl, by simpa using hG2, hC2, hb2⟩
    case rest =>
    obtain ⟨rfl, hG2, hC2, hbw2⟩ := hcut
    obtain ⟨w2, rfl⟩ : ∃ w2 : World, w2 = wc := ⟨_, rfl⟩
    clear g0 g1 hfg hG hC1 hbw1
    have g0 := hG2.cell 0
    have g1 := hG2.cell 1
    have e0 := hC2.cell 0
    have e1 := hC2.cell 1
    simp at g0 g1 e0 e1
    have hfr := fun j => hC2.frozen j
    have hfg := fun j => hG2.frozen j
    have HR : Hid (Ending.returned (.agg #[.string ⟨#[107, 101, 121]⟩, .string m]) = .returned (keyFault (some m))) := rfl
    go_wp2_with fail
    exact bodyPost_ret (v := .agg #[.string ⟨#[107, 101, 121]⟩, .string m]) (by simp [results, Tryd.results27, go_sem, (two_cells hC2 (.string ⟨#[107, 101, 121]⟩) (.string m)).1, (two_cells hC2 (.string ⟨#[107, 101, 121]⟩) (.string m)).2]) rfl ⟨HR.out, by ((repeat' (first | exact Below.refl _ _ | assumption | (refine bl_alloc ?_ _) | (refine Below.drew ?_) | (refine below_drewN ?_ _) | (refine Below.setCell ?_ ?_ _) | (refine bl_trans ?_ (by assumption)))) <;> first | omega | (simp; done) | (simp; omega))⟩
end Go.Proofs.YthdmmhiifkebeaaDoor
