/-
  Contracts of small functions of package value: wrong, sign, mixed, number.Name; strings.Compare; the clones; twin. Written by an AI agent.
-/
import Derived.Test.YthdmmhiifkebeaaDoorVal5
namespace Go.Proofs.YthdmmhiifkebeaaDoor
open Go.RowKit Go.Sort

set_option maxHeartbeats 400000 in
theorem wrong_any (w : World) : Calls Tryd.prog 59 #[] w fun e w' => e = .returned (.iface 129 (.pointer (some ⟨w.heap.size, 0, none⟩))) ∧ Blk w' w.heap.size 133 #[.int .i64 1, .int .i64 0, .string emp] ∧ Below w.heap.size w w' := by
  go_enter Tryd.func59, Tryd.ntmps59
  go_wp2_with fail
  go_ret
  exact ⟨rfl, Blk.new _ _ _, by ((repeat' (first | exact Below.refl _ _ | assumption | (refine bl_alloc ?_ _) | (refine Below.drew ?_) | (refine below_drewN ?_ _) | (refine Below.setCell ?_ ?_ _) | (refine bl_trans ?_ (by assumption)))) <;> first | omega | (simp; done) | (simp; omega))⟩

def signI (b a : Bool) : Int := if b = true then -1 else if a = true then 1 else 0
set_option maxHeartbeats 400000 in
theorem sign_any (b a : Bool) (w : World) : Calls Tryd.prog 150 #[.bool b, .bool a] w fun e w' => e = .returned (.int .i64 (signI b a)) ∧ w = w' := by
  cases b <;> cases a <;>
  · go_enter Tryd.func150, Tryd.ntmps150
    go_wp2_with fail
    go_ret
    exact ⟨rfl, rfl⟩

set_option maxHeartbeats 400000 in
theorem mixed_any (a b : Int) (w : World) : Calls Tryd.prog 103 #[.int .u64 a, .int .u64 b] w fun e w' => e = .returned (.int .u64 (IntKind.u64.wrap (bits .xor .u64 a b * 1099511628211))) ∧ w = w' := by
  go_enter Tryd.func103, Tryd.ntmps103
  go_wp2_with fail
  go_ret
  exact ⟨rfl, rfl⟩

/-- A type as it is told. -/
def nameS (h : Hd) : ByteArray := if h.kind = 0 then ⟨#[110, 105, 108]⟩ else if h.kind = 9 then ⟨#[42]⟩ ++ h.type else h.type
set_option maxHeartbeats 400000 in
theorem name_any (h : Hd) (k : Nat) (pa : Option Addr) (pc : Nat) (ia : Option Addr) (ic : Nat) (ho : h.ok) (w : World) :
    Calls Tryd.prog 145 #[.agg (h.cells pa pc ia k ic)] w fun e w' => e = .returned (.string (nameS h)) ∧ Below w.heap.size w w' := by
  unfold Hd.cells
  have hs := ho.type
  by_cases h0 : h.kind = 0
  · have HN : Hid (nameS h = ⟨#[110, 105, 108]⟩) := by simp [Hid, nameS, h0]
    go_enter Tryd.func145, Tryd.ntmps145
    go_wp2_with fail
    go_ret
    exact ⟨by rw [HN.out]; rfl, by ((repeat' (first | exact Below.refl _ _ | assumption | (refine bl_alloc ?_ _) | (refine Below.drew ?_) | (refine below_drewN ?_ _) | (refine Below.setCell ?_ ?_ _) | (refine bl_trans ?_ (by assumption)))) <;> first | omega | (simp; done) | (simp; omega))⟩
  by_cases h9 : h.kind = 9
  · have HN : Hid (nameS h = ⟨#[42]⟩ ++ h.type) := by simp [Hid, nameS, h9]
    go_enter Tryd.func145, Tryd.ntmps145
    go_wp2_with fail
    go_ret
    exact ⟨by rw [HN.out]; rfl, by ((repeat' (first | exact Below.refl _ _ | assumption | (refine bl_alloc ?_ _) | (refine Below.drew ?_) | (refine below_drewN ?_ _) | (refine Below.setCell ?_ ?_ _) | (refine bl_trans ?_ (by assumption)))) <;> first | omega | (simp; done) | (simp; omega))⟩
  · have HN : Hid (nameS h = h.type) := by simp [Hid, nameS, h0, h9]
    have h00 : (h.kind == 0) = false := by simpa using h0
    have h99 : (h.kind == 9) = false := by simpa using h9
    clear h0 h9
    go_enter Tryd.func145, Tryd.ntmps145
    go_wp2_with fail
    go_ret
    exact ⟨by rw [HN.out]; rfl, by ((repeat' (first | exact Below.refl _ _ | assumption | (refine bl_alloc ?_ _) | (refine Below.drew ?_) | (refine below_drewN ?_ _) | (refine Below.setCell ?_ ?_ _) | (refine bl_trans ?_ (by assumption)))) <;> first | omega | (simp; done) | (simp; omega))⟩
end Go.Proofs.YthdmmhiifkebeaaDoor
