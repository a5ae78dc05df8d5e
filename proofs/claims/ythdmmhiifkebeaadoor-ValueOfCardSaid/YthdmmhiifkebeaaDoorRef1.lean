/-
  Contracts of the reference's small functions: none, plain, own, IsNaN. Written by an AI agent.
-/
import Derived.Test.YthdmmhiifkebeaaDoorVal3
import Derived.Test.YthdmmhiifkebeaaDoorQ
namespace Go.Proofs.YthdmmhiifkebeaaDoor
open Go.RowKit Go.Sort

set_option maxHeartbeats 400000 in
theorem rnone_any (o f l c : Int) (pa : Option Addr) (pl pc : Nat) (w : World) :
    Calls Tryd.prog 119 #[.agg #[.int .i64 o, .int .i64 f, .int .i64 l, .int .i64 c, .slice pa pl pc]] w
      fun e w' => e = .returned (.bool (plainB o f l c pl)) ∧ Below w.heap.size w w' := by
  go_enter Tryd.func119, Tryd.ntmps119
  go_wp2
  all_goals
    go_ret
    refine ⟨?_, by ((repeat' (first | exact Below.refl _ _ | assumption | (refine bl_alloc ?_ _) | (refine Below.drew ?_) | (refine below_drewN ?_ _) | (refine Below.setCell ?_ ?_ _) | (refine bl_trans ?_ (by assumption)))) <;> first | omega | (simp; done) | (simp; omega))⟩
    simp [plainB, *, nz]

def rplainB (h : Hd) (k : Nat) (n f s r t : Bool) : Bool := (n || decide (h.n = 0)) && (f || decide (h.f = 0)) && (s || h.s.toList.isEmpty) && (r || plainB h.obj h.frm h.len h.cap h.path.length) && (t || decide (k = 0))
theorem rempty_iff (s : ByteArray) : s.toList.isEmpty = decide (s.size = 0) := by
  by_cases h : s.toList = []
  · rw [h, decide_eq_true (size_zero s h)]; rfl
  · rw [decide_eq_false (size_pos s h)]; simpa using h
def oneOf (n f s r t : Bool) : Prop := (n = false ∧ f = false ∧ s = false ∧ r = false ∧ t = false) ∨ (n = true ∧ f = false ∧ s = false ∧ r = false ∧ t = false) ∨ (n = false ∧ f = true ∧ s = false ∧ r = false ∧ t = false) ∨
  (n = false ∧ f = false ∧ s = true ∧ r = false ∧ t = false) ∨ (n = false ∧ f = false ∧ s = false ∧ r = true ∧ t = false) ∨ (n = false ∧ f = false ∧ s = false ∧ r = false ∧ t = true)
set_option maxRecDepth 100000 in
set_option maxHeartbeats 4000000 in
theorem rplain_any (h : Hd) (k : Nat) (pa : Option Addr) (pc : Nat) (ia : Option Addr) (ic : Nat) (n f s r t : Bool) (hc : oneOf n f s r t) (w : World) :
    Calls Tryd.prog 96 #[.agg (h.cells pa pc ia k ic), .bool n, .bool f, .bool s, .bool r, .bool t] w fun e w' => e = .returned (.bool (rplainB h k n f s r t)) ∧ Below w.heap.size w w' := by
  unfold Hd.cells
  have hse := rempty_iff h.s
  have HS := Lib.hid hse
  clear hse
  rcases hc with ⟨rfl, rfl, rfl, rfl, rfl⟩ | ⟨rfl, rfl, rfl, rfl, rfl⟩ | ⟨rfl, rfl, rfl, rfl, rfl⟩ | ⟨rfl, rfl, rfl, rfl, rfl⟩ | ⟨rfl, rfl, rfl, rfl, rfl⟩ | ⟨rfl, rfl, rfl, rfl, rfl⟩
  all_goals
    go_enter Tryd.func96, Tryd.ntmps96
    go_wp2_with (go_at_call 119; refine (rnone_any _ _ _ _ _ _ _ _).mono ?_; rintro e w1 ⟨rfl, hb1⟩; obtain ⟨hc1, hf1⟩ := bcell hb1)
  all_goals
    go_ret
    refine ⟨ret_bool ?_, by ((repeat' (first | exact Below.refl _ _ | assumption | (refine bl_alloc ?_ _) | (refine Below.drew ?_) | (refine below_drewN ?_ _) | (refine Below.setCell ?_ ?_ _) | (refine bl_trans ?_ (by assumption)))) <;> first | omega | (simp; done) | (simp; omega))⟩
    simp [rplainB, nz, *]
end Go.Proofs.YthdmmhiifkebeaaDoor
