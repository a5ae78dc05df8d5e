/-
  Contracts of the law's own wrong, told, whole. Written by an AI agent.
-/
import Derived.Test.YthdmmhiifkebeaaDoorVal16
namespace Go.Proofs.YthdmmhiifkebeaaDoor
open Go.RowKit Go.Sort Go.BigFrame

/-- An error, by what it says. -/
inductive Er | ok | wrong | fault (word more : ByteArray)
def ErrAt (w w' : World) (v : Value) : Er → Prop
  | .ok => v = .nilIface
  | .wrong => WrongAt w w' v
  | .fault a b => FaultAt w w' v a b
def Er.isWrong : Er → Bool | .wrong => true | _ => false
/-- What the law's told answers. -/
def Er.told (word more : ByteArray) : Er → Bool
  | .ok => decide (word = emp)
  | .wrong => false
  | .fault a b => decide (word ≠ emp) && decide (a = word ∧ b = more)
theorem ErrAt.keep {w w1 w2 : World} {v : Value} {e : Er} (h : ErrAt w w1 v e) (hb : Below w1.heap.size w1 w2) : ErrAt w w2 v e := by
  cases e with
  | ok => exact h
  | wrong => exact WrongAt.keep h hb
  | fault a b => exact FaultAt.keep h hb
theorem ErrAt.from {w0 w w1 : World} {v : Value} {e : Er} (h : ErrAt w w1 v e) (hb : w0.heap.size ≤ w.heap.size) : ErrAt w0 w1 v e := by
  cases e with
  | ok => exact h
  | wrong => exact WrongAt.from h hb
  | fault a b => exact FaultAt.from h hb

theorem eqWrong (w : World) : (binOp .eql 133 (.agg #[.int .i64 1, .int .i64 0, .string emp]) (.agg #[.int .i64 1, .int .i64 0, .string ⟨#[]⟩])).run Tryd.prog w = .ok (.bool true) w := by kernel_rfl
theorem eqFault (a b c d : ByteArray) (w : World) : (binOp .eql 48 (.agg #[.string a, .string b]) (.agg #[.string c, .string d])).run Tryd.prog w = .ok (.bool (decide (a = c ∧ b = d))) w := by
  have e : decide (a = c ∧ b = d) = decide (a.toList = c.toList ∧ b.toList = d.toList) := by
    rw [decide_eq_decide]
    exact ⟨fun ⟨x, y⟩ => ⟨by rw [x], by rw [y]⟩, fun ⟨x, y⟩ => ⟨str_eq (by simpa using x), str_eq (by simpa using y)⟩⟩
  rw [e]
  simp [go_sem, Tryd.underlying48]
  by_cases h1 : a.toList = c.toList <;> by_cases h2 : b.toList = d.toList <;> simp [h1, h2]

set_option maxHeartbeats 1000000 in
theorem lawWrong_any (w0 w : World) (v : Value) (er : Er) (h : ErrAt w0 w v er) : Calls Tryd.prog 22 #[v] w fun e w' => e = .returned (.bool er.isWrong) ∧ Below w.heap.size w w' := by
  cases er with
  | ok =>
    have h : v = .nilIface := h
    subst h
    have hn := assert_wrong_nil
    go_enter Tryd.func22, Tryd.ntmps22
    go_wp2_with fail
    go_ret
    exact ⟨rfl, Below.refl _ _⟩
  | fault a b =>
    obtain ⟨g, rfl, _⟩ := h
    have hn := assert_wrong_fault
    go_enter Tryd.func22, Tryd.ntmps22
    go_wp2_with fail
    go_ret
    exact ⟨rfl, Below.refl _ _⟩
  | wrong =>
    obtain ⟨g, rfl, hg, _⟩ := h
    have hn := assert_wrong
    have he := eqWrong
    have c0 := hg.cell 0
    have c1 := hg.cell 1
    have c2 := hg.cell 2
    simp at c0 c1 c2
    go_enter Tryd.func22, Tryd.ntmps22
    go_wp2_with fail
    go_ret
    exact ⟨rfl, Below.refl _ _⟩

theorem emp_toList {s : ByteArray} (h : s ≠ emp) : s.toList ≠ [] := fun e => h ((empty_iff s).1 e)
set_option maxHeartbeats 2000000 in
theorem lawTold_any (w0 w : World) (v : Value) (er : Er) (word more : ByteArray) (h : ErrAt w0 w v er) : Calls Tryd.prog 24 #[v, .agg #[.string word, .string more]] w fun e w' => e = .returned (.bool (er.told word more)) ∧ Below w.heap.size w w' := by
  by_cases hw : word = emp
  · subst hw
    cases er with
    | ok =>
      have h : v = .nilIface := h
      subst h
      unfold emp
      go_enter Tryd.func24, Tryd.ntmps24
      go_wp2_with fail
      go_ret
      exact ⟨rfl, by ((repeat' (first | exact Below.refl _ _ | assumption | (refine bl_alloc ?_ _) | (refine Below.drew ?_) | (refine below_drewN ?_ _) | (refine Below.setCell ?_ ?_ _) | (refine bl_trans ?_ (by assumption)))) <;> first | omega | (simp; done) | (simp; omega))⟩
    | fault a b =>
      obtain ⟨g, rfl, _⟩ := h
      unfold emp
      go_enter Tryd.func24, Tryd.ntmps24
      go_wp2_with fail
      go_ret
      exact ⟨ret_bool (by simp [Er.told, emp]), by ((repeat' (first | exact Below.refl _ _ | assumption | (refine bl_alloc ?_ _) | (refine Below.drew ?_) | (refine below_drewN ?_ _) | (refine Below.setCell ?_ ?_ _) | (refine bl_trans ?_ (by assumption)))) <;> first | omega | (simp; done) | (simp; omega))⟩
    | wrong =>
      obtain ⟨g, rfl, hg, _⟩ := h
      unfold emp
      go_enter Tryd.func24, Tryd.ntmps24
      go_wp2_with fail
      go_ret
      exact ⟨rfl, by ((repeat' (first | exact Below.refl _ _ | assumption | (refine bl_alloc ?_ _) | (refine Below.drew ?_) | (refine below_drewN ?_ _) | (refine Below.setCell ?_ ?_ _) | (refine bl_trans ?_ (by assumption)))) <;> first | omega | (simp; done) | (simp; omega))⟩
  · have hwl : word.toList.isEmpty = false := by
      cases e : word.toList with
      | nil => exact absurd e (emp_toList hw)
      | cons => rfl
    have HW := Lib.hid hw
    clear hw
    cases er with
    | ok =>
      have h : v = .nilIface := h
      subst h
      have hn := assert_fault_nil
      go_enter Tryd.func24, Tryd.ntmps24
      go_wp2_with fail
      go_quiet (fail)
      go_wp2_with fail
      go_ret
      exact ⟨ret_bool (by simp [Er.told, HW.out]), by ((repeat' (first | exact Below.refl _ _ | assumption | (refine bl_alloc ?_ _) | (refine Below.drew ?_) | (refine below_drewN ?_ _) | (refine Below.setCell ?_ ?_ _) | (refine bl_trans ?_ (by assumption)))) <;> first | omega | (simp; done) | (simp; omega))⟩
    | wrong =>
      obtain ⟨g, rfl, _⟩ := h
      have hn := assert_fault_wrong
      go_enter Tryd.func24, Tryd.ntmps24
      go_wp2_with fail
      go_quiet (fail)
      go_wp2_with fail
      go_ret
      exact ⟨rfl, by ((repeat' (first | exact Below.refl _ _ | assumption | (refine bl_alloc ?_ _) | (refine Below.drew ?_) | (refine below_drewN ?_ _) | (refine Below.setCell ?_ ?_ _) | (refine bl_trans ?_ (by assumption)))) <;> first | omega | (simp; done) | (simp; omega))⟩
    | fault a b =>
      obtain ⟨g, rfl, hg, _⟩ := h
      have hn := assert_fault
      have he := eqFault a b word more
      have hg1 := hg.alloc (.cells #[.string word, .string more] 48)
      have c0 := hg1.cell 0
      have c1 := hg1.cell 1
      simp at c0 c1
      go_enter Tryd.func24, Tryd.ntmps24
      go_wp2_with fail
      go_quiet (fail)
      go_wp2_with fail
      go_ret
      exact ⟨ret_bool (by simp [Er.told, HW.out]), by ((repeat' (first | exact Below.refl _ _ | assumption | (refine bl_alloc ?_ _) | (refine Below.drew ?_) | (refine below_drewN ?_ _) | (refine Below.setCell ?_ ?_ _) | (refine bl_trans ?_ (by assumption)))) <;> first | omega | (simp; done) | (simp; omega))⟩

def wholeH (n : Int) : Hd := ⟨2, ⟨#[105, 110, 116]⟩, n, 0, emp, 0, 0, 0, 0, []⟩
theorem wholeH_ok (n : Int) (hn : okInt n) : (wholeH n).ok := by constructor <;> first | (simp [wholeH, emp, okInt, ByteArray.size]; done) | exact hn
theorem plain_at (w : World) (h : Hd) (hp : h.path = []) : DatAt w (fun _ => False) h .nil none 0 none 0 := ⟨Or.inl hp, by simp [hp], by omega, Or.inl rfl, Nat.le_refl _, by omega⟩
theorem whole_any (n : Int) (w : World) : Calls Tryd.prog 55 #[.int .i64 n] w fun e w' => e = .returned (.agg ((wholeH n).cells none 0 none 0 0)) ∧ Below w.heap.size w w' := by
  go_enter Tryd.func55, Tryd.ntmps55
  go_wp2_with fail
  exact bodyPost_ret (v := .agg ((wholeH n).cells none 0 none 0 0)) (by simp [results, Tryd.results55, go_sem, Hd.cells, wholeH, emp]) rfl ⟨rfl, by ((repeat' (first | exact Below.refl _ _ | assumption | (refine bl_alloc ?_ _) | (refine Below.drew ?_) | (refine below_drewN ?_ _) | (refine Below.setCell ?_ ?_ _) | (refine bl_trans ?_ (by assumption)))) <;> first | omega | (simp; done) | (simp; omega))⟩
end Go.Proofs.YthdmmhiifkebeaaDoor
