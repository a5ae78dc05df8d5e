/-
  The plain law of the reference's right, kind by kind. No program in sight. Written by an AI agent.
-/
import Derived.Test.YthdmmhiifkebeaaDoorLaw1
import Derived.Test.YthdmmhiifkebeaaDoorRef4
namespace Go.Proofs.YthdmmhiifkebeaaDoor

theorem leads_other {kind o f l c : Int} {p : List Int} (h5 : kind ≠ 5) (h6 : kind ≠ 6) (h7 : kind ≠ 7) (h9 : kind ≠ 9) : leadsB kind o f l c p = plainB o f l c p.length := by
  unfold leadsB
  split
  · symm; unfold plainB; rw [decide_eq_false_iff_not]; omega
  · rw [if_neg (by omega)]
theorem nan_zero : nanB 0 = false := by decide
theorem size0 (s : ByteArray) : decide (s.size = 0) = s.toList.isEmpty := (rempty_iff s).symm
theorem head_no {h : Hd} {n : Nat} (hk : h.kind < 0 ∨ 9 < h.kind) : headB h n = false := by
  unfold headB; rw [decide_eq_false (by omega)]; rfl
/-- The conditions on a head, its kind known. -/
theorem head_open (h : Hd) (n : Nat) (h0 : 0 ≤ h.kind) (h9 : h.kind ≤ 9) : headB h n = (leadsB h.kind h.obj h.frm h.len h.cap h.path && (namedB h && (decide (h.kind = 2 ∨ h.n = 0 ∨ (h.kind = 1 ∧ h.n = 1)) && ((decide (h.f = 0) || (decide (h.kind = 3) && !(decide (h.f ≠ nanNo) && nanB h.f.toNat))) && ((h.s.toList.isEmpty || decide (h.kind = 4 ∧ h.s.size ≤ 65536)) && (decide (n = 0 ∨ h.kind = 8) && decide (n ≤ 30))))))) := by
  unfold headB okB ok2B ok1B
  rw [decide_eq_true (show 0 ≤ h.kind ∧ h.kind ≤ 9 from ⟨h0, h9⟩), size0, Bool.true_and]
  simp only [Bool.and_assoc]
theorem n30 {n : Nat} : (decide (n = 0) && decide (n ≤ 30)) = decide (n = 0) := by
  rw [Bool.eq_iff_iff]; simp; omega
theorem head0 (h : Hd) (n : Nat) (hk : h.kind = 0) : headB h n = (h.type.toList.isEmpty && rplainB h n false false false false false) := by
  rw [head_open h n (by omega) (by omega), hk, leads_other (by decide) (by decide) (by decide) (by decide)]
  unfold namedB rplainB
  rw [hk, size0]
  rw [Bool.eq_iff_iff]
  simp
  grind
theorem head12 (h : Hd) (n : Nat) (hk : h.kind = 1 ∨ h.kind = 2) : headB h n = (typedB h.kind h.type && (rplainB h n true false false false false && decide (h.kind = 2 ∨ h.n = 0 ∨ h.n = 1))) := by
  rw [head_open h n (by omega) (by omega), leads_other (by omega) (by omega) (by omega) (by omega)]
  unfold namedB rplainB typedB
  rcases hk with hk | hk
  all_goals
    rw [hk]
    rw [Bool.eq_iff_iff]
    simp
    grind
theorem head3 (h : Hd) (n : Nat) (hk : h.kind = 3) : headB h n = (typedB 3 h.type && (rplainB h n false true false false false && (!nanB h.f.toNat || decide (h.f = nanNo)))) := by
  rw [head_open h n (by omega) (by omega), hk, leads_other (by decide) (by decide) (by decide) (by decide)]
  unfold namedB rplainB typedB
  rw [hk]
  by_cases h0 : h.f = 0
  · rw [h0]
    rw [Bool.eq_iff_iff]
    simp [nan_zero]
    grind
  · rw [Bool.eq_iff_iff]
    simp [h0]
    grind
theorem head4 (h : Hd) (n : Nat) (hk : h.kind = 4) : headB h n = (typedB 4 h.type && (rplainB h n false false true false false && decide (h.s.size ≤ 65536))) := by
  rw [head_open h n (by omega) (by omega), hk, leads_other (by decide) (by decide) (by decide) (by decide)]
  unfold namedB rplainB typedB
  rw [hk]
  have he : h.s.toList.isEmpty = true → h.s.size ≤ 65536 := fun e => by rw [rempty_iff] at e; have := of_decide_eq_true e; omega
  by_cases h6 : h.s.size ≤ 65536
  · rw [Bool.eq_iff_iff]
    simp [h6]
    grind
  · have : h.s.toList.isEmpty = false := by
      cases e : h.s.toList.isEmpty with
      | true => exact absurd (he e) h6
      | false => rfl
    rw [this]
    simp [h6]
theorem head567 (h : Hd) (n : Nat) (hk : h.kind = 5 ∨ h.kind = 6 ∨ h.kind = 7) : headB h n = (typedB h.kind h.type && (rplainB h n false false false true false && leadsB h.kind h.obj h.frm h.len h.cap h.path)) := by
  rw [head_open h n (by omega) (by omega)]
  unfold namedB rplainB typedB
  generalize leadsB h.kind h.obj h.frm h.len h.cap h.path = lb
  rcases hk with hk | hk | hk
  all_goals
    rw [hk]
    rw [Bool.eq_iff_iff]
    simp
    grind
theorem head8 (h : Hd) (n : Nat) (hk : h.kind = 8) : headB h n = (declB h.type && (rplainB h n false false false false true && decide (n ≤ 30))) := by
  rw [head_open h n (by omega) (by omega), hk, leads_other (by decide) (by decide) (by decide) (by decide)]
  unfold namedB rplainB
  rw [hk]
  rw [Bool.eq_iff_iff]
  simp
  grind
theorem head9 (h : Hd) (n : Nat) (hk : h.kind = 9) : headB h n = (declB h.type && (rplainB h n false false false true false && leadsB 9 h.obj h.frm h.len h.cap h.path)) := by
  rw [head_open h n (by omega) (by omega), hk]
  unfold namedB rplainB
  rw [hk]
  rw [Bool.eq_iff_iff]
  simp
  grind
/-- A head that may be, and is no struct's, has no items. -/
theorem rr_leaf (d : Int) (h : Hd) (k : Fo) (h8 : h.kind ≠ 8) (hd : d ≤ 100) : rrD d h k = headB h k.len := by
  unfold rrD
  rw [decide_eq_true hd, Bool.true_and]
  by_cases hh : headB h k.len = true
  · have := Fo.len_eq_zero k ((headB_kids hh).1 h8)
    subst this
    simp [rrF]
  · have : headB h k.len = false := by revert hh; cases headB h k.len <;> simp
    rw [this]; rfl
end Go.Proofs.YthdmmhiifkebeaaDoor
