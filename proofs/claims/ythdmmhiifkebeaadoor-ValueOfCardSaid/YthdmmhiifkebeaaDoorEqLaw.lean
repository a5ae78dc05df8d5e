/-
  The plain law of Equal: what the program's equal computes of right data is what the reference's computes. No program in sight. Written by an AI agent.
-/
import Derived.Test.YthdmmhiifkebeaaDoorLaw2
import Derived.Test.YthdmmhiifkebeaaDoorEqDef
import Derived.Test.YthdmmhiifkebeaaDoorVal17
namespace Go.Proofs.YthdmmhiifkebeaaDoor
open Go.RowKit Go.Sort

theorem head_facts {h : Hd} {n : Nat} (hh : headB h n = true) : 0 ≤ h.kind ∧ h.kind ≤ 9 ∧ (h.kind = 2 ∨ h.kind = 1 ∨ h.n = 0) ∧ (h.kind = 4 ∨ h.s.size = 0) ∧ namedB h = true := by
  simp only [headB, okB, ok2B, ok1B, Bool.and_eq_true, Bool.or_eq_true, decide_eq_true_iff] at hh
  obtain ⟨⟨⟨⟨h1, _⟩, ⟨⟨h2, h3⟩, _⟩, h4⟩, _⟩, _⟩ := hh
  exact ⟨h1.1, h1.2, by omega, by omega, h2⟩
theorem size_emp {s : ByteArray} (h : s.size = 0) : s = emp := by
  obtain ⟨⟨l⟩⟩ := s
  have : l = [] := List.eq_nil_of_length_eq_zero h
  subst this
  rfl
theorem named_type {h : Hd} (hn : namedB h = true) (h5 : h.kind = 5 ∨ h.kind = 6 ∨ h.kind = 7) : h.type ≠ emp := by
  intro e
  have hd : declB h.type = false := by rw [e]; decide
  unfold namedB at hn
  rw [hd, e] at hn
  rcases h5 with h5 | h5 | h5 <;> rw [h5] at hn <;> revert hn <;> decide
def conv (p : Bool × ByteArray) : Bool × Option ByteArray := (p.1, if p.2 = emp then none else some p.2)
theorem eqH_law {h h' : Hd} {n n' : Nat} (h1 : headB h n = true) (h2 : headB h' n' = true) (ho : oneB h h' = true) (_h8 : h.kind ≠ 8) : reqH h h' = conv (equalH h h') := by
  obtain ⟨a0, a9, an, asz, ant⟩ := head_facts h1
  obtain ⟨b0, b9, bn, bs, _⟩ := head_facts h2
  have hk : h.kind = h'.kind := (of_decide_eq_true ho).1
  unfold reqH equalH conv
  by_cases h12 : h.kind = 1 ∨ h.kind = 2
  · have e1 := size_emp (show h.s.size = 0 by omega)
    have e2 := size_emp (show h'.s.size = 0 by omega)
    rw [if_pos h12, if_neg (by omega), if_neg (by omega), if_neg (by omega), e1, e2]
    simp
  rw [if_neg h12]
  by_cases h4 : h.kind = 4
  · rw [if_pos h4, if_neg (by omega), if_neg (by omega), if_neg (by omega), show h.n = h'.n by omega]
    simp
  rw [if_neg h4]
  by_cases h3 : h.kind = 3
  · rw [if_pos h3, if_pos h3]; simp
  rw [if_neg h3, if_neg h3]
  by_cases h5 : h.kind = 5 ∨ h.kind = 6 ∨ h.kind = 7
  · rw [if_pos h5, if_pos h5]
    simp [named_type ant h5]
  rw [if_neg h5, if_neg h5]
  by_cases h9 : h.kind = 9
  · rw [if_pos h9, if_pos h9]; simp
  · have e1 := size_emp (show h.s.size = 0 by omega)
    have e2 := size_emp (show h'.s.size = 0 by omega)
    rw [if_neg h9, if_neg h9, e1, e2, show h.n = h'.n by omega]
    simp
theorem eqD_law' {h h' : Hd} {k k' : Fo} (h1 : headB h k.len = true) (h2 : headB h' k'.len = true) (hF : reqF k k' = conv (equalF k k')) : reqD h k h' k' = conv (equalD h k h' k') := by
  unfold reqD equalD
  by_cases ho : oneB h h' = false
  · rw [if_pos ho, if_pos ho]; rfl
  have ho' : oneB h h' = true := by revert ho; cases oneB h h' <;> simp
  rw [if_neg ho, if_neg ho]
  by_cases h8 : h.kind = 8
  · rw [if_pos h8, if_pos h8]
    by_cases hl : k.len ≠ k'.len
    · rw [if_pos hl, if_pos hl]; rfl
    · rw [if_neg hl, if_neg hl]; exact hF
  · rw [if_neg h8, if_neg h8]; exact eqH_law h1 h2 ho' h8
theorem eqF_law : ∀ (f g : Fo), okF f = true → okF g = true → reqF f g = conv (equalF f g)
  | .nil, g, _, _ => by simp [reqF, equalF, conv]
  | .cons h k r, .nil, _, _ => by simp [reqF, equalF, conv]
  | .cons h k r, .cons h' k' r', e, e' => by
    simp only [okF, Bool.and_eq_true] at e e'
    have hk := eqF_law k k' e.1.2 e'.1.2
    have hr := eqF_law r r' e.2 e'.2
    rw [reqF_cons, equalF_cons, eqD_law' e.1.1 e'.1.1 hk]
    by_cases ht : (equalD h k h' k').1 = true
    · rw [if_pos ht, if_pos (show (conv (equalD h k h' k')).1 = true from ht)]; exact hr
    · rw [if_neg ht, if_neg (show ¬ (conv (equalD h k h' k')).1 = true from ht)]; rfl
theorem right_ok {h : Hd} {k : Fo} (hr : rightB h k = true) : headB h k.len = true ∧ okF k = true := by
  unfold rightB rightD at hr
  rw [if_neg (by decide)] at hr
  by_cases h1 : headB h k.len = false
  · rw [if_pos h1] at hr; cases hr
  rw [if_neg h1, (rightF_ok k _ (by decide)).1, Bool.and_eq_true] at hr
  exact ⟨by revert h1; cases headB h k.len <;> simp, hr.1⟩
theorem eq_law {h h' : Hd} {k k' : Fo} (h1 : rightB h k = true) (h2 : rightB h' k' = true) : reqD h k h' k' = conv (equalD h k h' k') :=
  eqD_law' (right_ok h1).1 (right_ok h2).1 (eqF_law k k' (right_ok h1).2 (right_ok h2).2)
theorem equalH_no {h h' : Hd} (h2 : (equalH h h').2 ≠ emp) : (equalH h h').1 = false := by
  unfold equalH at *
  by_cases h3 : h.kind = 3
  · rw [if_pos h3] at h2; exact absurd rfl h2
  rw [if_neg h3] at h2 ⊢
  by_cases h5 : h.kind = 5 ∨ h.kind = 6 ∨ h.kind = 7
  · rw [if_pos h5]
  rw [if_neg h5] at h2 ⊢
  by_cases h9 : h.kind = 9
  · rw [if_pos h9] at h2; exact absurd rfl h2
  · rw [if_neg h9] at h2; exact absurd rfl h2
theorem equalF_no : ∀ (f g : Fo), (equalF f g).2 ≠ emp → (equalF f g).1 = false
  | .nil, g, h => by simp [equalF] at h
  | .cons h k r, .nil, e => by simp [equalF] at e
  | .cons h k r, .cons h' k' r', e => by
    rw [equalF_cons] at e ⊢
    by_cases ht : (equalD h k h' k').1 = true
    · rw [if_pos ht] at e ⊢; exact equalF_no r r' e
    · rw [if_neg ht]
theorem equalD_no {h h' : Hd} {k k' : Fo} (e : (equalD h k h' k').2 ≠ emp) : (equalD h k h' k').1 = false := by
  unfold equalD at *
  by_cases ho : oneB h h' = false
  · rw [if_pos ho] at e ⊢
  rw [if_neg ho] at e ⊢
  by_cases h8 : h.kind = 8
  · rw [if_pos h8] at e ⊢
    by_cases hl : k.len ≠ k'.len
    · rw [if_pos hl] at e ⊢
    · rw [if_neg hl] at e ⊢; exact equalF_no k k' e
  · rw [if_neg h8] at e ⊢; exact equalH_no e

/-- What the program's Equal answers, as a Bool and an error. -/
def eqEr (h : Hd) (k : Fo) (h' : Hd) (k' : Fo) : Er := if (rightB h k && rightB h' k') = true then (if (equalD h k h' k').2 = emp then .ok else .fault cmpW (equalD h k h' k').2) else .wrong
def eqAns (h : Hd) (k : Fo) (h' : Hd) (k' : Fo) : Bool := rightB h k && rightB h' k' && (equalD h k h' k').1
theorem equal_post {h : Hd} {k : Fo} {h' : Hd} {k' : Fo} {w w' : World} {e : Ending} (hp : EqualPost h k h' k' w e w') :
    ∃ v, e = .returned (.tuple #[.bool (eqAns h k h' k'), v]) ∧ ErrAt w w' v (eqEr h k h' k') ∧ Below w.heap.size w w' := by
  obtain ⟨hb, b, v, rfl, hif⟩ := hp
  refine ⟨v, ?_, ?_, hb⟩
  · unfold eqAns
    by_cases hr : (rightB h k && rightB h' k') = true
    · rw [if_pos hr] at hif
      rw [hif.1, hr]
      by_cases he : (equalD h k h' k').2 = emp
      · rw [if_pos he]; rfl
      · rw [if_neg he, equalD_no he]; rfl
    · rw [if_neg hr] at hif
      have : (rightB h k && rightB h' k') = false := by revert hr; cases (rightB h k && rightB h' k') <;> simp
      rw [hif.1, this]; rfl
  · unfold eqEr
    by_cases hr : (rightB h k && rightB h' k') = true
    · rw [if_pos hr] at hif ⊢
      by_cases he : (equalD h k h' k').2 = emp
      · rw [if_pos he] at hif ⊢; exact (by rw [if_pos he] at hif; exact hif.2)
      · rw [if_neg he] at hif ⊢; exact (by rw [if_neg he] at hif; exact hif.2)
    · rw [if_neg hr] at hif ⊢; exact hif.2
end Go.Proofs.YthdmmhiifkebeaaDoor
