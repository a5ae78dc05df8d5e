/-
  The plain law of ValueRight: what the program's Right computes and what the reference's Right computes are one. No program in sight. Written by an AI agent.
-/
import Derived.Test.YthdmmhiifkebeaaDoorVal4
namespace Go.Proofs.YthdmmhiifkebeaaDoor

def cntF : Fo → Nat
  | .nil => 0
  | .cons _ k r => 1 + cntF k + cntF r
def okF : Fo → Bool
  | .nil => true
  | .cons h k r => headB h k.len && okF k && okF r
theorem rightF_ok : ∀ (f : Fo) (n : Int), 0 ≤ n → (rightF f n).1 = (okF f && decide ((cntF f : Int) ≤ n)) ∧ ((rightF f n).1 = true → (rightF f n).2 = n - cntF f)
  | .nil, n, h => by simp [rightF, okF, cntF, h]
  | .cons h k r, n, hn => by
    rw [rightF, okF, cntF]
    by_cases h1 : n - 1 < 0
    · rw [if_pos h1]
      refine ⟨?_, fun e => by cases e⟩
      rw [decide_eq_false (by omega)]; simp
    rw [if_neg h1]
    by_cases h2 : headB h k.len = false
    · rw [if_pos h2, h2]
      exact ⟨by simp, fun e => by cases e⟩
    rw [if_neg h2]
    have h2' : headB h k.len = true := by revert h2; cases headB h k.len <;> simp
    have ik := rightF_ok k (n - 1) (by omega)
    by_cases h3 : (rightF k (n - 1)).1 = true
    · rw [if_pos h3]
      have e2 := ik.2 h3
      have e1 := ik.1
      rw [h3] at e1
      have e1' := e1.symm
      rw [Bool.and_eq_true, decide_eq_true_iff] at e1'
      have ir := rightF_ok r (rightF k (n - 1)).2 (by rw [e2]; omega)
      refine ⟨?_, fun e => ?_⟩
      · rw [ir.1, h2', e1'.1, e2]
        simp only [Bool.true_and]
        congr 1
        rw [decide_eq_decide]
        omega
      · rw [ir.2 e, e2]; omega
    · rw [if_neg h3]
      refine ⟨?_, fun e => by cases e⟩
      have h3' : (rightF k (n - 1)).1 = false := by revert h3; cases (rightF k (n - 1)).1 <;> simp
      have e1 := ik.1
      rw [h3'] at e1
      by_cases ho : okF k = true
      · rw [ho] at e1
        simp only [Bool.true_and] at e1
        have := of_decide_eq_false e1.symm
        rw [decide_eq_false (show ¬ ((1 + cntF k + cntF r : Nat) : Int) ≤ n by omega)]; simp
      · have : okF k = false := by revert ho; cases okF k <;> simp
        simp [this]

/-- The size that the reference reckons. -/
def sizeF : Fo → Int → Int
  | .nil, n => n
  | .cons h k r, n => if 100 < n then n else sizeF r (n + (if h.kind ≠ 8 then 1 else if 100 < k.len then 101 else if 100 < sizeF k 1 then 101 else sizeF k 1))
def sizeD (h : Hd) (k : Fo) : Int := if h.kind ≠ 8 then 1 else if 100 < k.len then 101 else if 100 < sizeF k 1 then 101 else sizeF k 1
theorem sizeF_cons (h : Hd) (k r : Fo) (n : Int) : sizeF (.cons h k r) n = if 100 < n then n else sizeF r (n + sizeD h k) := by rw [sizeF]; rfl
theorem headB_kids {h : Hd} {n : Nat} (hh : headB h n = true) : (h.kind ≠ 8 → n = 0) ∧ n ≤ 30 := by
  simp only [headB, Bool.and_eq_true, decide_eq_true_iff] at hh
  exact ⟨fun h8 => by have := hh.1.2; omega, hh.2⟩
theorem sizeD_range : ∀ (h : Hd) (k : Fo), (∀ n, 1 ≤ n → 1 ≤ sizeF k n) → 1 ≤ sizeD h k ∧ sizeD h k ≤ 101 := by
  intro h k hk
  unfold sizeD
  have := hk 1 (Int.le_refl _)
  split <;> (try split) <;> (try split) <;> omega
theorem sizeF_pos : ∀ (f : Fo) (n : Int), 1 ≤ n → 1 ≤ sizeF f n
  | .nil, n, h => h
  | .cons h k r, n, hn => by
    rw [sizeF_cons]
    have := sizeD_range h k (sizeF_pos k)
    split
    · omega
    · exact sizeF_pos r _ (by omega)
theorem sizeF_big : ∀ (f : Fo) (n : Int), 100 < n → sizeF f n = n
  | .nil, n, h => rfl
  | .cons h k r, n, hn => by rw [sizeF_cons, if_pos hn]
theorem sizeF_ok : ∀ (f : Fo) (n : Int), 1 ≤ n → okF f = true → (n + cntF f ≤ 100 → sizeF f n = n + cntF f) ∧ (100 < n + cntF f → 100 < sizeF f n)
  | .nil, n, h, _ => by
    have h0 : cntF .nil = 0 := rfl
    have h1 : sizeF .nil n = n := rfl
    rw [h0, h1]
    exact ⟨fun _ => by omega, fun _ => by omega⟩
  | .cons h k r, n, hn, ho => by
    simp only [okF, Bool.and_eq_true] at ho
    obtain ⟨⟨hh, hok⟩, hor⟩ := ho
    have hk := headB_kids hh
    have ik := sizeF_ok k 1 (by omega) hok
    rw [sizeF_cons]
    have h0 : cntF (.cons h k r) = 1 + cntF k + cntF r := rfl
    rw [h0]
    by_cases h1 : 100 < n
    · rw [if_pos h1]; exact ⟨fun _ => by omega, fun _ => h1⟩
    rw [if_neg h1]
    have hs : sizeD h k = if 1 + cntF k ≤ 100 then (1 + cntF k : Int) else 101 := by
      unfold sizeD
      by_cases h8 : h.kind ≠ 8
      · have := Fo.len_eq_zero k (hk.1 h8)
        subst this
        rw [if_pos h8]; rfl
      · rw [if_neg h8, if_neg (by omega)]
        by_cases hc : 1 + cntF k ≤ 100
        · have e := ik.1 (by omega)
          rw [if_pos hc, if_neg (by omega), e]
        · have e := ik.2 (by omega)
          rw [if_neg hc, if_pos e]
    rw [hs]
    by_cases hc : 1 + cntF k ≤ 100
    · rw [if_pos hc]
      have ir := sizeF_ok r (n + (1 + cntF k)) (by omega) hor
      exact ⟨fun h => by rw [ir.1 (by omega)]; omega, fun h => ir.2 (by omega)⟩
    · rw [if_neg hc, sizeF_big r _ (by omega)]
      exact ⟨fun _ => by omega, fun _ => by omega⟩

/-- What the reference's right computes. -/
def rrF : Int → Fo → Bool
  | _, .nil => true
  | d, .cons h k r => (decide (d ≤ 100) && headB h k.len && rrF (d + 1) k) && rrF d r
def rrD (d : Int) (h : Hd) (k : Fo) : Bool := decide (d ≤ 100) && headB h k.len && rrF (d + 1) k
theorem rrF_cons (d : Int) (h : Hd) (k r : Fo) : rrF d (.cons h k r) = (rrD d h k && rrF d r) := by rw [rrF]; rfl
theorem rrF_no : ∀ (f : Fo) (d : Int), okF f = false → rrF d f = false
  | .nil, d, h => by simp [okF] at h
  | .cons h k r, d, e => by
    rw [rrF_cons, rrD]
    simp only [okF] at e
    by_cases h1 : headB h k.len = true
    · by_cases h2 : okF k = true
      · rw [h1, h2] at e
        rw [rrF_no r d (by simpa using e)]; simp
      · rw [rrF_no k (d + 1) (by revert h2; cases okF k <;> simp)]; simp
    · have : headB h k.len = false := by revert h1; cases headB h k.len <;> simp
      rw [this]; simp
theorem rrF_yes : ∀ (f : Fo) (d : Int), okF f = true → d + cntF f ≤ 101 → rrF d f = true
  | .nil, d, h, _ => rfl
  | .cons h k r, d, e, hd => by
    rw [rrF_cons, rrD]
    simp only [okF, Bool.and_eq_true] at e
    simp only [cntF] at hd
    rw [e.1.1, rrF_yes k (d + 1) e.1.2 (by omega), rrF_yes r d e.2 (by omega), decide_eq_true (by omega)]; rfl
def refRight (h : Hd) (k : Fo) : Bool := decide (sizeD h k ≤ 100) && rrD 1 h k
/-- The program's Right is the reference's. -/
theorem right_law (h : Hd) (k : Fo) : rightB h k = refRight h k := by
  unfold rightB refRight rrD rightD
  rw [if_neg (by decide), decide_eq_true (show (1 : Int) ≤ 100 by decide), Bool.true_and]
  by_cases h1 : headB h k.len = false
  · rw [if_pos h1, h1]; simp
  rw [if_neg h1]
  have h1' : headB h k.len = true := by revert h1; cases headB h k.len <;> simp
  rw [h1', Bool.true_and, (rightF_ok k (100 - 1) (by decide)).1]
  by_cases h2 : okF k = true
  · rw [h2, Bool.true_and]
    have hk := headB_kids h1'
    have ik := sizeF_ok k 1 (by omega) h2
    unfold sizeD
    by_cases h8 : h.kind ≠ 8
    · have := Fo.len_eq_zero k (hk.1 h8)
      subst this
      rw [if_pos h8]; simp [cntF, rrF]
    · rw [if_neg h8, if_neg (by omega)]
      by_cases hc : 1 + cntF k ≤ 100
      · have ik := ik.1 (by omega)
        rw [if_neg (by omega), ik, rrF_yes k _ h2 (by omega), decide_eq_true (by omega), decide_eq_true (by omega)]; rfl
      · have ik := ik.2 (by omega)
        rw [if_pos ik, decide_eq_false (by omega), decide_eq_false (by omega)]; rfl
  · have h2' : okF k = false := by revert h2; cases okF k <;> simp
    rw [h2', rrF_no k _ h2']; simp
end Go.Proofs.YthdmmhiifkebeaaDoor
