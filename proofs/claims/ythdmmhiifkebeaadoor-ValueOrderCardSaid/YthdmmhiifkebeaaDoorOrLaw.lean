/-
  The plain law of the order: of three data that are Ordered, of one type, each two have a rank. No program in sight. Written by an AI agent.
-/
import Derived.Test.YthdmmhiifkebeaaDoorMk3
import Derived.Test.YthdmmhiifkebeaaDoorRnk
import Derived.Test.YthdmmhiifkebeaaDoorBr
import Derived.Test.YthdmmhiifkebeaaDoorEqLaw
namespace Go.Proofs.YthdmmhiifkebeaaDoor
open Go.RowKit Go.Sort

theorem cb_range : ∀ a b : List UInt8, Lib.compareBytes a b = -1 ∨ Lib.compareBytes a b = 0 ∨ Lib.compareBytes a b = 1
  | [], [] => by simp [Lib.compareBytes]
  | [], _ :: _ => by simp [Lib.compareBytes]
  | _ :: _, [] => by simp [Lib.compareBytes]
  | a :: l, b :: m => by
    unfold Lib.compareBytes
    by_cases h1 : a < b
    · rw [if_pos h1]; exact .inl rfl
    · rw [if_neg h1]
      by_cases h2 : b < a
      · rw [if_pos h2]; exact .inr (.inr rfl)
      · rw [if_neg h2]; exact cb_range l m
theorem cb_swap : ∀ a b : List UInt8, Lib.compareBytes b a = -Lib.compareBytes a b
  | [], [] => by simp [Lib.compareBytes]
  | [], _ :: _ => by simp [Lib.compareBytes]
  | _ :: _, [] => by simp [Lib.compareBytes]
  | a :: l, b :: m => by
    unfold Lib.compareBytes
    by_cases h1 : a < b
    · have h2 : ¬ b < a := by rw [UInt8.lt_iff_toNat_lt] at *; omega
      rw [if_pos h1, if_neg h2, if_pos h1]; rfl
    · rw [if_neg h1]
      by_cases h2 : b < a
      · rw [if_pos h2, if_pos h2, if_neg h1]
      · rw [if_neg h2, if_neg h2, if_neg h1]; exact cb_swap l m
theorem cb_zero : ∀ a b : List UInt8, Lib.compareBytes a b = 0 ↔ a = b
  | [], [] => by simp [Lib.compareBytes]
  | [], _ :: _ => by simp [Lib.compareBytes]
  | _ :: _, [] => by simp [Lib.compareBytes]
  | a :: l, b :: m => by
    unfold Lib.compareBytes
    by_cases h1 : a < b
    · rw [if_pos h1]
      constructor
      · intro h; cases h
      · intro h; injection h with h _; subst h; rw [UInt8.lt_iff_toNat_lt] at h1; omega
    · rw [if_neg h1]
      by_cases h2 : b < a
      · rw [if_pos h2]
        constructor
        · intro h; cases h
        · intro h; injection h with h _; subst h; rw [UInt8.lt_iff_toNat_lt] at h2; omega
      · rw [if_neg h2, cb_zero l m]
        have : a = b := UInt8.toNat_inj.1 (by rw [UInt8.lt_iff_toNat_lt] at *; omega)
        simp [this]
theorem cb_trans : ∀ a b c : List UInt8, Lib.compareBytes a b ≤ 0 → Lib.compareBytes b c ≤ 0 → Lib.compareBytes a c ≤ 0 ∧ (Lib.compareBytes a b < 0 ∨ Lib.compareBytes b c < 0 → Lib.compareBytes a c < 0)
  | [], [], [], _, _ => by simp [Lib.compareBytes]
  | [], [], _ :: _, _, _ => by simp [Lib.compareBytes]
  | [], _ :: _, [], _, h => by simp [Lib.compareBytes] at h
  | [], _ :: _, _ :: _, _, _ => by simp [Lib.compareBytes]
  | _ :: _, [], _, h, _ => by simp [Lib.compareBytes] at h
  | _ :: _, _ :: _, [], _, h => by simp [Lib.compareBytes] at h
  | a :: l, b :: m, c :: n, h1, h2 => by
    have ih := cb_trans l m n
    unfold Lib.compareBytes at h1 h2 ⊢
    simp only [UInt8.lt_iff_toNat_lt] at *
    by_cases ab : a.toNat < b.toNat
    · by_cases bc : b.toNat < c.toNat
      · rw [if_pos (show a.toNat < c.toNat by omega)]; exact ⟨by omega, fun _ => by omega⟩
      · rw [if_neg bc] at h2
        by_cases cb : c.toNat < b.toNat
        · rw [if_pos cb] at h2; omega
        · rw [if_pos (show a.toNat < c.toNat by omega)]; exact ⟨by omega, fun _ => by omega⟩
    · rw [if_neg ab] at h1 ⊢
      by_cases ba : b.toNat < a.toNat
      · rw [if_pos ba] at h1; omega
      · rw [if_neg ba] at h1 ⊢
        by_cases bc : b.toNat < c.toNat
        · rw [if_pos (show a.toNat < c.toNat by omega)]; exact ⟨by omega, fun _ => by omega⟩
        · rw [if_neg bc] at h2 ⊢
          by_cases cb : c.toNat < b.toNat
          · rw [if_pos cb] at h2; omega
          · rw [if_neg cb] at h2 ⊢
            rw [if_neg (show ¬ a.toNat < c.toNat by omega), if_neg (show ¬ c.toNat < a.toNat by omega)]
            exact ih h1 h2

theorem right_nil (h : Hd) : rightB h .nil = headB h 0 := by
  unfold rightB rightD
  rw [if_neg (by decide)]
  show (if headB h 0 = false then (false, _) else rightF .nil _).1 = headB h 0
  by_cases h1 : headB h 0 = false
  · rw [if_pos h1, h1]
  · rw [if_neg h1]
    revert h1
    cases headB h 0 <;> simp [rightF]
theorem right_int (n : Int) : rightB (intH n) .nil = true := by kernel_rfl
theorem right_float (f : Int) (hf : okF64 f) : rightB (floatH f) .nil = true := by
  rw [right_nil]
  have e1 : ok1B (floatH f) = true := by kernel_rfl
  have e2 : leadsB (floatH f).kind (floatH f).obj (floatH f).frm (floatH f).len (floatH f).cap (floatH f).path = true := by kernel_rfl
  have e3 : (decide ((floatH f).f ≠ nanNo) && nanB (floatH f).f.toNat) = false := by
    rcases hf.2.2 with h | h
    · rw [decide_eq_false (show ¬ (floatH f).f ≠ nanNo from fun hn => hn h)]; rfl
    · rw [show nanB (floatH f).f.toNat = false from h, Bool.and_false]
  unfold headB okB ok2B
  rw [e1, e2, e3]
  simp [floatH, emp, ByteArray.size]
theorem right_text (s : ByteArray) (hs : s.size ≤ 4) : rightB (textH s) .nil = true := by
  rw [right_nil]
  have e1 : ok2B (textH s) = true := by kernel_rfl
  have e2 : leadsB (textH s).kind (textH s).obj (textH s).frm (textH s).len (textH s).cap (textH s).path = true := by kernel_rfl
  have e3 : decide ((textH s).kind = 4 ∧ (textH s).s.size ≤ 65536) = true := decide_eq_true ⟨rfl, by show s.size ≤ 65536; omega⟩
  unfold headB okB
  rw [e1, e2, e3]
  simp [textH]
theorem ordH_parts {p : Int} {h : Hd} (ho : OrdH p h) : h.ok ∧ rightB h .nil = true ∧ ordBB h = true ∧ h.path = [] := by
  rcases ho with ⟨_, n, hn, rfl⟩ | ⟨_, f, hf, rfl⟩ | ⟨_, s, hs, rfl⟩
  · refine ⟨?_, right_int n, rfl, rfl⟩
    constructor <;> first | exact hn | simp [intH, intS, emp, okInt, ByteArray.size]
  · refine ⟨?_, right_float f hf, rfl, rfl⟩
    constructor <;> first | exact hf.1 | exact hf.2.1 | simp [floatH, floatS, emp, okInt, ByteArray.size]
  · refine ⟨?_, right_text s hs, rfl, rfl⟩
    constructor <;> first | (show s.size ≤ 140737488351232; omega) | simp [textH, textS, okInt, ByteArray.size]
theorem signI_cases (a b : Int) : signI (decide (a < b)) (decide (b < a)) = if a < b then -1 else if b < a then 1 else 0 := by
  unfold signI
  by_cases h1 : a < b
  · rw [decide_eq_true h1]; simp [h1]
  · by_cases h2 : b < a
    · rw [decide_eq_false h1, decide_eq_true h2]; simp [h1, h2]
    · rw [decide_eq_false h1, decide_eq_false h2]; simp [h1, h2]
theorem rankD_of {h h' : Hd} (hr : rightB h' .nil = true) (ho : oneB h h' = true) : rankD h h' .nil = rankH h h' := by
  unfold rankD
  rw [hr, ho, if_neg (by simp)]
theorem rankV_int (a b : Int) : rankV (intH a) (intH b) .nil = if a < b then -1 else if b < a then 1 else 0 := by
  unfold rankV
  rw [rankD_of (right_int b) (by kernel_rfl)]
  unfold rankH
  rw [if_pos (show (intH a).kind = 2 from rfl)]
  exact signI_cases a b
theorem rankV_float (a b : Int) (hb : okF64 b) : rankV (floatH a) (floatH b) .nil = if nanB a.toNat = true ∨ nanB b.toNat = true then 9 else if placeF a.toNat < placeF b.toNat then -1 else if placeF b.toNat < placeF a.toNat then 1 else 0 := by
  unfold rankV
  rw [rankD_of (right_float b hb) (by kernel_rfl)]
  unfold rankH
  rw [if_neg (show ¬ (floatH a).kind = 2 by simp [floatH]), if_pos (show (floatH a).kind = 3 from rfl)]
  show (if (!nanB a.toNat && !nanB b.toNat) = true then signI (fltB a.toNat b.toNat) (fltB b.toNat a.toNat) else 9) = _
  unfold fltB
  cases h1 : nanB a.toNat <;> cases h2 : nanB b.toNat <;> simp
  have := signI_cases (placeF a.toNat) (placeF b.toNat)
  simpa using this
theorem rankV_text (a b : ByteArray) (hb : b.size ≤ 4) : rankV (textH a) (textH b) .nil = Lib.compareBytes a.data.toList b.data.toList := by
  unfold rankV
  rw [rankD_of (right_text b hb) (by kernel_rfl)]
  rfl
theorem kindOf_ord {p : Int} {h : Hd} (ho : OrdH p h) : h.kind = p + 2 := by
  rcases ho with ⟨rfl, n, hn, rfl⟩ | ⟨rfl, f, hf, rfl⟩ | ⟨rfl, s, hs, rfl⟩ <;> rfl
theorem eq_int (a b : Int) : equalD (intH a) .nil (intH b) .nil = (decide (a = b), emp) := by
  unfold equalD
  rw [show oneB (intH a) (intH b) = true by kernel_rfl, if_neg (by simp), if_neg (show ¬ (intH a).kind = 8 by simp [intH])]
  unfold equalH
  rw [if_neg (show ¬ (intH a).kind = 3 by simp [intH]), if_neg (show ¬ ((intH a).kind = 5 ∨ (intH a).kind = 6 ∨ (intH a).kind = 7) by simp [intH]), if_neg (show ¬ (intH a).kind = 9 by simp [intH])]
  simp [intH]
theorem eq_float (a b : Int) : equalD (floatH a) .nil (floatH b) .nil = (feqB a.toNat b.toNat, emp) := by
  unfold equalD
  rw [show oneB (floatH a) (floatH b) = true by kernel_rfl, if_neg (by simp), if_neg (show ¬ (floatH a).kind = 8 by simp [floatH])]
  unfold equalH
  rw [if_pos (show (floatH a).kind = 3 from rfl)]
  rfl
theorem eq_text (a b : ByteArray) : equalD (textH a) .nil (textH b) .nil = (decide (a = b), emp) := by
  unfold equalD
  rw [show oneB (textH a) (textH b) = true by kernel_rfl, if_neg (by simp), if_neg (show ¬ (textH a).kind = 8 by simp [textH])]
  unfold equalH
  rw [if_neg (show ¬ (textH a).kind = 3 by simp [textH]), if_neg (show ¬ ((textH a).kind = 5 ∨ (textH a).kind = 6 ∨ (textH a).kind = 7) by simp [textH]), if_neg (show ¬ (textH a).kind = 9 by simp [textH])]
  simp [textH]
theorem br_int (n : Int) : brD (intH n) .nil = false := by kernel_rfl
theorem br_text (s : ByteArray) : brD (textH s) .nil = false := by kernel_rfl
theorem br_float (f : Int) : brD (floatH f) .nil = nanB f.toNat := by
  unfold brD brH
  rw [decide_eq_true (show (floatH f).kind = 3 from rfl)]
  show (true && nanB f.toNat || false) = _
  simp
theorem bytes_inj {a b : ByteArray} : a.data.toList = b.data.toList ↔ a = b := by
  constructor
  · intro h
    obtain ⟨⟨a⟩⟩ := a
    obtain ⟨⟨b⟩⟩ := b
    simp at h
    rw [h]
  · intro h; rw [h]

/-- A NaN has no rank. -/
theorem ord_broken {p : Int} {x y : Hd} (hx : OrdH p x) (hy : OrdH p y) (hb : brD x .nil = true ∨ brD y .nil = true) : rankV x y .nil = 9 := by
  rcases hx with ⟨rfl, n, hn, rfl⟩ | ⟨rfl, f, hf, rfl⟩ | ⟨rfl, s, hs, rfl⟩
  · rcases hy with ⟨_, m, hm, rfl⟩ | ⟨h, _⟩ | ⟨h, _⟩
    · rw [br_int, br_int] at hb; simp at hb
    · cases h
    · cases h
  · rcases hy with ⟨h, _⟩ | ⟨_, m, hm, rfl⟩ | ⟨h, _⟩
    · cases h
    · rw [br_float, br_float] at hb
      rw [rankV_float f m hm, if_pos hb]
    · cases h
  · rcases hy with ⟨h, _⟩ | ⟨h, _⟩ | ⟨_, m, hm, rfl⟩
    · cases h
    · cases h
    · rw [br_text, br_text] at hb; simp at hb
theorem ord_equal {p : Int} {x y : Hd} (hx : OrdH p x) (hy : OrdH p y) : eqEr x .nil y .nil = .ok := by
  have hr : (rightB x .nil && rightB y .nil) = true := by rw [(ordH_parts hx).2.1, (ordH_parts hy).2.1]; rfl
  unfold eqEr
  rw [if_pos hr]
  rcases hx with ⟨rfl, n, hn, rfl⟩ | ⟨rfl, f, hf, rfl⟩ | ⟨rfl, s, hs, rfl⟩
  · rcases hy with ⟨_, m, hm, rfl⟩ | ⟨h, _⟩ | ⟨h, _⟩
    · rw [eq_int, if_pos rfl]
    · cases h
    · cases h
  · rcases hy with ⟨h, _⟩ | ⟨_, m, hm, rfl⟩ | ⟨h, _⟩
    · cases h
    · rw [eq_float, if_pos rfl]
    · cases h
  · rcases hy with ⟨h, _⟩ | ⟨h, _⟩ | ⟨_, m, hm, rfl⟩
    · cases h
    · cases h
    · rw [eq_text, if_pos rfl]
theorem sgn_two (a b : Int) : -1 ≤ (if a < b then (-1 : Int) else if b < a then 1 else 0) ∧ (if a < b then (-1 : Int) else if b < a then 1 else 0) ≤ 1 ∧ (if b < a then (-1 : Int) else if a < b then 1 else 0) = -(if a < b then (-1 : Int) else if b < a then 1 else 0) ∧ ((if a < b then (-1 : Int) else if b < a then 1 else 0) = 0 ↔ a = b) := by
  by_cases h1 : a < b
  · have h2 : ¬ b < a := by omega
    have e1 : (if a < b then (-1 : Int) else if b < a then 1 else 0) = -1 := if_pos h1
    have e2 : (if b < a then (-1 : Int) else if a < b then 1 else 0) = 1 := by rw [if_neg h2, if_pos h1]
    rw [e1, e2]
    exact ⟨by decide, by decide, rfl, by omega⟩
  · by_cases h2 : b < a
    · have e1 : (if a < b then (-1 : Int) else if b < a then 1 else 0) = 1 := by rw [if_neg h1, if_pos h2]
      have e2 : (if b < a then (-1 : Int) else if a < b then 1 else 0) = -1 := if_pos h2
      rw [e1, e2]
      exact ⟨by decide, by decide, rfl, by omega⟩
    · have e1 : (if a < b then (-1 : Int) else if b < a then 1 else 0) = 0 := by rw [if_neg h1, if_neg h2]
      have e2 : (if b < a then (-1 : Int) else if a < b then 1 else 0) = 0 := by rw [if_neg h2, if_neg h1]
      rw [e1, e2]
      exact ⟨by decide, by decide, rfl, by omega⟩
/-- Two that are no NaN. -/
theorem ord_two_law {p : Int} {x y : Hd} (hx : OrdH p x) (hy : OrdH p y) (bx : brD x .nil = false) (by_ : brD y .nil = false) :
    -1 ≤ rankV x y .nil ∧ rankV x y .nil ≤ 1 ∧ rankV y x .nil = -rankV x y .nil ∧ eqAns x .nil y .nil = decide (rankV x y .nil = 0) := by
  have hr : (rightB x .nil && rightB y .nil) = true := by rw [(ordH_parts hx).2.1, (ordH_parts hy).2.1]; rfl
  unfold eqAns
  rw [hr, Bool.true_and]
  rcases hx with ⟨rfl, n, hn, rfl⟩ | ⟨rfl, f, hf, rfl⟩ | ⟨rfl, s, hs, rfl⟩
  · rcases hy with ⟨_, m, hm, rfl⟩ | ⟨h, _⟩ | ⟨h, _⟩
    · rw [rankV_int, rankV_int, eq_int]
      obtain ⟨s1, s2, s3, s4⟩ := sgn_two n m
      exact ⟨s1, s2, s3, decide_eq_decide.2 s4.symm⟩
    · cases h
    · cases h
  · rcases hy with ⟨h, _⟩ | ⟨_, m, hm, rfl⟩ | ⟨h, _⟩
    · cases h
    · rw [br_float] at bx by_
      have e1 : rankV (floatH f) (floatH m) .nil = if placeF f.toNat < placeF m.toNat then -1 else if placeF m.toNat < placeF f.toNat then 1 else 0 := by rw [rankV_float f m hm, if_neg (by rw [bx, by_]; simp)]
      have e2 : rankV (floatH m) (floatH f) .nil = if placeF m.toNat < placeF f.toNat then -1 else if placeF f.toNat < placeF m.toNat then 1 else 0 := by rw [rankV_float m f hf, if_neg (by rw [bx, by_]; simp)]
      have he : feqB f.toNat m.toNat = decide (placeF f.toNat = placeF m.toNat) := by unfold feqB; rw [bx, by_]; rfl
      rw [e1, e2, eq_float, he]
      obtain ⟨s1, s2, s3, s4⟩ := sgn_two (placeF f.toNat) (placeF m.toNat)
      exact ⟨s1, s2, s3, decide_eq_decide.2 s4.symm⟩
    · cases h
  · rcases hy with ⟨h, _⟩ | ⟨h, _⟩ | ⟨_, m, hm, rfl⟩
    · cases h
    · cases h
    · rw [rankV_text s m hm, rankV_text m s hs, eq_text]
      refine ⟨?_, ?_, cb_swap _ _, ?_⟩
      · rcases cb_range s.data.toList m.data.toList with h | h | h <;> omega
      · rcases cb_range s.data.toList m.data.toList with h | h | h <;> omega
      · exact decide_eq_decide.2 ((cb_zero _ _).trans bytes_inj).symm
theorem sgn_trans (a b c : Int) (h1 : (if a < b then (-1 : Int) else if b < a then 1 else 0) ≤ 0) (h2 : (if b < c then (-1 : Int) else if c < b then 1 else 0) ≤ 0) :
    (if a < c then (-1 : Int) else if c < a then 1 else 0) ≤ 0 ∧ ((if a < b then (-1 : Int) else if b < a then 1 else 0) < 0 ∨ (if b < c then (-1 : Int) else if c < b then 1 else 0) < 0 → (if a < c then (-1 : Int) else if c < a then 1 else 0) < 0) := by
  have e1 : a ≤ b := by
    by_cases h : b < a
    · rw [if_neg (by omega), if_pos h] at h1; omega
    · omega
  have e2 : b ≤ c := by
    by_cases h : c < b
    · rw [if_neg (by omega), if_pos h] at h2; omega
    · omega
  refine ⟨?_, fun h => ?_⟩
  · by_cases h : a < c
    · rw [if_pos h]; omega
    · rw [if_neg h, if_neg (by omega)]; omega
  · have : a < c := by
      rcases h with h | h
      · by_cases h3 : a < b
        · omega
        · rw [if_neg h3, if_neg (by omega)] at h; omega
      · by_cases h3 : b < c
        · omega
        · rw [if_neg h3, if_neg (by omega)] at h; omega
    rw [if_pos this]; omega
/-- Three that are no NaN. -/
theorem ord_three_law {p : Int} {x y z : Hd} (hx : OrdH p x) (hy : OrdH p y) (hz : OrdH p z) (bx : brD x .nil = false) (by_ : brD y .nil = false) (bz : brD z .nil = false) (h1 : rankV x y .nil ≤ 0) (h2 : rankV y z .nil ≤ 0) :
    rankV x z .nil ≤ 0 ∧ (rankV x y .nil < 0 ∨ rankV y z .nil < 0 → rankV x z .nil < 0) := by
  rcases hx with ⟨rfl, n, hn, rfl⟩ | ⟨rfl, f, hf, rfl⟩ | ⟨rfl, s, hs, rfl⟩
  · rcases hy with ⟨_, m, hm, rfl⟩ | ⟨h, _⟩ | ⟨h, _⟩
    · rcases hz with ⟨_, o, ho, rfl⟩ | ⟨h, _⟩ | ⟨h, _⟩
      · rw [rankV_int] at *
        rw [rankV_int, rankV_int]
        exact sgn_trans n m o h1 h2
      · cases h
      · cases h
    · cases h
    · cases h
  · rcases hy with ⟨h, _⟩ | ⟨_, m, hm, rfl⟩ | ⟨h, _⟩
    · cases h
    · rcases hz with ⟨h, _⟩ | ⟨_, o, ho, rfl⟩ | ⟨h, _⟩
      · cases h
      · rw [br_float] at bx by_ bz
        have e1 : rankV (floatH f) (floatH m) .nil = if placeF f.toNat < placeF m.toNat then -1 else if placeF m.toNat < placeF f.toNat then 1 else 0 := by rw [rankV_float f m hm, if_neg (by rw [bx, by_]; simp)]
        have e2 : rankV (floatH m) (floatH o) .nil = if placeF m.toNat < placeF o.toNat then -1 else if placeF o.toNat < placeF m.toNat then 1 else 0 := by rw [rankV_float m o ho, if_neg (by rw [bz, by_]; simp)]
        have e3 : rankV (floatH f) (floatH o) .nil = if placeF f.toNat < placeF o.toNat then -1 else if placeF o.toNat < placeF f.toNat then 1 else 0 := by rw [rankV_float f o ho, if_neg (by rw [bx, bz]; simp)]
        rw [e1] at h1
        rw [e2] at h2
        rw [e1, e2, e3]
        exact sgn_trans _ _ _ h1 h2
      · cases h
    · cases h
  · rcases hy with ⟨h, _⟩ | ⟨h, _⟩ | ⟨_, m, hm, rfl⟩
    · cases h
    · cases h
    · rcases hz with ⟨h, _⟩ | ⟨h, _⟩ | ⟨_, o, ho, rfl⟩
      · cases h
      · cases h
      · rw [rankV_text s m hm] at h1 ⊢
        rw [rankV_text m o ho] at h2 ⊢
        rw [rankV_text s o ho]
        exact cb_trans _ _ _ h1 h2
end Go.Proofs.YthdmmhiifkebeaaDoor
