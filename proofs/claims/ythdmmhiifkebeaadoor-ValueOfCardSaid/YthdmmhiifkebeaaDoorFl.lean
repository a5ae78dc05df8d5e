/-
  Floats by their bits, in plain numbers: what the model's order of two floats is. For all bits. Written by an AI agent.
-/
import Derived.WalkKit
import Derived.Laws.Cover2
namespace Go.Proofs.YthdmmhiifkebeaaDoor
/-- Do the bits say NaN? -/
def nanB (f : Nat) : Bool := decide (f / 4503599627370496 % 2048 = 2047 ∧ f % 4503599627370496 ≠ 0)
/-- The place of a float that is no NaN in the floats' order. -/
def placeF (f : Nat) : Int := if f / 9223372036854775808 % 2 = 1 then -((f % 9223372036854775808 : Nat) : Int) else ((f % 9223372036854775808 : Nat) : Int)

/-- What a rung stands for, in units of the least number. -/
def valF (r : Nat) : Nat := if r < 4503599627370496 then r else (4503599627370496 + r % 4503599627370496) * 2 ^ (r / 4503599627370496 - 1)
theorem valF_lt {r s : Nat} (h : r < s) : valF r < valF s := by
  unfold valF
  by_cases h1 : r < 4503599627370496
  · rw [if_pos h1]
    by_cases h2 : s < 4503599627370496
    · rw [if_pos h2]; exact h
    · rw [if_neg h2]
      have h3 : 1 ≤ 2 ^ (s / 4503599627370496 - 1) := Nat.one_le_two_pow
      have h4 := Nat.mul_le_mul_left (4503599627370496 + s % 4503599627370496) h3
      omega
  · have h2 : ¬ s < 4503599627370496 := by omega
    rw [if_neg h1, if_neg h2]
    have q1 : 1 ≤ r / 4503599627370496 := by omega
    rcases Nat.lt_or_ge (r / 4503599627370496) (s / 4503599627370496) with hq | hq
    · have h5 : 2 ^ (r / 4503599627370496) ≤ 2 ^ (s / 4503599627370496 - 1) := Nat.pow_le_pow_right (by decide) (by omega)
      have h6 : 2 ^ (r / 4503599627370496) = 2 * 2 ^ (r / 4503599627370496 - 1) := by
        rw [← Nat.pow_succ', Nat.succ_eq_add_one, Nat.sub_add_cancel q1]
      have h7 := Nat.mul_le_mul_left (4503599627370496 + s % 4503599627370496) h5
      have h8 : 0 < 2 ^ (r / 4503599627370496 - 1) := Nat.two_pow_pos _
      have h9 : (4503599627370496 + r % 4503599627370496) * 2 ^ (r / 4503599627370496 - 1) < 9007199254740992 * 2 ^ (r / 4503599627370496 - 1) := Nat.mul_lt_mul_of_pos_right (by omega) h8
      have h10 : 4503599627370496 * 2 ^ (r / 4503599627370496) ≤ (4503599627370496 + s % 4503599627370496) * 2 ^ (r / 4503599627370496) := Nat.mul_le_mul_right _ (by omega)
      rw [h6] at h10 h7
      have h11 : 4503599627370496 * (2 * 2 ^ (r / 4503599627370496 - 1)) = 9007199254740992 * 2 ^ (r / 4503599627370496 - 1) := by rw [← Nat.mul_assoc]
      rw [h11] at h10
      exact Nat.lt_of_lt_of_le h9 (Nat.le_trans h10 h7)
    · have hqe : r / 4503599627370496 = s / 4503599627370496 := by
        have : r / 4503599627370496 ≤ s / 4503599627370496 := Nat.div_le_div_right (by omega)
        omega
      rw [hqe]
      exact Nat.mul_lt_mul_of_pos_right (by omega) (Nat.two_pow_pos _)

def sg (s : Bool) (v : Nat) : Int := if s then -(v : Int) else v
theorem cmp_int {a b c d : Int} (h1 : a < b ↔ c < d) (h2 : b < a ↔ d < c) : compare a b = compare c d := by
  simp only [compare, compareOfLessAndEq]
  by_cases h : a < b
  · rw [if_pos h, if_pos (h1.1 h)]
  · rw [if_neg h, if_neg (fun e => h (h1.2 e))]
    by_cases e : a = b
    · have : c = d := by
        have n1 : ¬ c < d := fun e' => h (h1.2 e')
        have n2 : ¬ d < c := fun e' => by have := h2.2 e'; omega
        omega
      rw [if_pos e, if_pos this]
    · have : ¬ c = d := by
        have := h2.1 (by omega)
        omega
      rw [if_neg e, if_neg this]
theorem sg_lt (s t : Bool) (f : Nat → Nat) (hf : ∀ {r s}, r < s → f r < f s) (h0 : f 0 = 0) (a b : Nat) : (sg s (f a) < sg t (f b) ↔ sg s a < sg t b) := by
  have m : ∀ x y, f x < f y ↔ x < y := fun x y => ⟨fun h => by
    rcases Nat.lt_trichotomy x y with h1 | h1 | h1
    · exact h1
    · subst h1; omega
    · have := hf h1; omega, hf⟩
  have p : ∀ x, 0 < f x ↔ 0 < x := fun x => by rw [← h0]; simpa [h0] using m 0 x
  have a1 := p a; have b1 := p b; have m1 := m a b; have m2 := m b a
  cases s <;> cases t <;> simp only [sg, if_true, if_false, Bool.false_eq_true] <;> omega
def magF (r : Nat) : Nat := if r < 4503599627370496 then r else 4503599627370496 + r % 4503599627370496
theorem valF_eq (r : Nat) : valF r = magF r * 2 ^ (r / 4503599627370496 - 1) := by
  unfold valF magF
  by_cases h : r < 4503599627370496
  · rw [if_pos h, if_pos h, show r / 4503599627370496 - 1 = 0 by omega]; omega
  · rw [if_neg h, if_neg h]
theorem bin : ({ exponentBits := 11, fractionBits := 52 } : Ieee.Format).binade = 4503599627370496 := by decide
theorem readF (a : Nat) : FloatKind.f64.format.read a =
    if a % 9223372036854775808 < 9218868437227405312 then .number (a / 9223372036854775808 % 2 == 1) (magF (a % 9223372036854775808)) (-1074 + ((a % 9223372036854775808 / 4503599627370496 - 1 : Nat) : Int))
    else if a % 9223372036854775808 = 9218868437227405312 then .infinity (a / 9223372036854775808 % 2 == 1)
    else .nan (a / 9223372036854775808 % 2 == 1) (a % 9223372036854775808 - 9218868437227405312) := by
  unfold FloatKind.format Ieee.double Ieee.Format.read Ieee.Format.signWeight Ieee.Format.infRung Ieee.Format.leastPlace
  simp only [bin]
  have e1 : (2 : Nat) ^ (11 + 52) = 9223372036854775808 := by decide
  have e2 : ((2 : Nat) ^ 11 - 1) * 4503599627370496 = 9218868437227405312 := by decide
  have e3 : (2 - 2 ^ (11 - 1) - ((52 : Nat) : Int) : Int) = -1074 := by decide
  simp only [e1, e2, e3]
  unfold magF
  generalize a % 9223372036854775808 = r
  by_cases h1 : r < 4503599627370496
  · rw [if_pos h1, if_pos (by omega), if_pos h1, show r / 4503599627370496 - 1 = 0 by omega]; simp
  · rw [if_neg h1]
    by_cases h2 : r < 9218868437227405312
    · rw [if_pos h2, if_pos h2, if_neg h1]
    · rw [if_neg h2, if_neg h2]
theorem placeF_sg (a : Nat) : placeF a = sg (a / 9223372036854775808 % 2 == 1) (a % 9223372036854775808) := by
  unfold placeF sg
  by_cases h : a / 9223372036854775808 % 2 = 1 <;> simp [h]
theorem nanB_eq (a : Nat) : nanB a = decide (9218868437227405312 < a % 9223372036854775808) := by
  unfold nanB
  rw [decide_eq_decide]
  omega
theorem signed_mul (s : Bool) (m c d : Nat) : Ieee.signed s m (c + d) = Ieee.signed s m c * ((2 ^ d : Nat) : Int) := by
  unfold Ieee.signed
  rw [Nat.shiftLeft_eq, Nat.shiftLeft_eq, Nat.pow_add, ← Nat.mul_assoc]
  cases s
  · simp only [Bool.false_eq_true, if_false]; exact Int.natCast_mul _ _
  · simp only [if_true]; rw [Int.natCast_mul, Int.neg_mul]
theorem signed_val (s : Bool) (r : Nat) : Ieee.signed s (magF r) (r / 4503599627370496 - 1) = sg s (valF r) := by
  unfold Ieee.signed sg
  rw [Nat.shiftLeft_eq, valF_eq]
theorem mul_lt_iff (a b : Int) (p : Nat) (hp : 0 < p) : a < b ↔ a * (p : Int) < b * (p : Int) :=
  ⟨fun h => Int.mul_lt_mul_of_pos_right h (by omega), fun h => Int.lt_of_mul_lt_mul_right h (by omega)⟩
theorem cmp_lt {a b : Int} (h : a < b) : compare a b = .lt := by simp [compare, compareOfLessAndEq, h]
theorem cmp_gt {a b : Int} (h : b < a) : compare a b = .gt := by simp only [compare, compareOfLessAndEq]; rw [if_neg (by omega), if_neg (by omega)]
theorem cmp_self (a : Int) : compare a a = .eq := by simp [compare, compareOfLessAndEq]
theorem order_eq (a b : Nat) : FloatKind.f64.format.order a b = if (nanB a || nanB b) = true then none else some (compare (placeF a) (placeF b)) := by
  unfold Ieee.Format.order
  rw [readF, readF, placeF_sg, placeF_sg, nanB_eq, nanB_eq]
  generalize (a / 9223372036854775808 % 2 == 1) = s
  generalize (b / 9223372036854775808 % 2 == 1) = t
  generalize a % 9223372036854775808 = r
  generalize b % 9223372036854775808 = q
  rcases Nat.lt_trichotomy r 9218868437227405312 with h1 | h1 | h1 <;> rcases Nat.lt_trichotomy q 9218868437227405312 with h2 | h2 | h2
  · rw [if_pos h1, if_pos h2, decide_eq_false (by omega), decide_eq_false (by omega), if_neg (by simp)]
    simp only [Ieee.Datum.order]
    have ka := signed_val s r
    have kb := signed_val t q
    generalize r / 4503599627370496 - 1 = x at *
    generalize q / 4503599627370496 - 1 = y at *
    have e1 : ((-1074 + (x : Int)) - min (-1074 + (x : Int)) (-1074 + (y : Int))).toNat = x - min x y := by omega
    have e2 : ((-1074 + (y : Int)) - min (-1074 + (x : Int)) (-1074 + (y : Int))).toNat = y - min x y := by omega
    rw [e1, e2]
    have m1 := signed_mul s (magF r) (x - min x y) (min x y)
    have m2 := signed_mul t (magF q) (y - min x y) (min x y)
    rw [show x - min x y + min x y = x by omega, ka] at m1
    rw [show y - min x y + min x y = y by omega, kb] at m2
    have hp : 0 < 2 ^ min x y := Nat.two_pow_pos _
    refine congrArg some (cmp_int ?_ ?_)
    · rw [mul_lt_iff _ _ _ hp, ← m1, ← m2]
      exact sg_lt s t valF (fun h => valF_lt h) (by decide) r q
    · rw [mul_lt_iff _ _ _ hp, ← m1, ← m2]
      exact sg_lt t s valF (fun h => valF_lt h) (by decide) q r
  all_goals
    first
      | (rw [decide_eq_true h1]; simp [Ieee.Datum.order, show ¬ r < 9218868437227405312 by omega, show ¬ r = 9218868437227405312 by omega]; done)
      | (rw [decide_eq_true h2]; simp [Ieee.Datum.order, h1, show ¬ q < 9218868437227405312 by omega, show ¬ q = 9218868437227405312 by omega]; done)
      | (rw [decide_eq_false (show ¬ 9218868437227405312 < r by omega), decide_eq_false (show ¬ 9218868437227405312 < q by omega), if_neg (show ¬ (false || false) = true by simp)]
         first
           | (rw [if_pos h1, if_neg (show ¬ q < 9218868437227405312 by omega), if_pos h2]
              cases t
              · rw [cmp_lt (b := sg false q) (by cases s <;> simp only [sg, if_true, if_false, Bool.false_eq_true] <;> omega)]; rfl
              · rw [cmp_gt (b := sg true q) (by cases s <;> simp only [sg, if_true, if_false, Bool.false_eq_true] <;> omega)]; rfl)
           | (rw [if_pos h2, if_neg (show ¬ r < 9218868437227405312 by omega), if_pos h1]
              cases s
              · rw [cmp_gt (a := sg false r) (by cases t <;> simp only [sg, if_true, if_false, Bool.false_eq_true] <;> omega)]; rfl
              · rw [cmp_lt (a := sg true r) (by cases t <;> simp only [sg, if_true, if_false, Bool.false_eq_true] <;> omega)]; rfl)
           | (rw [if_neg (show ¬ q < 9218868437227405312 by omega), if_pos h2, if_neg (show ¬ r < 9218868437227405312 by omega), if_pos h1]
              have hrq : r = q := by omega
              subst hrq
              clear h2
              have hr : 0 < r := by omega
              clear h1
              cases s <;> cases t
              · rw [cmp_self]; rfl
              · rw [cmp_gt (a := sg false r) (by simp only [sg, if_true, if_false, Bool.false_eq_true]; omega)]; rfl
              · rw [cmp_lt (a := sg true r) (by simp only [sg, if_true, if_false, Bool.false_eq_true]; omega)]; rfl
              · rw [cmp_self]; rfl))
theorem cmp_eq_iff (a b : Int) : (compare a b == .eq) = decide (a = b) := by
  simp only [compare, compareOfLessAndEq]
  by_cases h : a < b
  · rw [if_pos h, decide_eq_false (by omega)]; rfl
  · rw [if_neg h]
    by_cases e : a = b
    · rw [if_pos e, decide_eq_true e]; rfl
    · rw [if_neg e, decide_eq_false e]; rfl
theorem some_beq (x y : Ordering) : ((some x : Option Ordering) == some y) = (x == y) := rfl
/-- '==' on floats. -/
def feqB (a b : Nat) : Bool := !nanB a && !nanB b && decide (placeF a = placeF b)
theorem feq (a b : Nat) : (FloatKind.f64.format.order a b == some .eq) = feqB a b := by
  rw [order_eq, feqB]
  cases nanB a <;> cases nanB b <;> simp only [Bool.or_self, Bool.or_true, Bool.or_false, if_true, if_false, Bool.false_eq_true, Bool.not_true, Bool.not_false, Bool.false_and, Bool.and_false, Bool.true_and, some_beq, cmp_eq_iff] <;> rfl
def fltB (a b : Nat) : Bool := !nanB a && !nanB b && decide (placeF a < placeF b)
theorem cmp_lt_iff (a b : Int) : (compare a b == .lt) = decide (a < b) := by
  simp only [compare, compareOfLessAndEq]
  by_cases h : a < b
  · rw [if_pos h, decide_eq_true h]; rfl
  · rw [if_neg h, decide_eq_false h]
    by_cases e : a = b
    · rw [if_pos e]; rfl
    · rw [if_neg e]; rfl
theorem cmp_gt_iff (a b : Int) : (compare a b == .gt) = decide (b < a) := by
  simp only [compare, compareOfLessAndEq]
  by_cases h : a < b
  · rw [if_pos h, decide_eq_false (by omega)]; rfl
  · rw [if_neg h]
    by_cases e : a = b
    · rw [if_pos e, decide_eq_false (by omega)]; rfl
    · rw [if_neg e, decide_eq_true (by omega)]; rfl
theorem flt (a b : Nat) : (FloatKind.f64.format.order a b == some .lt) = fltB a b := by
  rw [order_eq, fltB]
  cases nanB a <;> cases nanB b <;> simp only [Bool.or_self, Bool.or_true, Bool.or_false, if_true, if_false, Bool.false_eq_true, Bool.not_true, Bool.not_false, Bool.false_and, Bool.and_false, Bool.true_and, some_beq, cmp_lt_iff] <;> rfl
theorem fgt (a b : Nat) : (FloatKind.f64.format.order a b == some .gt) = fltB b a := by
  rw [order_eq, fltB]
  cases nanB a <;> cases nanB b <;> simp only [Bool.or_self, Bool.or_true, Bool.or_false, if_true, if_false, Bool.false_eq_true, Bool.not_true, Bool.not_false, Bool.false_and, Bool.and_false, Bool.true_and, some_beq, cmp_gt_iff] <;> rfl
theorem fne (a b : Nat) : (FloatKind.f64.format.order a b != some .eq) = !feqB a b := by rw [← feq]; rfl
theorem feq_self (a : Nat) : feqB a a = !nanB a := by simp [feqB]
end Go.Proofs.YthdmmhiifkebeaaDoor
