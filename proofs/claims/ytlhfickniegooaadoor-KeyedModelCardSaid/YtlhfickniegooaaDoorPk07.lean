/-
  Floats by their bits, in plain numbers: what the model's order of two floats is. For all bits. Contracts of math.Float64frombits (the model's own entry) and math.IsNaN. For all bits. Contract of value.right: for every datum that lies in memory, and every number of what is left. Written by an AI agent.
-/
import Derived.WalkKit
import Derived.Laws.Cover2
import Derived.Test.YtlhfickniegooaaDoorProg
import Derived.WalkLawsBesides
import Derived.WalkSpells
import Derived.Test.YtlhfickniegooaaDoorPk06
import Derived.Test.YtlhfickniegooaaDoorPk01
import Derived.BigQuiet
import Derived.Deep.QuietTactic
import Derived.Deep.DeepCutAuto
namespace Go.Proofs.YtlhfickniegooaaDoor
/-- Do the bits say NaN? -/
def nanB (f : Nat) : Bool := decide (f / 4503599627370496 % 2048 = 2047 ∧ f % 4503599627370496 ≠ 0)
/-- The place of a float that is no NaN in the floats' order. -/
def placeF (f : Nat) : Int := if f / 9223372036854775808 % 2 = 1 then -((f % 9223372036854775808 : Nat) : Int) else ((f % 9223372036854775808 : Nat) : Int)

/-- What a rung stands for, in units of the least number. -/
def valF (r : Nat) : Nat := if r < 4503599627370496 then r else (4503599627370496 + r % 4503599627370496) * 2 ^ (r / 4503599627370496 - 1)
theorem valF_lt {r s : Nat} (h : r < s) : valF r < valF s := by
  unfold valF
  by_cases h1 : r < 4503599627370496
  · rw [if_pos h1]
    by_cases h2 : s < 4503599627370496
    · rw [if_pos h2]; exact h
    · rw [if_neg h2]
      have h3 : 1 ≤ 2 ^ (s / 4503599627370496 - 1) := Nat.one_le_two_pow
      have h4 := Nat.mul_le_mul_left (4503599627370496 + s % 4503599627370496) h3
      omega
  · have h2 : ¬ s < 4503599627370496 := by omega
    rw [if_neg h1, if_neg h2]
    have q1 : 1 ≤ r / 4503599627370496 := by omega
    rcases Nat.lt_or_ge (r / 4503599627370496) (s / 4503599627370496) with hq | hq
    · have h5 : 2 ^ (r / 4503599627370496) ≤ 2 ^ (s / 4503599627370496 - 1) := Nat.pow_le_pow_right (by decide) (by omega)
      have h6 : 2 ^ (r / 4503599627370496) = 2 * 2 ^ (r / 4503599627370496 - 1) := by
        rw [← Nat.pow_succ', Nat.succ_eq_add_one, Nat.sub_add_cancel q1]
      have h7 := Nat.mul_le_mul_left (4503599627370496 + s % 4503599627370496) h5
      have h8 : 0 < 2 ^ (r / 4503599627370496 - 1) := Nat.two_pow_pos _
      have h9 : (4503599627370496 + r % 4503599627370496) * 2 ^ (r / 4503599627370496 - 1) < 9007199254740992 * 2 ^ (r / 4503599627370496 - 1) := Nat.mul_lt_mul_of_pos_right (by omega) h8
      have h10 : 4503599627370496 * 2 ^ (r / 4503599627370496) ≤ (4503599627370496 + s % 4503599627370496) * 2 ^ (r / 4503599627370496) := Nat.mul_le_mul_right _ (by omega)
      rw [h6] at h10 h7
      have h11 : 4503599627370496 * (2 * 2 ^ (r / 4503599627370496 - 1)) = 9007199254740992 * 2 ^ (r / 4503599627370496 - 1) := by rw [← Nat.mul_assoc]
      rw [h11] at h10
      exact Nat.lt_of_lt_of_le h9 (Nat.le_trans h10 h7)
    · have hqe : r / 4503599627370496 = s / 4503599627370496 := by
        have : r / 4503599627370496 ≤ s / 4503599627370496 := Nat.div_le_div_right (by omega)
        omega
      rw [hqe]
      exact Nat.mul_lt_mul_of_pos_right (by omega) (Nat.two_pow_pos _)

def sg (s : Bool) (v : Nat) : Int := if s then -(v : Int) else v
theorem cmp_int {a b c d : Int} (h1 : a < b ↔ c < d) (h2 : b < a ↔ d < c) : compare a b = compare c d := by
  simp only [compare, compareOfLessAndEq]
  by_cases h : a < b
  · rw [if_pos h, if_pos (h1.1 h)]
  · rw [if_neg h, if_neg (fun e => h (h1.2 e))]
    by_cases e : a = b
    · have : c = d := by
        have n1 : ¬ c < d := fun e' => h (h1.2 e')
        have n2 : ¬ d < c := fun e' => by have := h2.2 e'; omega
        omega
      rw [if_pos e, if_pos this]
    · have : ¬ c = d := by
        have := h2.1 (by omega)
        omega
      rw [if_neg e, if_neg this]
theorem sg_lt (s t : Bool) (f : Nat → Nat) (hf : ∀ {r s}, r < s → f r < f s) (h0 : f 0 = 0) (a b : Nat) : (sg s (f a) < sg t (f b) ↔ sg s a < sg t b) := by
  have m : ∀ x y, f x < f y ↔ x < y := fun x y => ⟨fun h => by
    rcases Nat.lt_trichotomy x y with h1 | h1 | h1
    · exact h1
    · subst h1; omega
    · have := hf h1; omega, hf⟩
  have p : ∀ x, 0 < f x ↔ 0 < x := fun x => by rw [← h0]; simpa [h0] using m 0 x
  have a1 := p a; have b1 := p b; have m1 := m a b; have m2 := m b a
  cases s <;> cases t <;> simp only [sg, if_true, if_false, Bool.false_eq_true] <;> omega
def magF (r : Nat) : Nat := if r < 4503599627370496 then r else 4503599627370496 + r % 4503599627370496
theorem valF_eq (r : Nat) : valF r = magF r * 2 ^ (r / 4503599627370496 - 1) := by
  unfold valF magF
  by_cases h : r < 4503599627370496
  · rw [if_pos h, if_pos h, show r / 4503599627370496 - 1 = 0 by omega]; omega
  · rw [if_neg h, if_neg h]
theorem bin : ({ exponentBits := 11, fractionBits := 52 } : Ieee.Format).binade = 4503599627370496 := by decide
theorem readF (a : Nat) : FloatKind.f64.format.read a =
    if a % 9223372036854775808 < 9218868437227405312 then .number (a / 9223372036854775808 % 2 == 1) (magF (a % 9223372036854775808)) (-1074 + ((a % 9223372036854775808 / 4503599627370496 - 1 : Nat) : Int))
    else if a % 9223372036854775808 = 9218868437227405312 then .infinity (a / 9223372036854775808 % 2 == 1)
    else .nan (a / 9223372036854775808 % 2 == 1) (a % 9223372036854775808 - 9218868437227405312) := by
  unfold FloatKind.format Ieee.double Ieee.Format.read Ieee.Format.signWeight Ieee.Format.infRung Ieee.Format.leastPlace
  simp only [bin]
  have e1 : (2 : Nat) ^ (11 + 52) = 9223372036854775808 := by decide
  have e2 : ((2 : Nat) ^ 11 - 1) * 4503599627370496 = 9218868437227405312 := by decide
  have e3 : (2 - 2 ^ (11 - 1) - ((52 : Nat) : Int) : Int) = -1074 := by decide
  simp only [e1, e2, e3]
  unfold magF
  generalize a % 9223372036854775808 = r
  by_cases h1 : r < 4503599627370496
  · rw [if_pos h1, if_pos (by omega), if_pos h1, show r / 4503599627370496 - 1 = 0 by omega]; simp
  · rw [if_neg h1]
    by_cases h2 : r < 9218868437227405312
    · rw [if_pos h2, if_pos h2, if_neg h1]
    · rw [if_neg h2, if_neg h2]
theorem placeF_sg (a : Nat) : placeF a = sg (a / 9223372036854775808 % 2 == 1) (a % 9223372036854775808) := by
  unfold placeF sg
  by_cases h : a / 9223372036854775808 % 2 = 1 <;> simp [h]
theorem nanB_eq (a : Nat) : nanB a = decide (9218868437227405312 < a % 9223372036854775808) := by
  unfold nanB
  rw [decide_eq_decide]
  omega
theorem signed_mul (s : Bool) (m c d : Nat) : Ieee.signed s m (c + d) = Ieee.signed s m c * ((2 ^ d : Nat) : Int) := by
  unfold Ieee.signed
  rw [Nat.shiftLeft_eq, Nat.shiftLeft_eq, Nat.pow_add, ← Nat.mul_assoc]
  cases s
  · simp only [Bool.false_eq_true, if_false]; exact Int.natCast_mul _ _
  · simp only [if_true]; rw [Int.natCast_mul, Int.neg_mul]
theorem signed_val (s : Bool) (r : Nat) : Ieee.signed s (magF r) (r / 4503599627370496 - 1) = sg s (valF r) := by
  unfold Ieee.signed sg
  rw [Nat.shiftLeft_eq, valF_eq]
theorem mul_lt_iff (a b : Int) (p : Nat) (hp : 0 < p) : a < b ↔ a * (p : Int) < b * (p : Int) :=
  ⟨fun h => Int.mul_lt_mul_of_pos_right h (by omega), fun h => Int.lt_of_mul_lt_mul_right h (by omega)⟩
theorem cmp_lt {a b : Int} (h : a < b) : compare a b = .lt := by simp [compare, compareOfLessAndEq, h]
theorem cmp_gt {a b : Int} (h : b < a) : compare a b = .gt := by simp only [compare, compareOfLessAndEq]; rw [if_neg (by omega), if_neg (by omega)]
theorem cmp_self (a : Int) : compare a a = .eq := by simp [compare, compareOfLessAndEq]
theorem order_eq (a b : Nat) : FloatKind.f64.format.order a b = if (nanB a || nanB b) = true then none else some (compare (placeF a) (placeF b)) := by
  unfold Ieee.Format.order
  rw [readF, readF, placeF_sg, placeF_sg, nanB_eq, nanB_eq]
  generalize (a / 9223372036854775808 % 2 == 1) = s
  generalize (b / 9223372036854775808 % 2 == 1) = t
  generalize a % 9223372036854775808 = r
  generalize b % 9223372036854775808 = q
  rcases Nat.lt_trichotomy r 9218868437227405312 with h1 | h1 | h1 <;> rcases Nat.lt_trichotomy q 9218868437227405312 with h2 | h2 | h2
  · rw [if_pos h1, if_pos h2, decide_eq_false (by omega), decide_eq_false (by omega), if_neg (by simp)]
    simp only [Ieee.Datum.order]
    have ka := signed_val s r
    have kb := signed_val t q
    generalize r / 4503599627370496 - 1 = x at *
    generalize q / 4503599627370496 - 1 = y at *
    have e1 : ((-1074 + (x : Int)) - min (-1074 + (x : Int)) (-1074 + (y : Int))).toNat = x - min x y := by omega
    have e2 : ((-1074 + (y : Int)) - min (-1074 + (x : Int)) (-1074 + (y : Int))).toNat = y - min x y := by omega
    rw [e1, e2]
    have m1 := signed_mul s (magF r) (x - min x y) (min x y)
    have m2 := signed_mul t (magF q) (y - min x y) (min x y)
    rw [show x - min x y + min x y = x by omega, ka] at m1
    rw [show y - min x y + min x y = y by omega, kb] at m2
    have hp : 0 < 2 ^ min x y := Nat.two_pow_pos _
    refine congrArg some (cmp_int ?_ ?_)
    · rw [mul_lt_iff _ _ _ hp, ← m1, ← m2]
      exact sg_lt s t valF (fun h => valF_lt h) (by decide) r q
    · rw [mul_lt_iff _ _ _ hp, ← m1, ← m2]
      exact sg_lt t s valF (fun h => valF_lt h) (by decide) q r
  all_goals
    first
      | (rw [decide_eq_true h1]; simp [Ieee.Datum.order, show ¬ r < 9218868437227405312 by omega, show ¬ r = 9218868437227405312 by omega]; done)
      | (rw [decide_eq_true h2]; simp [Ieee.Datum.order, h1, show ¬ q < 9218868437227405312 by omega, show ¬ q = 9218868437227405312 by omega]; done)
      | (rw [decide_eq_false (show ¬ 9218868437227405312 < r by omega), decide_eq_false (show ¬ 9218868437227405312 < q by omega), if_neg (show ¬ (false || false) = true by simp)]
         first
           | (rw [if_pos h1, if_neg (show ¬ q < 9218868437227405312 by omega), if_pos h2]
              cases t
              · rw [cmp_lt (b := sg false q) (by cases s <;> simp only [sg, if_true, if_false, Bool.false_eq_true] <;> omega)]; rfl
              · rw [cmp_gt (b := sg true q) (by cases s <;> simp only [sg, if_true, if_false, Bool.false_eq_true] <;> omega)]; rfl)
           | (rw [if_pos h2, if_neg (show ¬ r < 9218868437227405312 by omega), if_pos h1]
              cases s
              · rw [cmp_gt (a := sg false r) (by cases t <;> simp only [sg, if_true, if_false, Bool.false_eq_true] <;> omega)]; rfl
              · rw [cmp_lt (a := sg true r) (by cases t <;> simp only [sg, if_true, if_false, Bool.false_eq_true] <;> omega)]; rfl)
           | (rw [if_neg (show ¬ q < 9218868437227405312 by omega), if_pos h2, if_neg (show ¬ r < 9218868437227405312 by omega), if_pos h1]
              have hrq : r = q := by omega
              subst hrq
              clear h2
              have hr : 0 < r := by omega
              clear h1
              cases s <;> cases t
              · rw [cmp_self]; rfl
              · rw [cmp_gt (a := sg false r) (by simp only [sg, if_true, if_false, Bool.false_eq_true]; omega)]; rfl
              · rw [cmp_lt (a := sg true r) (by simp only [sg, if_true, if_false, Bool.false_eq_true]; omega)]; rfl
              · rw [cmp_self]; rfl))
theorem cmp_eq_iff (a b : Int) : (compare a b == .eq) = decide (a = b) := by
  simp only [compare, compareOfLessAndEq]
  by_cases h : a < b
  · rw [if_pos h, decide_eq_false (by omega)]; rfl
  · rw [if_neg h]
    by_cases e : a = b
    · rw [if_pos e, decide_eq_true e]; rfl
    · rw [if_neg e, decide_eq_false e]; rfl
theorem some_beq (x y : Ordering) : ((some x : Option Ordering) == some y) = (x == y) := rfl
/-- '==' on floats. -/
def feqB (a b : Nat) : Bool := !nanB a && !nanB b && decide (placeF a = placeF b)
theorem feq (a b : Nat) : (FloatKind.f64.format.order a b == some .eq) = feqB a b := by
  rw [order_eq, feqB]
  cases nanB a <;> cases nanB b <;> simp only [Bool.or_self, Bool.or_true, Bool.or_false, if_true, if_false, Bool.false_eq_true, Bool.not_true, Bool.not_false, Bool.false_and, Bool.and_false, Bool.true_and, some_beq, cmp_eq_iff] <;> rfl
def fltB (a b : Nat) : Bool := !nanB a && !nanB b && decide (placeF a < placeF b)
theorem cmp_lt_iff (a b : Int) : (compare a b == .lt) = decide (a < b) := by
  simp only [compare, compareOfLessAndEq]
  by_cases h : a < b
  · rw [if_pos h, decide_eq_true h]; rfl
  · rw [if_neg h, decide_eq_false h]
    by_cases e : a = b
    · rw [if_pos e]; rfl
    · rw [if_neg e]; rfl
theorem cmp_gt_iff (a b : Int) : (compare a b == .gt) = decide (b < a) := by
  simp only [compare, compareOfLessAndEq]
  by_cases h : a < b
  · rw [if_pos h, decide_eq_false (by omega)]; rfl
  · rw [if_neg h]
    by_cases e : a = b
    · rw [if_pos e, decide_eq_false (by omega)]; rfl
    · rw [if_neg e, decide_eq_true (by omega)]; rfl
theorem flt (a b : Nat) : (FloatKind.f64.format.order a b == some .lt) = fltB a b := by
  rw [order_eq, fltB]
  cases nanB a <;> cases nanB b <;> simp only [Bool.or_self, Bool.or_true, Bool.or_false, if_true, if_false, Bool.false_eq_true, Bool.not_true, Bool.not_false, Bool.false_and, Bool.and_false, Bool.true_and, some_beq, cmp_lt_iff] <;> rfl
theorem fgt (a b : Nat) : (FloatKind.f64.format.order a b == some .gt) = fltB b a := by
  rw [order_eq, fltB]
  cases nanB a <;> cases nanB b <;> simp only [Bool.or_self, Bool.or_true, Bool.or_false, if_true, if_false, Bool.false_eq_true, Bool.not_true, Bool.not_false, Bool.false_and, Bool.and_false, Bool.true_and, some_beq, cmp_gt_iff] <;> rfl
theorem fne (a b : Nat) : (FloatKind.f64.format.order a b != some .eq) = !feqB a b := by rw [← feq]; rfl
theorem feq_self (a : Nat) : feqB a a = !nanB a := by simp [feqB]
end Go.Proofs.YtlhfickniegooaaDoor

namespace Go.Proofs.YtlhfickniegooaaDoor
theorem fromBits (n : Int) (w : World) : (callFunc 55 #[.int .u64 n]).run Tryd.prog w = .ok (.value (.float .f64 n.toNat)) w := by kernel_rfl
set_option maxHeartbeats 400000 in
theorem isNaN_any (f : Nat) (w : World) : Calls Tryd.prog 64 #[.float .f64 f] w fun e w' => e = .returned (.bool (nanB f)) ∧ w = w' := by
  have hf := fne f f
  rw [feq_self, Bool.not_not] at hf
  go_enter Tryd.func64, Tryd.ntmps64
  go_wp2
  go_ret
  exact ⟨rfl, rfl⟩
end Go.Proofs.YtlhfickniegooaaDoor

namespace Go.Proofs.YtlhfickniegooaaDoor
open Go.RowKit

/-- The kind's own name, for kinds 1 to 7; 0: nil. -/
def ownOf (kind : Int) : ByteArray := (ownL[kind.toNat]?).getD ⟨#[]⟩
def namedB (h : Hd) : Bool := if h.kind < 8 then (decide (h.kind ≠ 0) && (declB h.type || decide (h.type = ownOf h.kind))) || (decide (h.kind = 0) && decide (h.type.size = 0)) else declB h.type
def ok1B (h : Hd) : Bool := namedB h && decide (h.kind = 2 ∨ h.n = 0 ∨ (h.kind = 1 ∧ h.n = 1))
def nanNo : Int := 9221120237041090561
def ok2B (h : Hd) : Bool := ok1B h && (decide (h.f = 0) || (decide (h.kind = 3) && !(decide (h.f ≠ nanNo) && nanB h.f.toNat)))
def okB (h : Hd) : Bool := ok2B h && (decide (h.s.size = 0) || decide (h.kind = 4 ∧ h.s.size ≤ 65536))
def headB (h : Hd) (len : Nat) : Bool := decide (0 ≤ h.kind ∧ h.kind ≤ 9) && leadsB h.kind h.obj h.frm h.len h.cap h.path && okB h && decide (len = 0 ∨ h.kind = 8) && decide (len ≤ 30)

/-- What value.right answers of a row of data, one behind the other, with so much left; and what is left then. -/
def rightF : Fo → Int → Bool × Int
  | .nil, n => (true, n)
  | .cons h k r, n => if n - 1 < 0 then (false, n - 1) else if headB h k.len = false then (false, n - 1) else if (rightF k (n - 1)).1 = true then rightF r (rightF k (n - 1)).2 else (false, (rightF k (n - 1)).2)
def rightD (h : Hd) (k : Fo) (n : Int) : Bool × Int := if n - 1 < 0 then (false, n - 1) else if headB h k.len = false then (false, n - 1) else rightF k (n - 1)

theorem rightF_cons (h : Hd) (k r : Fo) (n : Int) : rightF (.cons h k r) n = if (rightD h k n).1 = true then rightF r (rightD h k n).2 else (false, (rightD h k n).2) := by
  unfold rightD
  rw [rightF]
  by_cases h1 : n - 1 < 0
  · simp [h1]
  · by_cases h2 : headB h k.len = false
    · simp [h1, h2]
    · simp [h1, h2]
theorem rightF_le : ∀ (f : Fo) (n : Int), 0 ≤ n → (rightF f n).1 = true → 0 ≤ (rightF f n).2 ∧ (rightF f n).2 ≤ n
  | .nil, n, h0, _ => ⟨h0, Int.le_refl _⟩
  | .cons h k r, n, h0, ht => by
    rw [rightF] at ht ⊢
    by_cases h1 : n - 1 < 0
    · simp [h1] at ht
    · by_cases h2 : headB h k.len = false
      · simp [h1, h2] at ht
      · simp only [if_neg h1, if_neg h2] at ht ⊢
        by_cases h3 : (rightF k (n - 1)).1 = true
        · rw [if_pos h3] at ht ⊢
          have a := rightF_le k (n - 1) (by omega) h3
          have b := rightF_le r _ a.1 ht
          omega
        · rw [if_neg h3] at ht; cases ht
theorem rightD_le {h : Hd} {k : Fo} {n : Int} (h0 : 0 ≤ n) (ht : (rightD h k n).1 = true) : 0 ≤ (rightD h k n).2 ∧ (rightD h k n).2 ≤ n := by
  have e := rightF_cons h k .nil n
  rw [if_pos ht] at e
  have := rightF_le (.cons h k .nil) n h0 (by rw [e]; rfl)
  rw [e] at this
  exact this

def RightC (h : Hd) (k : Fo) : Prop := ∀ (w : World) (S : Nat → Prop) (L : Nat) (n : Int) (pa : Option Addr) (pc : Nat) (ia : Option Addr) (ic : Nat), DatAt w S h k pa pc ia ic → ¬ S L → L ≠ 0 → OwnAt w →
  Blk w L 3 #[.int .i64 n] → -1000 ≤ n → n ≤ 1000 →
  Calls Tryd.prog 49 #[.agg (h.cells pa pc ia k.len ic), .pointer (some ⟨L, 0, none⟩)] w fun e w' =>
    e = .returned (.bool (rightD h k n).1) ∧ Blk w' L 3 #[.int .i64 (rightD h k n).2] ∧ w.grownBy w' (some L)

def startB (h : Hd) (n : Int) : Bool := decide (n - 1 < 0 ∨ h.kind < 0 ∨ 9 < h.kind) || !leadsB h.kind h.obj h.frm h.len h.cap h.path

/-- The world of value.right behind its first two statements: the datum in a block of its own, the number one less. -/
def wr1 (w : World) (L : Nat) (n : Int) (cs : Array Value) : World := (w.setCell ⟨L, 0, none⟩ (.int .i64 (n - 1))).alloc (.cells cs 31)

theorem wr1_size (w : World) (L : Nat) (n : Int) (cs : Array Value) : (wr1 w L n cs).heap.size = w.heap.size + 1 := by simp [wr1, World.setCell]
theorem wr1_new (w : World) (L : Nat) (n : Int) (cs : Array Value) : Blk (wr1 w L n cs) w.heap.size 31 cs := by
  have := Blk.new (w.setCell ⟨L, 0, none⟩ (.int .i64 (n - 1))) 31 cs
  simpa [World.setCell, wr1] using this
theorem wr1_old (w : World) (L : Nat) (n : Int) (cs : Array Value) (b : Nat) (hb : b < w.heap.size) (hL : b ≠ L) : (wr1 w L n cs).heap[b]? = w.heap[b]? := by
  unfold wr1
  rw [Below.heap_alloc _ _ _ (by simpa [World.setCell] using hb), Below.heap_setCell _ _ _ _ hL]
theorem wr1_left {w : World} {L : Nat} {n m : Int} (cs : Array Value) (h : Blk w L 3 #[.int .i64 m]) : Blk (wr1 w L n cs) L 3 #[.int .i64 (n - 1)] := (h.set_ 0 (.int .i64 (n - 1))).alloc _
theorem wr1_grown {w w' : World} {L : Nat} {n : Int} {cs : Array Value} (h : Below (w.heap.size + 1) (wr1 w L n cs) w') : w.grownBy w' (some L) :=
  ⟨h.os, h.tape, h.output, by have := h.size; rw [wr1_size] at this; omega, fun b hb hne => (h.block b (by omega)).trans (wr1_old w L n cs b hb (fun e => hne (by rw [e])))⟩
theorem OwnAt.grown {w w' : World} {L : Nat} (h : OwnAt w) (hg : w.grownBy w' (some L)) (hL0 : L ≠ 0) : OwnAt w' := fun j s e =>
  (World.cell?_of_block (w := w) (hg.block 0 (cell_lt (h j s e)) (fun e => hL0 (by injection e with e; exact e.symm)))).trans (h j s e)
theorem OwnAt.at_ {w : World} (h : OwnAt w) {kind : Int} (h0 : 0 ≤ kind) (h8 : kind < 8) : w.cell? ⟨0, kind.toNat, none⟩ = some (.string (ownOf kind)) := by
  have hl : kind.toNat < ownL.length := by show _ < 8; omega
  refine h _ _ ?_
  unfold ownOf
  rw [List.getElem?_eq_getElem hl]; rfl
theorem rightD_start {h : Hd} {k : Fo} {n : Int} (hs : startB h n = true) : rightD h k n = (false, n - 1) := by
  unfold rightD
  by_cases h1 : n - 1 < 0
  · rw [if_pos h1]
  · rw [if_neg h1, if_pos]
    unfold startB at hs
    unfold headB
    by_cases h2 : h.kind < 0 ∨ 9 < h.kind
    · rw [decide_eq_false (show ¬ (0 ≤ h.kind ∧ h.kind ≤ 9) by omega)]; simp
    · rw [decide_eq_false (by omega)] at hs
      simp at hs
      simp [hs]
theorem rightD_ok {h : Hd} {k : Fo} {n : Int} (hs : startB h n = false) : rightD h k n = if (okB h && decide (k.len = 0 ∨ h.kind = 8) && decide (k.len ≤ 30)) = false then (false, n - 1) else rightF k (n - 1) := by
  unfold startB at hs
  simp only [Bool.or_eq_false_iff, decide_eq_false_iff_not, Bool.not_eq_false'] at hs
  obtain ⟨h1, h2⟩ := hs
  unfold rightD headB
  rw [if_neg (by omega), decide_eq_true (show 0 ≤ h.kind ∧ h.kind ≤ 9 by omega), h2]
  simp

set_option maxRecDepth 100000 in
set_option maxHeartbeats 4000000 in
theorem right_one (h : Hd) (k : Fo) (ho : h.ok) (hk : k.ok) (ih : ∀ i h' k', k.get i = some (h', k') → RightC h' k') : RightC h k := by
  intro w S L n pa pc ia ic hd hL hL0 hown hbl n0 n1
  unfold Hd.cells
  have hLc := hbl.cell 0
  simp at hLc
  have hLf := hbl.frozen 0
  have hLlt := hbl.lt
  have hold : ∀ (cs : Array Value) (b : Nat), S b → b < w.heap.size → (wr1 w L n cs).heap[b]? = w.heap[b]? := fun cs b hb hlt => by
    exact wr1_old w L n cs b hlt (fun e => hL (e ▸ hb))
  have hp1 : PathAt (wr1 w L n (h.cells pa pc ia k.len ic)) (fun _ => True) pa h.path := hd.path.keep (hold _) (fun _ _ _ => trivial)
  unfold wr1 Hd.cells at hp1
  have hpl : h.path.length ≤ 9223372036854775807 := Nat.le_trans ho.path (by decide)
  go_enter Tryd.func49, Tryd.ntmps49
  go_upto_region 2 with fail
  go_cut [0, 35] (fun _ t wx => t = .bool (startB h n) ∧ Below (w.heap.size + 1) (wr1 w L n #[.int .i64 h.kind, .string h.type, .int .i64 h.n, .int .u64 h.f, .string h.s, .int .i64 h.obj, .int .i64 h.frm, .int .i64 h.len, .int .i64 h.cap, .slice pa h.path.length pc, .slice ia k.len ic]) wx)
  case first =>
    as_aux_lemma =>
      go_wp2_with (go_at_call 62; go_must (refine (leads_any _ _ _ _ _ h.path pa pc _ hpl hp1).mono ?_); rintro e w1 ⟨rfl, hb1⟩)
      all_goals
        go_meet
        case rel =>
          refine ⟨?_, ?_⟩
          · simp_all [startB] <;> first | omega | grind
          · unfold wr1
            first
              | exact Below.refl _ _
              | exact hb1.mono (by simp [World.setCell])
  case rest =>
    obtain ⟨rfl, hbc⟩ := hcut
    clear hp1 hLc hLf
    have hlt1 : w.heap.size + 1 ≤ wc.heap.size := by have := hbc.size; rw [wr1_size] at this; exact this
    have hbox : CellsAt wc w.heap.size 0 (h.cells pa pc ia k.len ic) := (CellsAt.of_blk (wr1_new w L n _)).below hbc (by omega)
    have hblk : Blk wc L 3 #[.int .i64 (n - 1)] := (wr1_left _ hbl).below hbc (by omega)
    have hgr := wr1_grown hbc
    obtain ⟨c0, c1, c2, c3, c4, c5, c6, c7, c8, c9, c10⟩ := hbox.box
    have hownc : OwnAt wc := fun j s e => (World.cell?_of_block (w := w) (hgr.block 0 (cell_lt (hown j s e)) (fun e => hL0 (by injection e with e; exact e.symm)))).trans (hown j s e)
    by_cases hst : startB h n = true
    · have HD := Lib.hid (rightD_start (k := k) hst)
      rw [hst]
      clear hst
      go_wp2_with fail
      go_ret
      rw [HD.out]
      exact ⟨rfl, hblk, hgr⟩
    · have hst' : startB h n = false := by simpa using hst
      have HD := Lib.hid (rightD_ok (k := k) hst')
      rw [hst']
      have hk0 : 0 ≤ h.kind ∧ h.kind ≤ 9 ∧ 0 ≤ n - 1 := by
        unfold startB at hst'
        simp only [Bool.or_eq_false_iff, decide_eq_false_iff_not] at hst'
        omega
      obtain ⟨hk0, hk9, hn1⟩ := hk0
      clear hst hst' hbc hown hbl
      go_wp2_with fail
      refine (declared_any _ _ hownc).mono ?_
      rintro e w1 ⟨rfl, hb1⟩
      have hgr1 := grown_below hgr hb1
      have hbox1 := hbox.below hb1 (by omega)
      have hblk1 := hblk.below hb1 (by omega)
      have hown1 := hownc.below hb1 (Nat.le_refl _)
      have hlt2 : w.heap.size + 1 ≤ w1.heap.size := Nat.le_trans hlt1 hb1.size
      clear c0 c1 c2 c3 c4 c5 c6 c7 c8 c9 c10 hb1 hlt1 hbox hblk hownc hgr
      obtain ⟨c0, c1, c2, c3, c4, c5, c6, c7, c8, c9, c10⟩ := hbox1.box
      go_upto_if 41 with fail
      go_cut [5] (fun t wx => t = .bool (namedB h) ∧ ∃ m, wx = w1.drewN m)
      case first =>
        as_aux_lemma =>
          by_cases hk8 : h.kind < 8
          · have hoc := hown1.at_ hk0 hk8
            by_cases hz : h.kind = 0
            · have hz1 : (h.kind != 0) = false := by simpa using hz
              have hz2 : (h.kind == 0) = true := by simpa using hz
              by_cases hty : h.type.toList.isEmpty = true
              · have HN : Hid (namedB h = true) := by
                  have hs := size_zero h.type (by simpa using hty)
                  simp only [Hid, namedB, if_pos hk8, decide_eq_true hz, decide_eq_true hs]; simp
                have HZ := Lib.hid hz
                clear hz hoc
                go_wp2_with fail
                go_quiet (fail)
                go_wp2_with fail
                go_meet
                case rel => exact ⟨by rw [HN.out], _, rfl⟩
              · have HN : Hid (namedB h = false) := by
                  have hs := size_pos h.type (by simpa using hty)
                  simp only [Hid, namedB, hz, decide_eq_false hs]; simp
                have hty' : h.type.toList.isEmpty = false := by simpa using hty
                clear hty hoc hz
                go_wp2_with fail
                go_quiet (fail)
                go_wp2_with fail
                go_meet
                case rel => exact ⟨by rw [HN.out], _, rfl⟩
            · have hz1 : (h.kind != 0) = true := by simpa using hz
              have hz2 : (h.kind == 0) = false := by simpa using hz
              have hz3 : 1 ≤ h.kind := by omega
              by_cases hdb : declB h.type = true
              · have HN : Hid (namedB h = true) := by
                  simp only [Hid, namedB, if_pos hk8, decide_eq_true hz, hdb]; simp
                rw [hdb]
                clear hdb hz
                go_wp2_with fail
                go_quiet (fail)
                go_wp2_with fail
                go_meet
                case rel => exact ⟨by rw [HN.out], _, rfl⟩
              · have hdb' : declB h.type = false := by simpa using hdb
                by_cases hty : (h.type.toList == (ownOf h.kind).toList) = true
                · have HN : Hid (namedB h = true) := by
                    have := str_eq hty
                    simp only [Hid, namedB, if_pos hk8, decide_eq_true this, decide_eq_true hz]; simp
                  rw [hdb']
                  clear hz hdb hdb'
                  go_wp2_with fail
                  go_quiet (fail)
                  go_wp2_with fail
                  go_meet
                  case rel => exact ⟨by rw [HN.out], _, rfl⟩
                · have hty' : (h.type.toList == (ownOf h.kind).toList) = false := by simpa using hty
                  have HN : Hid (namedB h = false) := by
                    have := str_ne hty'
                    simp only [Hid, namedB, if_pos hk8, decide_eq_false this, decide_eq_false hz, hdb']; simp
                  rw [hdb']
                  clear hz hdb hdb' hty
                  go_wp2_with fail
                  go_quiet (fail)
                  go_wp2_with fail
                  go_meet
                  case rel => exact ⟨by rw [HN.out], _, rfl⟩
          · have HN : Hid (declB h.type = namedB h) := by simp only [Hid, namedB, if_neg hk8]
            have hk8' : 8 ≤ h.kind := by omega
            clear hk8
            go_wp2_with fail
            go_meet
            case rel => exact ⟨by rw [HN.out], 0, rfl⟩
      case rest =>
        obtain ⟨rfl, m1, rfl⟩ := hcut
        go_upto_region 7 with fail
        go_cut [5, 6] (fun _ t wx => t = .bool (ok1B h) ∧ wx = w1.drewN m1)
        case first =>
          as_aux_lemma =>
            by_cases hnb : namedB h = true
            · rw [hnb]
              have HN : Hid (ok1B h = decide (h.kind = 2 ∨ h.n = 0 ∨ (h.kind = 1 ∧ h.n = 1))) := by simp only [Hid, ok1B, hnb]; simp
              clear hnb
              go_wp2_with fail
              all_goals
                go_meet
                case rel => exact ⟨by rw [HN.out]; (first | rfl | (refine congrArg Value.bool (Bool.eq_iff_iff.2 ?_); simp only [decide_eq_true_iff, beq_iff_eq, Bool.or_eq_true, true_iff]; omega)), rfl⟩
            · have hnb' : namedB h = false := by simpa using hnb
              rw [hnb']
              have HN : Hid (ok1B h = false) := by simp only [Hid, ok1B, hnb']; simp
              clear hnb hnb'
              go_wp2_with fail
              go_meet
              case rel => exact ⟨by rw [HN.out], rfl⟩
        case rest =>
          obtain ⟨rfl, rfl⟩ := hcut
          have hff := fromBits h.f
          go_upto_region 8 with fail
          go_cut [6] (fun t wx => t = .bool (ok2B h) ∧ wx = w1.drewN m1)
          case first =>
            as_aux_lemma =>
              by_cases hnb : ok1B h = true
              · rw [hnb]
                have HN : Hid (ok2B h = (decide (h.f = 0) || (decide (h.kind = 3) && !(decide (h.f ≠ nanNo) && nanB h.f.toNat)))) := by simp only [Hid, ok2B, hnb]; simp
                clear hnb
                go_wp2_with (go_at_call 64; refine (isNaN_any _ _).mono ?_; rintro e w' ⟨rfl, rfl⟩)
                all_goals
                  go_meet
                  case rel =>
                    refine ⟨?_, rfl⟩
                    rw [HN.out]
                    by_cases e1 : h.f = 0 <;> by_cases e2 : h.kind = 3 <;> by_cases e3 : h.f = nanNo <;> unfold nanNo at e3 <;> cases hN : nanB h.f.toNat <;> first | (exfalso; omega) | (simp [e1, e2, e3, nanNo]; done)
              · have hnb' : ok1B h = false := by simpa using hnb
                rw [hnb']
                have HN : Hid (ok2B h = false) := by simp only [Hid, ok2B, hnb']; simp
                clear hnb hnb'
                go_wp2_with fail
                go_meet
                case rel => exact ⟨by rw [HN.out], rfl⟩
          case rest =>
            obtain ⟨rfl, rfl⟩ := hcut
            clear hff
            go_upto_region 9 with fail
            go_cut [6] (fun t wx => t = .bool (okB h) ∧ wx = w1.drewN m1)
            case first =>
              as_aux_lemma =>
                by_cases hnb : ok2B h = true
                · rw [hnb]
                  have HN : Hid (okB h = (decide (h.s.size = 0) || decide (h.kind = 4 ∧ h.s.size ≤ 65536))) := by simp only [Hid, okB, hnb]; simp
                  clear hnb
                  by_cases hse : h.s.toList.isEmpty = true
                  · have hs0 := Lib.hid (size_zero h.s (by simpa using hse))
                    go_wp2_with fail
                    go_meet
                    case rel => exact ⟨by rw [HN.out, decide_eq_true hs0.out]; rfl, rfl⟩
                  · have hs0 := Lib.hid (size_pos h.s (by simpa using hse))
                    have hse' : h.s.toList.isEmpty = false := by simpa using hse
                    clear hse
                    go_wp2_with fail
                    all_goals
                      go_meet
                      case rel => exact ⟨by rw [HN.out, decide_eq_false hs0.out, Bool.false_or]; (first | rfl | (refine congrArg Value.bool (Bool.eq_iff_iff.2 ?_); simp only [decide_eq_true_iff, Bool.false_eq_true, false_iff, not_and]; omega)), rfl⟩
                · have hnb' : ok2B h = false := by simpa using hnb
                  rw [hnb']
                  have HN : Hid (okB h = false) := by simp only [Hid, okB, hnb']; simp
                  clear hnb hnb'
                  go_wp2_with fail
                  go_meet
                  case rel => exact ⟨by rw [HN.out], rfl⟩
            case rest =>
              obtain ⟨rfl, rfl⟩ := hcut
              have hkl : k.len ≤ 9223372036854775807 := Nat.le_trans hd.icLe hd.icMax
              go_upto_region 10 with fail
              go_cut [6, 146] (fun _ t wx => t = .bool (!(okB h && decide (k.len = 0 ∨ h.kind = 8) && decide (k.len ≤ 30))) ∧ wx = w1.drewN m1)
              case first =>
                as_aux_lemma =>
                  by_cases hnb : okB h = true
                  · rw [hnb]
                    go_wp2_with fail
                    all_goals
                      go_meet
                      case rel => exact ⟨by rw [hnb, Bool.true_and]; (first | rfl | (refine congrArg Value.bool (Bool.eq_iff_iff.2 ?_); simp only [decide_eq_true_iff, Bool.not_eq_true', decide_eq_false_iff_not, Bool.and_eq_false_iff, true_iff, not_or]; omega)), rfl⟩
                  · have hnb' : okB h = false := by simpa using hnb
                    rw [hnb']
                    go_wp2_with fail
                    go_meet
                    case rel => exact ⟨by rw [hnb']; rfl, rfl⟩
              case rest =>
                obtain ⟨rfl, rfl⟩ := hcut
                by_cases hq : (okB h && decide (k.len = 0 ∨ h.kind = 8) && decide (k.len ≤ 30)) = false
                · have HD2 := HD.out
                  rw [if_pos hq] at HD2
                  have HE := Lib.hid HD2
                  rw [hq]
                  clear hq HD HD2
                  go_wp2_with fail
                  go_ret
                  rw [HE.out]
                  exact ⟨rfl, hblk1.drewN _, grown_drewN hgr1 _⟩
                · have hq' : (okB h && decide (k.len = 0 ∨ h.kind = 8) && decide (k.len ≤ 30)) = true := by revert hq; cases (okB h && decide (k.len = 0 ∨ h.kind = 8) && decide (k.len ≤ 30)) <;> simp
                  have HD2 := HD.out
                  rw [if_neg hq] at HD2
                  have HE := Lib.hid HD2
                  rw [hq']
                  clear hq HD HD2 hq' c0 c1 c2 c3 c4 c5 c6 c7 c8 c9 hbox1 hlt2 hold
                  go_wp2_with fail
                  go_loopg [150] k.len (fun g i wr => ∃ (j : Nat) (m : Int), j ≤ k.len ∧ i = .int .i64 j ∧ g = k.len - j ∧ w.grownBy wr (some L) ∧ Blk wr L 3 #[.int .i64 m] ∧ OwnAt wr ∧ 0 ≤ m ∧ m ≤ 1000 ∧ rightF k (n - 1) = rightF (k.drop j) m)
                  case atStart => exact ⟨0, n - 1, by omega, rfl, by omega, grown_drewN hgr1 _, hblk1.drewN _, hown1, by omega, by omega, by simp⟩
                  case round =>
                    obtain ⟨j, m, hj, rfl, rfl, hg, hb, how, hm0, hm1, hn⟩ := hrel
                    have HN := Lib.hid hn
                    clear hn c10 hgr1 hblk1 hown1
                    by_cases hlt : j < k.len
                    · obtain ⟨h', k', hget⟩ := Fo.get_lt k j hlt
                      have hks : SlAt wr S ia k := hd.kids.keep (fun b hb hlt => hg.block b hlt (fun e => hL (by injection e with e; rw [← e]; exact hb))) (fun _ h _ => h)
                      obtain ⟨b, o, rfl, hSb, pa', pc', ia', ic', hcs, hda⟩ := hks.get hget
                      obtain ⟨d0, d1, d2, d3, d4, d5, d6, d7, d8, d9, d10⟩ := hcs.eleven
                      obtain ⟨ho', hk', _⟩ := Fo.ok_get k j h' k' hk hget
                      have HDr := Lib.hid (Fo.drop_get k j h' k' hget)
                      have hLc := hb.cell 0
                      simp at hLc
                      have hLf := hb.frozen 0
                      have hLlt2 := hb.lt
                      have hih := ih j h' k' hget (wr.alloc (.cells (h'.cells pa' pc' ia' k'.len ic') 31)) S L m pa' pc' ia' ic'
                        (hda.keep (fun b _ h => Below.heap_alloc _ _ _ h) (fun _ h _ => h)) hL hL0 (how.below ((Below.refl _ _).alloc (Nat.le_refl _) _) (Nat.le_refl _)) (hb.alloc _) (by omega) (by omega)
                      unfold Hd.cells at hih
                      have HI := Lib.hid hih
                      have hle := fun hm => rightD_le (h := h') (k := k') hm0 hm
                      have HL := Lib.hid hle
                      clear hih hget hcs hda ho' hk' hks hle
                      go_wp2_with fail
                      refine HI.out.mono ?_
                      rintro e w2 ⟨rfl, hb2, hg2⟩
                      have hg3 := grown_trans (grown_alloc hg _) hg2
                      have hlt3 : wr.heap.size < w2.heap.size := by have := hg2.size; simp at this; omega
                      by_cases hr : (rightD h' k' m).1 = true
                      · have hle := HL.out hr
                        rw [hr]
                        have HR := Lib.hid hr
                        have how2 := (how.below ((Below.refl _ _).alloc (Nat.le_refl _) _) (Nat.le_refl _)).grown hg2 hL0
                        clear hr HL HI
                        go_wp2_with fail
                        go_roundg (k.len - (j + 1))
                        case measure => omega
                        case rel => exact ⟨j + 1, _, by omega, by go_num, rfl, hg3, hb2, how2, hle.1, by omega, by rw [HN.out, HDr.out, rightF_cons, if_pos HR.out]⟩
                      · have hr' : (rightD h' k' m).1 = false := by simpa using hr
                        rw [hr']
                        have HR := Lib.hid hr'
                        clear hr hr' HL HI
                        go_wp2_with fail
                        go_ret
                        have e : rightD h k n = (false, (rightD h' k' m).2) := by rw [HE.out, HN.out, HDr.out, rightF_cons, if_neg (by rw [HR.out]; simp)]
                        rw [e]
                        exact ⟨rfl, hb2, hg3⟩
                    · have hjl : j = k.len := by omega
                      subst hjl
                      go_wp2_with fail
                      go_ret
                      have e : rightD h k n = (true, m) := by rw [HE.out, HN.out, Fo.drop_len k _ (Nat.le_refl _)]; rfl
                      rw [e]
                      exact ⟨rfl, hb, hg⟩

theorem right_all : ∀ (f : Fo), f.ok → ∀ i h k, f.get i = some (h, k) → RightC h k
  | .nil, _, i, h, k, e => by simp [Fo.get] at e
  | .cons h' k' r, o, 0, h, k, e => by
    simp only [Fo.get, Option.some.injEq, Prod.mk.injEq] at e
    obtain ⟨rfl, rfl⟩ := e
    exact right_one _ _ o.1 o.2.1 (right_all k' o.2.1)
  | .cons h' k' r, o, i + 1, h, k, e => right_all r o.2.2.1 i h k e
theorem right_any (h : Hd) (k : Fo) (ho : h.ok) (hk : k.ok) : RightC h k := right_one h k ho hk (right_all k hk)

/-- What value.Right answers. -/
def rightB (h : Hd) (k : Fo) : Bool := (rightD h k 100).1
set_option maxHeartbeats 400000 in
theorem Right_any (h : Hd) (k : Fo) (ho : h.ok) (hk : k.ok) (w : World) (S : Nat → Prop) (pa : Option Addr) (pc : Nat) (ia : Option Addr) (ic : Nat) (hd : DatAt w S h k pa pc ia ic) (hown : OwnAt w) :
    Calls Tryd.prog 33 #[.agg (h.cells pa pc ia k.len ic)] w fun e w' => e = .returned (.bool (rightB h k)) ∧ Below w.heap.size w w' := by
  have hz : 0 < w.heap.size := cell_lt (hown 0 _ rfl)
  unfold Hd.cells
  go_enter Tryd.func33, Tryd.ntmps33
  go_wp2_with fail
  have hr := right_any h k ho hk ((w.alloc (.cells (h.cells pa pc ia k.len ic) 31)).alloc (.cells #[.int .i64 100] 3)) (fun b => b < w.heap.size) (w.heap.size + 1) 100 pa pc ia ic
    (hd.keep (fun b _ h => (Below.heap_alloc _ _ _ (by simp; omega)).trans (Below.heap_alloc _ _ _ h)) (fun b _ h => h)) (by omega) (by omega)
    (hown.below (((Below.refl _ _).alloc (Nat.le_refl _) _).alloc (by simp) _) (Nat.le_refl _)) (by have := Blk.new (w.alloc (.cells (h.cells pa pc ia k.len ic) 31)) 3 #[.int .i64 100]; simpa using this) (by omega) (by omega)
  unfold Hd.cells at hr
  refine hr.mono ?_
  rintro e w1 ⟨rfl, _, hg⟩
  have hb : Below w.heap.size w w1 := (((Below.refl _ _).alloc (Nat.le_refl _) _).alloc (by simp) _).trans ⟨hg.os, hg.tape, hg.output, hg.size, fun b hb => hg.block b (by simp; omega) (fun e => by injection e; omega)⟩
  clear hr hg
  go_wp2_with fail
  go_ret
  exact ⟨rfl, hb⟩
end Go.Proofs.YtlhfickniegooaaDoor
