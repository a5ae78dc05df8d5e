/-
  Contract of the reference's IsNaN. Written by an AI agent.
-/
import Derived.Test.YthdmmhiifkebeaaDoorRef1
import Derived.Test.YthdmmhiifkebeaaDoorFb
import Derived.Laws.Bits64b
namespace Go.Proofs.YthdmmhiifkebeaaDoor
open Go.RowKit Go.Sort
theorem mask11 (x : Nat) (h : x < 18446744073709551616) : bits .and .u64 (x : Int) 2047 = ((x % 2048 : Nat) : Int) := by
  have := bits_and_u64_nat x 2047 h (by decide)
  rw [show ((2047 : Nat) : Int) = 2047 from rfl] at this
  rw [this]
  congr 1
  exact Nat.and_two_pow_sub_one_eq_mod x 11
set_option maxHeartbeats 400000 in
theorem risNaN_any (f : Int) (h0 : 0 ≤ f) (h1 : f ≤ 18446744073709551615) (w : World) :
    Calls Tryd.prog 64 #[.int .u64 f] w fun e w' => e = .returned (.bool (nanB f.toNat)) ∧ w = w' := by
  obtain ⟨n, rfl⟩ : ∃ n : Nat, f = n := ⟨f.toNat, by omega⟩
  have hm := mask11 (n / 4503599627370496) (by omega)
  have hx : bits .and .u64 ((n : Int) / 4503599627370496) 2047 = ((n / 4503599627370496 % 2048 : Nat) : Int) := by rw [← hm]; congr 1
  have HX := Lib.hid hx
  have hwr : IntKind.u64.wrap ((n : Int) * 4096) = ((n * 4096 % 18446744073709551616 : Nat) : Int) := by simp [IntKind.wrap, IntKind.signed, IntKind.bits]
  have HW := Lib.hid hwr
  clear hx hm hwr
  go_enter Tryd.func64, Tryd.ntmps64
  go_wp2
  · go_ret
    refine ⟨ret_bool ?_, rfl⟩
    rename_i hb
    rw [HX.out] at hb
    rw [HW.out, nanB, Bool.eq_iff_iff, bne_iff_ne, decide_eq_true_iff]
    simp only [Int.toNat_natCast]
    omega
  · go_ret
    refine ⟨ret_bool ?_, rfl⟩
    rename_i hb
    rw [HX.out] at hb
    rw [nanB]
    symm
    rw [decide_eq_false_iff_not]
    simp only [Int.toNat_natCast]
    omega
end Go.Proofs.YthdmmhiifkebeaaDoor
