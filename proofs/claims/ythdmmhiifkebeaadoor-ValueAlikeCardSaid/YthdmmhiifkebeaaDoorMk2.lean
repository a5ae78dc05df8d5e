/-
  Contract of the law's own (*Maker).float: the bits of some float; a NaN is the one NaN. Written by an AI agent.
-/
import Derived.Test.YthdmmhiifkebeaaDoorMk1
import Derived.Test.YthdmmhiifkebeaaDoorRefN
import Derived.Laws.Bits64b
namespace Go.Proofs.YthdmmhiifkebeaaDoor
open Go.RowKit Go.Sort

theorem mask62 (x : Nat) (h : x < 18446744073709551616) : bits .and .u64 (x : Int) 4611686018427387903 = ((x % 4611686018427387904 : Nat) : Int) := by
  have := bits_and_u64_nat x 4611686018427387903 h (by decide)
  rw [show ((4611686018427387903 : Nat) : Int) = 4611686018427387903 from rfl] at this
  rw [this]
  congr 1
  exact Nat.and_two_pow_sub_one_eq_mod x 62
def okF64 (f : Int) : Prop := 0 ≤ f ∧ f ≤ 18446744073709551615 ∧ (f = 9221120237041090561 ∨ nanB f.toNat = false)
def FloatPost (g B : Nat) (a : Int) (w : World) (e : Ending) (w' : World) : Prop := ∃ f : Int, okF64 f ∧ e = .returned (.int .u64 f) ∧ (∃ a', a ≤ a' ∧ a' ≤ a + 2 ∧ Mk w' g B a') ∧ w.grownBy w' (some g)
def floats : Array Value := #[.int .u64 0, .int .u64 9223372036854775808, .int .u64 4607182418800017408, .int .u64 13830554455654793216, .int .u64 9218868437227405312, .int .u64 18442240474082181120, .int .u64 9221120237041090561, .int .u64 1, .int .u64 4613937818241073152]
theorem floats_ok (j : Nat) (hj : j < 9) : ∃ f : Int, floats[j]? = some (.int .u64 f) ∧ okF64 f := by
  have h : j = 0 ∨ j = 1 ∨ j = 2 ∨ j = 3 ∨ j = 4 ∨ j = 5 ∨ j = 6 ∨ j = 7 ∨ j = 8 := by omega
  rcases h with rfl | rfl | rfl | rfl | rfl | rfl | rfl | rfl | rfl
  all_goals exact ⟨_, rfl, by decide, by decide, by first | exact .inr (by decide) | exact .inl rfl⟩
theorem grown_below_left {w w1 w2 : World} {g : Nat} (hb : Below w.heap.size w w1) (h : w1.grownBy w2 (some g)) : w.grownBy w2 (some g) :=
  ⟨h.os.trans hb.os, h.tape.trans hb.tape, h.output.trans hb.output, Nat.le_trans hb.size h.size, fun k hk hne => (h.block k (Nat.lt_of_lt_of_le hk hb.size) hne).trans (hb.block k hk)⟩

set_option maxRecDepth 100000 in
set_option maxHeartbeats 800000 in
theorem float_any (g B : Nat) (a : Int) (ha : a ≤ 4611686018427387900) (w : World) (hm : Mk w g B a) :
    Calls Tryd.prog 74 #[.pointer (some ⟨g, 0, none⟩)] w (FloatPost g B a w) := by
  have hg := hm.lt
  go_enter Tryd.func74, Tryd.ntmps74
  go_upto_region 1 with fail
  go_cut [3] (fun t wx => t = .slice (some ⟨w.heap.size, 0, none⟩) 9 9 ∧ wx = w.alloc (.cells floats 22))
  case first =>
    go_wp2_with fail
    go_meet
    case rel => exact ⟨rfl, rfl⟩
  case rest =>
  obtain ⟨rfl, rfl⟩ := hcut
  have hb0 : Below w.heap.size w (w.alloc (.cells floats 22)) := by ((repeat' (first | exact Below.refl _ _ | assumption | (refine bl_alloc ?_ _) | (refine Below.drew ?_) | (refine below_drewN ?_ _) | (refine Below.setCell ?_ ?_ _) | (refine bl_trans ?_ (by assumption)))) <;> first | omega | (simp; done) | (simp; omega))
  have hm1 := hm.below hb0
  have hblk := Blk.new w 22 floats
  generalize w.alloc (.cells floats 22) = w1 at hb0 hm1 hblk ⊢
  go_wp2_with fail
  refine (next_any 12 (by decide) (by decide) g B a (by omega) w1 hm1).mono ?_
  rintro e w2 ⟨c, hc0, hc1, rfl, hm2, hg2⟩
  have hblk2 := hblk.grown hg2 (by simp; omega)
  have hga2 := grown_below_left hb0 hg2
  have hcut2 : c < 9 ∨ 9 ≤ c := by omega
  rcases hcut2 with hlt | hge
  · obtain ⟨j, rfl⟩ : ∃ j : Nat, c = j := ⟨c.toNat, by omega⟩
    obtain ⟨f, hf, hfo⟩ := floats_ok j (by omega)
    have hcell : w2.cell? ⟨w.heap.size, j, none⟩ = some (.int .u64 f) := (hblk2.cell j).trans hf
    have hj9 : (j : Int) < 9 := by omega
    clear hlt hf
    go_wp2_with fail
    go_ret
    exact ⟨f, hfo, rfl, ⟨a + 1, by omega, by omega, hm2⟩, hga2⟩
  · go_upto_region 5 with fail
    go_cut [5] (fun t wx => (∃ n : Nat, n < 18446744073709551616 ∧ t = .int .u64 n) ∧ Mk wx g B (a + 1 + 1) ∧ w.grownBy wx (some g))
    case first =>
      go_wp2_with fail
      refine (raw_any g B (a + 1) (by omega) w2 hm2).mono ?_
      rintro e w3 ⟨x, hx, rfl, hm3, hg3⟩
      have hga3 := grown_trans hga2 hg3
      have hq : ∃ n : Nat, n < 18446744073709551616 ∧ Value.int .u64 (IntKind.u64.wrap x) = .int .u64 n := by
        refine ⟨(IntKind.u64.wrap x).toNat, ?_, ?_⟩
        · simp [IntKind.wrap, IntKind.signed, IntKind.bits]; omega
        · rw [Int.toNat_of_nonneg (by simp [IntKind.wrap, IntKind.signed, IntKind.bits]; omega)]
      have HQ := Lib.hid hq
      clear hq hm2 hg3 hblk2
      go_wp2_with fail
      go_meet
      case rel => exact ⟨HQ.out, hm3, hga3⟩
    case rest =>
    obtain ⟨⟨n, hnl, rfl⟩, hm3, hga3⟩ := hcut
    have hm3' : ∃ a', a ≤ a' ∧ a' ≤ a + 2 ∧ Mk wc g B a' := ⟨a + 1 + 1, by omega, by omega, hm3⟩
    clear hm2 hm3 hg2 hga2 hblk2
    have hx := mask11 (n / 4503599627370496) (by omega)
    have hx2 : bits .and .u64 ((n : Int) / 4503599627370496) 2047 = ((n / 4503599627370496 % 2048 : Nat) : Int) := by rw [← hx]; congr 1
    have HX := Lib.hid hx2
    have hy := mask62 (n / 2) (by omega)
    have hy2 : bits .and .u64 ((n : Int) / 2) 4611686018427387903 = ((n / 2 % 4611686018427387904 : Nat) : Int) := by rw [← hy]; congr 1
    have HY := Lib.hid hy2
    have H1 : Hid (okF64 ((n / 2 % 4611686018427387904 : Nat) : Int)) := by
      refine ⟨by omega, by omega, .inr ?_⟩
      unfold nanB
      rw [decide_eq_false_iff_not]
      simp only [Int.toNat_natCast]
      omega
    have H2 : Hid (¬ n / 4503599627370496 % 2048 = 2047 → okF64 (n : Int)) := fun hne => by
      refine ⟨by omega, by omega, .inr ?_⟩
      unfold nanB
      rw [decide_eq_false_iff_not]
      simp only [Int.toNat_natCast]
      omega
    clear hx hx2 hy hy2
    go_wp2_with fail
    · go_ret
      exact ⟨_, H1.out, by rw [HY.out]; rfl, hm3', hga3⟩
    · rename_i hb
      go_ret
      refine ⟨n, H2.out (fun e => ?_), rfl, hm3', hga3⟩
      rw [HX.out, e] at hb
      revert hb
      decide
end Go.Proofs.YthdmmhiifkebeaaDoor
