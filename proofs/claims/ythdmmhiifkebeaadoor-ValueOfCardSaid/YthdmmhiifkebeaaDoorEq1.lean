/-
  Contracts of the reference's one, rank; Equal begun. Written by an AI agent.
-/
import Derived.Test.YthdmmhiifkebeaaDoorVal5
import Derived.Test.YthdmmhiifkebeaaDoorRefN
import Derived.Test.YthdmmhiifkebeaaDoorQT
namespace Go.Proofs.YthdmmhiifkebeaaDoor
open Go.RowKit Go.Sort

set_option maxRecDepth 100000 in
set_option maxHeartbeats 1000000 in
theorem rone_any (h h' : Hd) (n n' : Nat) (pa : Option Addr) (pc : Nat) (ia : Option Addr) (ic : Nat) (pa' : Option Addr) (pc' : Nat) (ia' : Option Addr) (ic' : Nat) (w : World) :
    Calls Tryd.prog 62 #[.agg (h.cells pa pc ia n ic), .agg (h'.cells pa' pc' ia' n' ic')] w fun e w' => e = .returned (.bool (oneB h h')) ∧ Below w.heap.size w w' := by
  unfold Hd.cells
  by_cases hk : h.kind = h'.kind
  · have HO : Hid (oneB h h' = (h.type.toList == h'.type.toList)) := Lib.hid (by rw [beq_str, oneB]; simp [hk])
    have hkk : (h.kind == h'.kind) = true := by simpa using hk
    clear hk
    go_enter Tryd.func62, Tryd.ntmps62
    go_wp2_with fail
    go_ret
    exact ⟨ret_bool HO.out.symm, by ((repeat' (first | exact Below.refl _ _ | assumption | (refine bl_alloc ?_ _) | (refine Below.drew ?_) | (refine below_drewN ?_ _) | (refine Below.setCell ?_ ?_ _) | (refine bl_trans ?_ (by assumption)))) <;> first | omega | (simp; done) | (simp; omega))⟩
  · have HO : Hid (oneB h h' = false) := Lib.hid (by rw [oneB]; simp [hk])
    have hkk : (h.kind == h'.kind) = false := by simpa using hk
    clear hk
    go_enter Tryd.func62, Tryd.ntmps62
    go_wp2_with fail
    go_ret
    exact ⟨ret_bool HO.out.symm, by ((repeat' (first | exact Below.refl _ _ | assumption | (refine bl_alloc ?_ _) | (refine Below.drew ?_) | (refine below_drewN ?_ _) | (refine Below.setCell ?_ ?_ _) | (refine bl_trans ?_ (by assumption)))) <;> first | omega | (simp; done) | (simp; omega))⟩

theorem mask63 (x : Nat) (h : x < 18446744073709551616) : bits .and .u64 (x : Int) 9223372036854775807 = ((x % 9223372036854775808 : Nat) : Int) := by
  have := bits_and_u64_nat x 9223372036854775807 h (by decide)
  rw [show ((9223372036854775807 : Nat) : Int) = 9223372036854775807 from rfl] at this
  rw [this]
  congr 1
  exact Nat.and_two_pow_sub_one_eq_mod x 63
set_option maxHeartbeats 1000000 in
theorem rrank_any (f : Int) (h0 : 0 ≤ f) (h1 : f ≤ 18446744073709551615) (w : World) :
    Calls Tryd.prog 65 #[.int .u64 f] w fun e w' => e = .returned (.int .i64 (placeF f.toNat)) ∧ w = w' := by
  obtain ⟨n, rfl⟩ : ∃ n : Nat, f = n := ⟨f.toNat, by omega⟩
  have HX := Lib.hid (mask63 n (by omega))
  go_enter Tryd.func65, Tryd.ntmps65
  go_wp2
  all_goals
    rename_i hb
    go_ret
    refine ⟨ret_int ?_, rfl⟩
    rw [HX.out]
    have hp : placeF ((n : Int).toNat) = if n / 9223372036854775808 % 2 = 1 then -((n % 9223372036854775808 : Nat) : Int) else ((n % 9223372036854775808 : Nat) : Int) := by rw [Int.toNat_natCast]; rfl
    rw [hp]
    simp at hb
  · rw [if_pos (by omega)]
    unfold wrap64
    omega
  · rw [if_neg (by omega)]
    unfold wrap64
    omega
theorem drop_dec {l m : List Int} {j : Nat} {x y : Int} (hx : l[j]? = some x) (hy : m[j]? = some y) : decide (l.drop j = m.drop j) = ((x == y) && decide (l.drop (j + 1) = m.drop (j + 1))) := by
  obtain ⟨hj1, rfl⟩ := List.getElem?_eq_some_iff.1 hx
  obtain ⟨hj2, rfl⟩ := List.getElem?_eq_some_iff.1 hy
  rw [List.drop_eq_getElem_cons hj1, List.drop_eq_getElem_cons hj2, Bool.eq_iff_iff]
  simp only [decide_eq_true_iff, Bool.and_eq_true, beq_iff_eq, List.cons.injEq]
theorem rrank_below (f : Int) (h0 : 0 ≤ f) (h1 : f ≤ 18446744073709551615) (w : World) :
    Calls Tryd.prog 65 #[.int .u64 f] w fun e w' => e = .returned (.int .i64 (placeF f.toNat)) ∧ Below w.heap.size w w' :=
  (rrank_any f h0 h1 w).mono fun _ _ ⟨h1, h2⟩ => ⟨h1, h2 ▸ Below.refl _ _⟩
end Go.Proofs.YthdmmhiifkebeaaDoor
