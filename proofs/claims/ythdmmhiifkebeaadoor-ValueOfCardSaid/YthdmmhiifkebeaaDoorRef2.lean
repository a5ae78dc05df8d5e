/-
  Contracts of the reference's own, Declared, typed. Written by an AI agent.
-/
import Derived.Test.YthdmmhiifkebeaaDoorRef1
import Derived.Test.YthdmmhiifkebeaaDoorVal7
namespace Go.Proofs.YthdmmhiifkebeaaDoor
open Go.RowKit Go.Sort

def namesC : Array Value := #[.string ⟨#[98, 111, 111, 108]⟩, .string ⟨#[105, 110, 116]⟩, .string ⟨#[102, 108, 111, 97, 116]⟩, .string ⟨#[116, 101, 120, 116]⟩, .string ⟨#[108, 105, 115, 116]⟩, .string ⟨#[109, 97, 112]⟩, .string ⟨#[102, 117, 110, 99]⟩]
def names7 : List ByteArray := [⟨#[98, 111, 111, 108]⟩, ⟨#[105, 110, 116]⟩, ⟨#[102, 108, 111, 97, 116]⟩, ⟨#[116, 101, 120, 116]⟩, ⟨#[108, 105, 115, 116]⟩, ⟨#[109, 97, 112]⟩, ⟨#[102, 117, 110, 99]⟩]
def names3 : List ByteArray := [⟨#[97, 110, 121]⟩, ⟨#[110, 105, 108]⟩, ⟨#[115, 116, 114, 117, 99, 116]⟩]
theorem rown_any (w : World) : Calls Tryd.prog 120 #[] w fun e w' => e = .returned (.slice (some ⟨w.heap.size, 0, none⟩) 7 7) ∧ w.alloc (.cells namesC 9) = w' := by
  go_enter Tryd.func120, Tryd.ntmps120
  go_wp2_with fail
  go_ret
  exact ⟨rfl, rfl⟩

theorem info_str : (Tryd.prog.info? 9).map (fun i => (i.zero, i.size, i.bytes)) = some (some (.string ⟨#[]⟩), 1, 16) := by kernel_rfl
theorem own_strs {w : World} {B n : Nat} {v : Value} {l : List ByteArray} (h : w.ownsRow B 9 1 v n (l.map Value.string)) : ∃ pa pc, v = .slice pa l.length pc ∧ StrsAt w pa l ∧ l.length ≤ pc ∧ pc ≤ 9223372036854775807 := by
  have hn : n = l.length := by have := h.1; simpa using this.symm
  subst hn
  rcases h.2 with ⟨rfl, h0⟩ | ⟨g, cap, cur, rfl, hg, hh, hc, hm, hs, ht⟩
  · exact ⟨none, 0, by rw [h0], .inl (List.eq_nil_of_length_eq_zero h0), by omega, by omega⟩
  · refine ⟨_, cap, rfl, .inr ⟨g, 0, rfl, fun j x hx => ?_⟩, hc, by unfold maxLen at hm; exact hm⟩
    rw [cell_of_row w g _ cur _ _ hh, Nat.zero_add]
    have h1 : (cur.toList.take (l.length * 1))[j]? = some (.string x) := by rw [ht]; simp [hx]
    rw [List.getElem?_take] at h1
    split at h1
    · simpa using h1
    · cases h1

def charB (c : Int) : Bool := decide ((97 ≤ c ∧ c ≤ 122) ∨ (65 ≤ c ∧ c ≤ 90) ∨ (48 ≤ c ∧ c ≤ 57) ∨ c = 95)
def firstB (s : ByteArray) : Bool := decide (s.size ≠ 0 ∧ s.size ≤ 40) && (match s.data.toList with | [] => false | b :: _ => decide ((b.toNat : Int) < 48 ∨ 57 < (b.toNat : Int)))
def charsB (l : List UInt8) : Bool := l.all fun b => charB (b.toNat : Int)
def names10 : List ByteArray := names7 ++ names3
def noneOf (s : ByteArray) (l : List ByteArray) : Bool := l.all fun x => decide (s ≠ x)

set_option maxRecDepth 100000 in
theorem char_bad : ∀ b : Fin 256, charB (b.val : Int) = !(!digB (b.val : Int) && !letB (b.val : Int) && decide ((b.val : Int) ≠ 95)) := by decide +kernel
theorem good_tail : ∀ (l : List UInt8) (i : Nat), 0 < i → goodB i l = charsB l
  | [], _, _ => rfl
  | b :: r, i, hi => by
    have h := char_bad ⟨b.toNat, by have := b.toNat_lt; omega⟩
    simp only at h
    rw [goodB, good_tail r (i + 1) (by omega)]
    unfold charsB
    rw [List.all_cons, h, badB, decide_eq_false (show ¬ i = 0 by omega)]
    simp
theorem good_head (b : UInt8) (r : List UInt8) : goodB 0 (b :: r) = (decide ((b.toNat : Int) < 48 ∨ 57 < (b.toNat : Int)) && charsB (b :: r)) := by
  have h := char_bad ⟨b.toNat, by have := b.toNat_lt; omega⟩
  simp only at h
  rw [goodB, good_tail r 1 (by omega)]
  show _ = (_ && List.all _ _)
  rw [List.all_cons, h, badB, digB]
  by_cases hd : 48 ≤ (b.toNat : Int) ∧ (b.toNat : Int) ≤ 57
  · rw [decide_eq_true hd, decide_eq_false (show ¬ ((b.toNat : Int) < 48 ∨ 57 < (b.toNat : Int)) by omega)]; simp
  · rw [decide_eq_false hd, decide_eq_true (show ((b.toNat : Int) < 48 ∨ 57 < (b.toNat : Int)) by omega)]; simp [charsB]
theorem decl_law (s : ByteArray) : declB s = (firstB s && charsB s.data.toList && noneOf s names10) := by
  have hn : noneOf s names10 = (!memB s ownL && !memB s [⟨#[97, 110, 121]⟩, ⟨#[115, 116, 114, 117, 99, 116]⟩]) := by
    unfold noneOf names10 names7 names3 memB ownL
    rw [Bool.eq_iff_iff]
    simp
    grind
  rw [hn, declB, firstB]
  cases hl : s.data.toList with
  | nil =>
    have : s.size = 0 := by
      have := congrArg List.length hl
      simpa using this
    simp [this]
  | cons b r =>
    rw [good_head]
    simp only [← Bool.and_assoc]
    rw [Bool.eq_iff_iff]
    simp only [Bool.and_eq_true]
    grind
end Go.Proofs.YthdmmhiifkebeaaDoor
