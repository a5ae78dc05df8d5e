/-
  Contracts of slices.Index and slices.Contains at strings (as in the seat of package value). For every list of strings that lies in memory. Written by an AI agent.
-/
import Derived.Test.YtpggcmlddmckcaaDoorLb1
import Derived.Lib.Strings
namespace Go.Proofs.YtpggcmlddmckcaaDoor
open Go.RowKit

theorem beq_str (a b : ByteArray) : (a.toList == b.toList) = decide (a = b) := by
  rw [Lib.toList_data, Lib.toList_data, Bool.eq_iff_iff, beq_iff_eq, decide_eq_true_iff]
  exact ⟨fun h => by cases a; cases b; simp only [ByteArray.mk.injEq]; exact Array.ext' h, fun h => by rw [h]⟩
theorem str_eq {a b : ByteArray} (h : (a.toList == b.toList) = true) : a = b := by rw [beq_str] at h; exact of_decide_eq_true h
theorem str_ne {a b : ByteArray} (h : (a.toList == b.toList) = false) : a ≠ b := by rw [beq_str] at h; exact of_decide_eq_false h

def memB (v : ByteArray) (l : List ByteArray) : Bool := l.any fun x => decide (x = v)
theorem memB_iff (v : ByteArray) (l : List ByteArray) : memB v l = true ↔ v ∈ l := by simp [memB, List.any_eq_true]

/-- A row of strings, read through a slice's address. -/
def StrsAt (w : World) (pa : Option Addr) (l : List ByteArray) : Prop :=
  l = [] ∨ ∃ b o, pa = some ⟨b, o, none⟩ ∧ ∀ (j : Nat) (x : ByteArray), l[j]? = some x → w.cell? ⟨b, o + j, none⟩ = some (.string x)
theorem StrsAt.get {w : World} {pa : Option Addr} {l : List ByteArray} (h : StrsAt w pa l) {j : Nat} {x : ByteArray} (e : l[j]? = some x) :
    ∃ b o, pa = some ⟨b, o, none⟩ ∧ w.cell? ⟨b, o + j, none⟩ = some (.string x) := by
  rcases h with rfl | ⟨b, o, h1, h3⟩
  · simp at e
  · exact ⟨b, o, h1, h3 j x e⟩

set_option maxHeartbeats 400000 in
theorem sIndex_any (l : List ByteArray) (v : ByteArray) (pa : Option Addr) (pc : Nat) (w : World) (hl : l.length ≤ 9223372036854775807) (hp : StrsAt w pa l) :
    Calls Tryd.prog 57 #[.slice pa l.length pc, .string v] w fun e w' => (∃ i : Int, e = .returned (.int .i64 i) ∧ (0 ≤ i ↔ v ∈ l)) ∧ w = w' := by
  go_enter Tryd.func57, Tryd.ntmps57
  go_wp2
  go_loopg [8] l.length (fun g i wr => ∃ k : Nat, k ≤ l.length ∧ i = .int .i64 k ∧ g = l.length - k ∧ w = wr ∧ ∀ j y, j < k → l[j]? = some y → v ≠ y)
  case atStart => exact ⟨0, by omega, rfl, by omega, rfl, by omega⟩
  case round =>
    obtain ⟨k, hk, rfl, rfl, rfl, hn⟩ := hrel
    have HN := Lib.hid hn
    clear hn
    by_cases hlt : k < l.length
    · obtain ⟨x, hx⟩ : ∃ x, l[k]? = some x := ⟨_, List.getElem?_eq_getElem hlt⟩
      obtain ⟨b, o, rfl, hc⟩ := hp.get hx
      have HX := Lib.hid hx
      clear hx
      go_wp2
      · go_ret
        have e := str_eq (by assumption)
        exact ⟨⟨k, rfl, fun _ => by rw [e]; exact List.mem_of_getElem? HX.out, fun _ => by omega⟩, rfl⟩
      · go_roundg (l.length - (k + 1))
        case measure => omega
        case rel =>
          have e := str_ne (by assumption)
          refine ⟨k + 1, by omega, by go_num, rfl, rfl, fun j y hj hy => ?_⟩
          by_cases hjk : j = k
          · subst hjk
            rw [HX.out] at hy
            injection hy with hy
            subst hy
            exact e
          · exact HN.out j y (by omega) hy
    · have hkl : k = l.length := by omega
      subst hkl
      go_wp2
      go_ret
      refine ⟨⟨-1, rfl, fun h => by omega, fun h => ?_⟩, rfl⟩
      obtain ⟨j, hj, e⟩ := List.mem_iff_getElem.1 h
      exact absurd e.symm (HN.out j _ hj (List.getElem?_eq_getElem hj))

set_option maxHeartbeats 400000 in
theorem contains_any (l : List ByteArray) (v : ByteArray) (pa : Option Addr) (pc : Nat) (w : World) (hl : l.length ≤ 9223372036854775807) (hp : StrsAt w pa l) :
    Calls Tryd.prog 40 #[.slice pa l.length pc, .string v] w fun e w' => e = .returned (.bool (memB v l)) ∧ w = w' := by
  go_enter Tryd.func40, Tryd.ntmps40
  go_wp2_with (go_at_call 57; refine (sIndex_any _ _ _ _ _ hl hp).mono ?_; rintro e w' ⟨⟨i, rfl, hi⟩, rfl⟩)
  go_ret
  exact ⟨ret_bool (Bool.eq_iff_iff.2 (by rw [decide_eq_true_iff, memB_iff]; exact hi)), rfl⟩
end Go.Proofs.YtpggcmlddmckcaaDoor
