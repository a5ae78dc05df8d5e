/-
  Contracts of the smallest functions of package lex and of its reference: letter, digit, wrong, sixteenth, six. Written by an AI agent.
-/
import Derived.Test.YtpggcmlddmckcaaDoorProg
import Derived.Test.YtpggcmlddmckcaaDoorLx
import Derived.Test.YtpggcmlddmckcaaDoorQ
import Derived.WalkKit
import Derived.Below
import Derived.WalkLawsBesides
import Derived.WalkSpells
import Derived.Deep.LoopGhost
import Derived.Deep.QuietTactic
import Derived.BigQuiet
import Derived.Lib.Hide
import Derived.Lib.QuietBelow
import Derived.Outline
namespace Go.Proofs.YtpggcmlddmckcaaDoor
open Go.RowKit

theorem ret_int {k : IntKind} {a b : Int} (h : a = b) : Ending.returned (.int k a) = .returned (.int k b) := by rw [h]
theorem ret_bool {a b : Bool} (h : a = b) : Ending.returned (.bool a) = .returned (.bool b) := by rw [h]

/-- A list of bytes as a string. -/
def bs (l : List UInt8) : ByteArray := ⟨l.toArray⟩
theorem bs_list (l : List UInt8) : (bs l).data.toList = l := rfl
theorem bs_of (s : ByteArray) : bs s.data.toList = s := rfl
theorem bs_toList (l : List UInt8) : (bs l).toList = l := Lib.toList_data _
theorem bs_size (l : List UInt8) : (bs l).size = l.length := by simp [bs, ByteArray.size]
theorem bs_ext (l : List UInt8) (a b : Nat) : (bs l).extract a b = bs ((l.drop a).take (b - a)) := by
  unfold bs
  rw [ByteArray.extract_mk]

def letN (c : Int) : Bool := decide ((97 ≤ c ∧ c ≤ 122) ∨ (65 ≤ c ∧ c ≤ 90) ∨ c = 95)
def digN (c : Int) : Bool := decide (48 ≤ c ∧ c ≤ 57)
theorem letN_of (c : UInt8) : letN (c.toNat : Int) = isLet c := by unfold letN isLet; rw [Bool.eq_iff_iff, decide_eq_true_iff, decide_eq_true_iff]; omega
theorem digN_of (c : UInt8) : digN (c.toNat : Int) = isDig c := by unfold digN isDig; rw [Bool.eq_iff_iff, decide_eq_true_iff, decide_eq_true_iff]; omega
theorem letN_high {c : Int} (h : 128 ≤ c) : letN c = false := by unfold letN; rw [decide_eq_false_iff_not]; omega
theorem digN_high {c : Int} (h : 128 ≤ c) : digN c = false := by unfold digN; rw [decide_eq_false_iff_not]; omega

theorem letter_any (c : Int) (w : World) : Calls Tryd.prog 41 #[.int .i32 c] w fun e w' => e = .returned (.bool (letN c)) ∧ w = w' := by
  go_enter Tryd.func41, Tryd.ntmps41
  go_wp2
  all_goals
    go_ret
    refine ⟨ret_bool ?_, rfl⟩
    unfold letN
    rw [Bool.eq_iff_iff]
    simp
    try omega
theorem digit_any (c : Int) (w : World) : Calls Tryd.prog 42 #[.int .i32 c] w fun e w' => e = .returned (.bool (digN c)) ∧ w = w' := by
  go_enter Tryd.func42, Tryd.ntmps42
  go_wp2
  all_goals
    go_ret
    refine ⟨ret_bool ?_, rfl⟩
    unfold digN
    rw [Bool.eq_iff_iff]
    simp
    try omega
theorem rletter_any (c : Int) (w : World) : Calls Tryd.prog 43 #[.int .u8 c] w fun e w' => e = .returned (.bool (letN c)) ∧ w = w' := by
  go_enter Tryd.func43, Tryd.ntmps43
  go_wp2
  all_goals
    go_ret
    refine ⟨ret_bool ?_, rfl⟩
    unfold letN
    rw [Bool.eq_iff_iff]
    simp
    try omega
theorem rdigit_any (c : Int) (w : World) : Calls Tryd.prog 44 #[.int .u8 c] w fun e w' => e = .returned (.bool (digN c)) ∧ w = w' := by
  go_enter Tryd.func44, Tryd.ntmps44
  go_wp2
  all_goals
    go_ret
    refine ⟨ret_bool ?_, rfl⟩
    unfold digN
    rw [Bool.eq_iff_iff]
    simp
    try omega
theorem wrong_any (c n : Int) (w : World) : Calls Tryd.prog 33 #[.int .i64 c, .int .i64 n] w fun e w' => e = .returned (.pointer (some ⟨w.heap.size, 0, none⟩)) ∧ w.alloc (.cells #[.int .i64 c, .int .i64 n, .string ⟨#[]⟩] 26) = w' := by
  go_enter Tryd.func33, Tryd.ntmps33
  go_wp2
  go_ret
  exact ⟨rfl, rfl⟩
end Go.Proofs.YtpggcmlddmckcaaDoor
