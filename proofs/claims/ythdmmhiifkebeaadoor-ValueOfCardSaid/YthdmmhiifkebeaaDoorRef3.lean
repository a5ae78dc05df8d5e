/-
  Contract of the reference's Declared and typed. Written by an AI agent.
-/
import Derived.Test.YthdmmhiifkebeaaDoorRef2
import Derived.Test.YthdmmhiifkebeaaDoorVal4
import Derived.Deep.CutBlock
namespace Go.Proofs.YthdmmhiifkebeaaDoor
open Go.RowKit Go.Sort

theorem first_zero (s : ByteArray) (h : s.size = 0) : firstB s = false := by simp [firstB, h]
theorem first_long (s : ByteArray) (h : 40 < s.size) : firstB s = false := by simp [firstB]; omega
theorem first_mid (s : ByteArray) (h0 : 0 < s.size) (h : s.size ≤ 40) : firstB s = decide ((s[0].toNat : Int) < 48 ∨ 57 < (s[0].toNat : Int)) := by
  unfold firstB
  have : s.data.toList = s[0] :: s.data.toList.tail := by
    cases hl : s.data.toList with
    | nil => have := size_zero s (by rw [Lib.toList_data]; exact hl); omega
    | cons b r =>
      have e : s.data.toList[0]? = some b := by rw [hl]; rfl
      have e2 : s.data.toList[0]? = some s[0] := by rw [List.getElem?_eq_getElem (by simpa using h0)]; rfl
      rw [e] at e2; injection e2 with e2; rw [e2]; rfl
  rw [this, decide_eq_true (show s.size ≠ 0 ∧ s.size ≤ 40 by omega)]
  simp
theorem chars_snoc (s : ByteArray) (k : Nat) (h : k < s.size) : charsB (s.data.toList.take (k + 1)) = (charsB (s.data.toList.take k) && charB (s[k].toNat : Int)) := by
  rw [List.take_succ_eq_append_getElem (by simpa using h)]
  unfold charsB
  rw [List.all_append]
  simp
  rfl
theorem chars_false {l : List UInt8} {k : Nat} (h : charsB (l.take k) = false) : charsB l = false := by
  unfold charsB at *
  rw [List.all_eq_false] at *
  obtain ⟨x, hx, h⟩ := h
  exact ⟨x, List.mem_of_mem_take hx, h⟩
theorem char_dec {c : Int} {b : Bool} (h : b = true ↔ ((97 ≤ c ∧ c ≤ 122) ∨ (65 ≤ c ∧ c ≤ 90) ∨ (48 ≤ c ∧ c ≤ 57) ∨ c = 95)) : b = charB c := by
  rw [Bool.eq_iff_iff, h, charB, decide_eq_true_iff]
theorem none_snoc (s : ByteArray) (l : List ByteArray) (k : Nat) (x : ByteArray) (h : l[k]? = some x) : noneOf s (l.take (k + 1)) = (noneOf s (l.take k) && !(s.toList == x.toList)) := by
  obtain ⟨hk, rfl⟩ := List.getElem?_eq_some_iff.1 h
  rw [List.take_succ_eq_append_getElem hk]
  unfold noneOf
  rw [List.all_append, beq_str]
  simp

set_option maxRecDepth 100000 in
set_option maxHeartbeats 2000000 in
theorem rdecl_any (s : ByteArray) (hs : s.size ≤ 140737488351232) (w : World) :
    Calls Tryd.prog 100 #[.string s] w fun e w' => e = .returned (.bool (declB s)) ∧ Below w.heap.size w w' := by
  rw [decl_law]
  go_enter Tryd.func100, Tryd.ntmps100
  go_upto_region 1 with fail
  go_cut [3] (fun t wx => t = .bool (firstB s) ∧ w = wx)
  case first =>
    rcases Nat.eq_zero_or_pos s.size with h0 | h0
    · have HF := Lib.hid (first_zero s h0)
      have hl : s.toList = [] := by rw [Lib.toList_data]; exact List.eq_nil_of_length_eq_zero (by simpa using h0)
      clear h0
      go_wp2_with fail
      go_meet
      case rel => exact ⟨by rw [HF.out], rfl⟩
    have hl : s.toList.isEmpty = false := by
      cases e : s.toList with
      | nil => have := size_zero s e; omega
      | cons => rfl
    rcases Nat.lt_or_ge 40 s.size with h1 | h1
    · have HF := Lib.hid (first_long s h1)
      have h2 : (40 : Int) < (s.size : Int) := by omega
      go_wp2_with fail
      go_meet
      case rel => exact ⟨by rw [HF.out], rfl⟩
    · have h2 : (s.size : Int) ≤ 40 := by omega
      have HF := Lib.hid (first_mid s h0 h1)
      go_wp2
      all_goals
        go_meet
        case rel => exact ⟨by rw [HF.out]; refine congrArg Value.bool ?_; rw [Bool.eq_iff_iff]; first | (simp; omega) | (simp; done), rfl⟩
  case rest =>
  obtain ⟨rfl, rfl⟩ := hcut
  go_upto_block 0 with fail
  go_cut [3] (fun t wx => t = .bool (firstB s && charsB s.data.toList) ∧ w = wx)
  case first =>
    go_wp2_with fail
    go_loopg [3, 4] s.size (fun g t i wr => ∃ k : Nat, k ≤ s.size ∧ i = .int .i64 k ∧ g = s.size - k ∧ t = .bool (firstB s && charsB (s.data.toList.take k)) ∧ w = wr)
    case atStart => exact ⟨0, by omega, rfl, by omega, by simp [charsB], rfl⟩
    case round =>
    obtain ⟨k, hk, rfl, rfl, rfl, rfl⟩ := hrel
    obtain ⟨b, hb⟩ : ∃ b, (firstB s && charsB (s.data.toList.take k)) = b := ⟨_, rfl⟩
    rw [hb]
    have HB := Lib.hid hb
    clear hb
    by_cases hlt : k < s.size
    · cases b
      · go_wp2_with fail
        go_meet
        case rel =>
          refine ⟨?_, rfl⟩
          have := HB.out
          rw [Bool.and_eq_false_iff] at this
          rcases this with h | h
          · rw [h]; rfl
          · rw [chars_false h]; simp
      · have HS := Lib.hid (chars_snoc s k hlt)
        have hx0 : (0 : Int) ≤ (s[k].toNat : Int) := by omega
        have hx1 : (s[k].toNat : Int) ≤ 255 := by have := s[k].toNat_lt; omega
        go_wp2
        all_goals
          go_roundg (s.size - (k + 1))
          case measure => omega
          case rel =>
            refine ⟨k + 1, by omega, by go_num, rfl, ?_, rfl⟩
            rw [HS.out, ← Bool.and_assoc, HB.out]
            refine congrArg Value.bool ?_
            rw [Bool.true_and]
            refine char_dec ?_
            first | (simp; omega) | omega
    · have hkl : k = s.size := by omega
      subst hkl
      go_wp2_with fail
      go_meet
      case rel =>
        refine ⟨?_, rfl⟩
        rw [← HB.out, List.take_of_length_le (by simp)]
  case rest =>
  obtain ⟨rfl, rfl⟩ := hcut
  obtain ⟨i0, hi, hz0, hz1, hz2⟩ := info_parts info_str
  have hown : ((w.alloc (.cells namesC 9)).alloc (.cells #[.string ⟨#[97, 110, 121]⟩, .string ⟨#[110, 105, 108]⟩, .string ⟨#[115, 116, 114, 117, 99, 116]⟩] 9)).ownsRow w.heap.size 9 1 (.slice (some ⟨w.heap.size, 0, none⟩) 7 7) 7 (names7.map Value.string) :=
    ⟨rfl, .inr ⟨w.heap.size, 7, namesC, rfl, Nat.le_refl _, (Blk.new w _ _).alloc _, by decide, by decide, rfl, rfl⟩⟩
  have hnew : ∀ (j : Nat) (u : Value), (names3.map Value.string)[j]? = some u → ((w.alloc (.cells namesC 9)).alloc (.cells #[.string ⟨#[97, 110, 121]⟩, .string ⟨#[110, 105, 108]⟩, .string ⟨#[115, 116, 114, 117, 99, 116]⟩] 9)).cell? ((⟨w.heap.size + 1, 0, none⟩ : Addr).add j) = some u := by
    intro j u hu
    rw [add_addr, Nat.zero_add, (Blk.new1 w _ _ _).cell]
    simpa [names3] using hu
  have HOWN := Lib.hid hown
  have HNEW := Lib.hid hnew
  clear hown hnew
  unfold namesC at HOWN HNEW
  have HB2 : Hid (Below w.heap.size w ((w.alloc (.cells namesC 9)).alloc (.cells #[.string ⟨#[97, 110, 121]⟩, .string ⟨#[110, 105, 108]⟩, .string ⟨#[115, 116, 114, 117, 99, 116]⟩] 9))) := Lib.hid (bl_alloc (bl_alloc (Below.refl _ _) _) _)
  unfold namesC at HB2
  go_wp2_with (first
    | (go_at_call 120; refine (rown_any _).mono ?_; unfold namesC; rintro e w1 ⟨rfl, rfl⟩)
    | (at_builtin; refine wpList_append_own_at _ rfl (.tmp 63) (.tmp 64) _ rfl w.heap.size 9 i0 _ 1 16 Tryd.underlying146 hi hz0 hz1 hz2 rfl (by omega) (.slice (some ⟨w.heap.size, 0, none⟩) 7 7) 7 (names7.map Value.string) rfl HOWN.out ⟨w.heap.size + 1, 0, none⟩ 3 3 (names3.map Value.string) rfl rfl HNEW.out (by decide) (by decide) (by decide) (by simp; omega) ?_; intro v' w' hown' hgrow _ _))
  have hbw : Below w.heap.size w w' := HB2.out.grown hgrow (by simp; omega) (by intro k hk; simp [Value.ownBlock] at hk; omega)
  obtain ⟨pa', pc', hv, hst, hpl, hpm⟩ := own_strs (l := names10) (show w'.ownsRow w.heap.size 9 1 v' (7 + 3) (names10.map Value.string) from hown')
  have hv : v' = .slice pa' 10 pc' := hv
  subst hv
  clear hown' hgrow HOWN HNEW HB2
  have HBW := Lib.hid hbw
  have HST := Lib.hid hst
  clear hbw hst
  obtain ⟨b0, hb0⟩ : ∃ b, (firstB s && charsB s.data.toList) = b := ⟨_, rfl⟩
  rw [hb0]
  have HB0 := Lib.hid hb0
  clear hb0
  go_loopg [3, 7] 10 (fun g t i wr => ∃ k : Nat, k ≤ 10 ∧ i = .int .i64 k ∧ g = 10 - k ∧ t = .bool (b0 && noneOf s (names10.take k)) ∧ w' = wr)
  case atStart => exact ⟨0, by omega, rfl, by omega, by simp [noneOf], rfl⟩
  case round =>
  obtain ⟨k, hk, rfl, rfl, rfl, rfl⟩ := hrel
  by_cases hlt : k < 10
  · obtain ⟨b, hb⟩ : ∃ b, (b0 && noneOf s (names10.take k)) = b := ⟨_, rfl⟩
    rw [hb]
    have HB := Lib.hid hb
    clear hb
    obtain ⟨x, hx⟩ : ∃ x, names10[k]? = some x := ⟨_, List.getElem?_eq_getElem (by exact hlt)⟩
    obtain ⟨pb, po, rfl, hcell⟩ := HST.out.get hx
    have HS := Lib.hid (none_snoc s names10 k x hx)
    clear hx
    cases b
    · go_wp2_with fail
      go_roundg (10 - (k + 1))
      case measure => omega
      case rel => exact ⟨k + 1, by omega, by go_num, rfl, by rw [HS.out, ← Bool.and_assoc, HB.out]; rfl, rfl⟩
    · go_wp2_with fail
      go_roundg (10 - (k + 1))
      case measure => omega
      case rel => exact ⟨k + 1, by omega, by go_num, rfl, by rw [HS.out, ← Bool.and_assoc, HB.out]; rfl, rfl⟩
  have hkl : k = 10 := by omega
  subst hkl
  go_wp2_with fail
  go_ret
  refine ⟨?_, HBW.out⟩
  rw [HB0.out]
  rfl

end Go.Proofs.YthdmmhiifkebeaaDoor
