/-
  Contracts of the reference's Words, Word, Name, above; of escape in both. Written by an AI agent.
-/
import Derived.Test.YtpggcmlddmckcaaDoorLb4
namespace Go.Proofs.YtpggcmlddmckcaaDoor
open Go.RowKit

set_option maxRecDepth 100000 in
theorem rWords_any (w : World) : Calls Tryd.prog 21 #[] w fun e w' => e = .returned (.slice (some ⟨w.heap.size, 0, none⟩) 22 22) ∧ w.alloc (.cells wordsC 9) = w' := by
  go_enter Tryd.func21, Tryd.ntmps21
  go_wp2_with fail
  go_ret
  exact ⟨rfl, rfl⟩
theorem words_len : wordsS.length = 22 := rfl
set_option maxHeartbeats 400000 in
theorem rWord_any (s : ByteArray) (w : World) : Calls Tryd.prog 25 #[.string s] w fun e w' => e = .returned (.bool (wordB s.data.toList)) ∧ Below w.heap.size w w' := by
  have hW := rWords_any w
  have hrow : StrsAt (w.alloc (.cells wordsC 9)) (some ⟨w.heap.size, 0, none⟩) wordsS := strs_block (heap_alloc_new w _) wordsS rfl
  have hbel : Below w.heap.size w (w.alloc (.cells wordsC 9)) := (Below.refl _ _).alloc (Nat.le_refl _) _
  have HW := Lib.hid hW
  clear hW
  go_enter Tryd.func25, Tryd.ntmps25
  go_wp2_with fail
  refine HW.out.mono ?_
  rintro e w' ⟨rfl, rfl⟩
  generalize w.alloc (.cells wordsC 9) = w1 at hrow hbel ⊢
  go_wp2_with fail
  go_loopg [4] 22 (fun g n wr => ∃ k : Nat, k ≤ 22 ∧ n = .int .i64 k ∧ g = 22 - k ∧ wr = w1 ∧ ∀ j y, j < k → wordsS[j]? = some y → y ≠ s)
  case atStart => exact ⟨0, by omega, rfl, rfl, rfl, fun j _ h => absurd h (by omega)⟩
  case round =>
    obtain ⟨k, hk, rfl, rfl, rfl, hn⟩ := hrel
    have HN := Lib.hid hn
    have HB := Lib.hid hbel
    clear hn hbel
    by_cases hlt : k < 22
    · obtain ⟨x, hx⟩ : ∃ x, wordsS[k]? = some x := ⟨_, List.getElem?_eq_getElem (by rw [words_len]; exact hlt)⟩
      obtain ⟨b, o, eb, hc⟩ := hrow.get hx
      injection eb with eb
      injection eb with eb1 eb2
      subst eb1 eb2
      rw [Nat.zero_add] at hc
      have HX2 := Lib.hid hx
      have hlt1 : (k : Int) < 22 := by omega
      have hlt0 : (0 : Int) ≤ (k : Int) := by omega
      clear hx
      go_wp2_with fail
      · go_ret
        have e := str_eq (by assumption)
        subst e
        refine ⟨ret_bool ?_, HB.out⟩
        rw [← memB_words x.data.toList, bs_of]
        exact ((memB_iff _ _).2 (List.mem_of_getElem? HX2.out)).symm
      · go_roundg (22 - (k + 1))
        case measure => omega
        case rel =>
          have e := str_ne (by assumption)
          refine ⟨k + 1, by omega, by go_num, rfl, rfl, fun j y hj hy => ?_⟩
          by_cases hjk : j = k
          · subst hjk
            rw [HX2.out] at hy
            injection hy with hy
            subst hy
            exact e
          · exact HN.out j y (by omega) hy
    · have hkl : k = 22 := by omega
      subst hkl
      go_wp2_with fail
      go_ret
      refine ⟨ret_bool ?_, HB.out⟩
      rw [← memB_words s.data.toList, bs_of, eq_comm, ← Bool.not_eq_true, memB_iff]
      intro h
      obtain ⟨j, hj, e⟩ := List.mem_iff_getElem.1 h
      exact HN.out j _ (by rw [words_len] at hj; exact hj) (List.getElem?_eq_getElem hj) e

set_option maxHeartbeats 1000000 in
theorem rName_any (s : ByteArray) (hs : s.size ≤ 9223372036854775807) (w : World) :
    Calls Tryd.prog 26 #[.string s] w fun e w' => e = .returned (.bool (nameB s.data.toList)) ∧ Below w.heap.size w w' := by
  by_cases he : s.toList = []
  · have hl : s.data.toList = [] := by rw [← Lib.toList_data]; exact he
    have hN : nameB s.data.toList = false := by rw [hl]; rfl
    have HN := Lib.hid hN
    clear hl hN
    go_enter Tryd.func26, Tryd.ntmps26
    go_wp2_with fail
    go_ret
    exact ⟨ret_bool HN.out.symm, Below.refl _ _⟩
  have he' : s.toList.isEmpty = false := by simpa using he
  have hsz : 0 < s.size := by
    rcases Nat.eq_zero_or_pos s.size with h | h
    · exact absurd (by rw [Lib.toList_data]; exact List.eq_nil_of_length_eq_zero (by simpa using h)) he
    · exact h
  by_cases h40 : 40 < s.size
  · have hN : nameB s.data.toList = false := by rw [name_open, decide_eq_false (p := s.data.toList.length ≤ 40) (by simp; omega)]; simp
    have HN := Lib.hid hN
    have h41 : (40 : Int) < (s.size : Int) := by omega
    clear hN
    go_enter Tryd.func26, Tryd.ntmps26
    go_wp2_with fail
    go_ret
    exact ⟨ret_bool HN.out.symm, Below.refl _ _⟩
  have h41 : ¬ (40 : Int) < (s.size : Int) := by omega
  have hi0 := fun w => idx_str hsz (x := 0) rfl w
  have hat0 := at_str s 0 hsz
  obtain ⟨c0, hc0⟩ : ∃ c, s[0]'hsz = c := ⟨_, rfl⟩
  rw [hc0] at hi0 hat0
  have hL0 := fun w => rletter_any (c0.toNat : Int) w
  rw [letN_of] at hL0
  have HL0 := Lib.hid hL0
  have HA0 := Lib.hid hat0
  clear hL0 hat0 hc0
  cases hc : isLet c0 with
  | false =>
    rw [hc] at HL0
    go_enter Tryd.func26, Tryd.ntmps26
    go_wp2_with (go_at_call 43; refine (HL0.out _).mono ?_; rintro e w' ⟨rfl, rfl⟩)
    go_ret
    exact ⟨ret_bool (name_bad HA0.out (.inr ⟨rfl, hc⟩)).symm, Below.refl _ _⟩
  | true =>
    rw [hc] at HL0
    have hnd := fun (h : PreOk s s.size) => h.done
    have HD := Lib.hid hnd
    have hw := rWord_any s w
    have HW := Lib.hid hw
    have hpre : PreOk s 1 := PreOk.step (s := s) (k := 0) ⟨fun h => absurd h (by decide), fun j _ h => absurd h (by omega)⟩ HA0.out (by simp [inRun, hc]) (fun _ => hc)
    have HP0 := Lib.hid hpre
    clear hnd hw hpre
    go_enter Tryd.func26, Tryd.ntmps26
    go_wp2_with (go_at_call 43; refine (HL0.out _).mono ?_; rintro e w' ⟨rfl, rfl⟩)
    go_loopg [4] (s.size - 1) (fun g n wr => ∃ k : Nat, 1 ≤ k ∧ k ≤ s.size ∧ n = .int .i64 k ∧ g = s.size - k ∧ wr = w ∧ PreOk s k)
    case atStart => exact ⟨1, by omega, by omega, rfl, by omega, rfl, HP0.out⟩
    case round =>
      obtain ⟨k, hk1, hk2, rfl, rfl, rfl, hpre⟩ := hrel
      have HP := Lib.hid hpre
      clear hpre
      by_cases hp : k < s.size
      · have hix := fun w => idx_str hp (x := (k : Int)) rfl w
        have hat := at_str s k hp
        obtain ⟨c, hcc⟩ : ∃ c, s[k]'hp = c := ⟨_, rfl⟩
        rw [hcc] at hix hat
        have hD := fun w => rdigit_any (c.toNat : Int) w
        have hL := fun w => rletter_any (c.toNat : Int) w
        rw [digN_of] at hD
        rw [letN_of] at hL
        have HDI := Lib.hid hD
        have HL := Lib.hid hL
        have HA := Lib.hid hat
        have hlt : (k : Int) < (s.size : Int) := by omega
        clear hD hL hat hcc hi0
        cases h1 : isDig c <;> cases h2 : isLet c
        all_goals
          rw [h1] at HDI
          rw [h2] at HL
          go_wp2_with (first | (go_at_call 44; refine (HDI.out _).mono ?_; rintro e w' ⟨rfl, rfl⟩) | (go_at_call 43; refine (HL.out _).mono ?_; rintro e w' ⟨rfl, rfl⟩))
          first
          | (go_ret
             refine ⟨ret_bool ?_, Below.refl _ _⟩
             exact (name_bad HA.out (.inl (by simp [inRun, h1, h2]))).symm)
          | (go_roundg (s.size - (k + 1))
             case measure => omega
             case rel => exact ⟨k + 1, by omega, by omega, by go_num, rfl, rfl, HP.out.step HA.out (by simp [inRun, h1, h2]) (fun h => absurd h (by omega))⟩)
      · have hke : k = s.size := by omega
        subst hke
        have hge : ¬ (s.size : Int) < (s.size : Int) := by omega
        go_wp2_with fail
        refine HW.out.mono ?_
        rintro e w' ⟨rfl, hb⟩
        go_wp2_with fail
        go_ret
        refine ⟨ret_bool ?_, hb⟩
        rw [HD.out HP.out, he', decide_eq_true (by omega)]
        rfl
end Go.Proofs.YtpggcmlddmckcaaDoor
