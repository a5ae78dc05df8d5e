/-
  Contracts of escape in package lex and in the reference; of above. Written by an AI agent.
-/
import Derived.Test.YtpggcmlddmckcaaDoorLb5
namespace Go.Proofs.YtpggcmlddmckcaaDoor
open Go.RowKit Go.Sort

theorem hex_range : ∀ c : UInt8, -1 ≤ hexV c ∧ hexV c ≤ 15 := by
  apply byte_all
  decide +kernel
theorem hex_sum {a b : UInt8} (ha : 0 ≤ hexV a) (hb : 0 ≤ hexV b) : ((UInt8.ofNat (16 * hexV a + hexV b).toNat).toNat : Int) = 16 * hexV a + hexV b := by
  have h1 := hex_range a
  have h2 := hex_range b
  have h3 : (16 * hexV a + hexV b).toNat < 256 := by omega
  have h4 : (UInt8.ofNat (16 * hexV a + hexV b).toNat).toNat = (16 * hexV a + hexV b).toNat % 256 := rfl
  rw [h4, Nat.mod_eq_of_lt h3]
  omega
def escPair (l : List UInt8) : Value := .tuple #[.int .u8 ((escL l).1.toNat : Int), .int .i64 ((escL l).2 : Int)]
theorem escPair_of {l : List UInt8} {b : Int} {n : Int} (h1 : ((escL l).1.toNat : Int) = b) (h2 : ((escL l).2 : Int) = n) : escPair l = .tuple #[.int .u8 b, .int .i64 n] := by unfold escPair; rw [h1, h2]
theorem byte_eq {c d : UInt8} : ((c.toNat : Int) == (d.toNat : Int)) = decide (c = d) := by
  rw [Bool.eq_iff_iff]
  simp [UInt8.toNat_inj, Int.natCast_inj]
theorem list_cons {s : ByteArray} (h : 0 < s.size) : s.data.toList = (s[0]'h) :: s.data.toList.drop 1 := by
  have := drop_str s 0 h
  rwa [List.drop_zero] at this

theorem sixteenth_below (c : UInt8) (w : World) : Calls Tryd.prog 63 #[.int .u8 c.toNat] w fun e w' => e = .returned (.int .i64 (hexV c)) ∧ Below w.heap.size w w' := (sixteenth_any c w).mono fun _ _ h => ⟨h.1, h.2 ▸ Below.refl _ _⟩
theorem six_below (c : UInt8) (w : World) : Calls Tryd.prog 62 #[.int .u8 c.toNat] w fun e w' => e = .returned (.int .i64 (hexV c)) ∧ Below w.heap.size w w' := (six_any c w).mono fun _ _ h => ⟨h.1, h.2 ▸ Below.refl _ _⟩
set_option maxHeartbeats 1000000 in
theorem esc_any (s : ByteArray) (hs : s.size ≤ 9223372036854775807) (w : World) :
    Calls Tryd.prog 56 #[.string s] w fun e w' => e = .returned (escPair s.data.toList) ∧ Below w.heap.size w w' := by
  by_cases he : s.toList = []
  · have hl : s.data.toList = [] := by rw [← Lib.toList_data]; exact he
    have hP : escPair s.data.toList = .tuple #[.int .u8 0, .int .i64 0] := by rw [hl]; rfl
    have HP := Lib.hid hP
    clear hl hP
    go_enter Tryd.func56, Tryd.ntmps56
    go_wp2_with fail
    go_ret2
    exact ⟨by rw [HP.out]; rfl, Below.refl _ _⟩
  have he' : s.toList.isEmpty = false := by simpa using he
  have hsz : 0 < s.size := by
    rcases Nat.eq_zero_or_pos s.size with h | h
    · exact absurd (by rw [Lib.toList_data]; exact List.eq_nil_of_length_eq_zero (by simpa using h)) he
    · exact h
  have hi0 := fun w => idx_str hsz (x := 0) rfl w
  have hl := list_cons hsz
  obtain ⟨c, hc⟩ : ∃ c, s[0]'hsz = c := ⟨_, rfl⟩
  rw [hc] at hi0 hl
  clear hc
  by_cases c1 : c = 110
  · subst c1
    have hP : escPair s.data.toList = .tuple #[.int .u8 10, .int .i64 1] := by rw [hl]; exact escPair_of (by simp [escL]) (by simp [escL])
    have HP := Lib.hid hP
    clear hl hP
    go_enter Tryd.func56, Tryd.ntmps56
    go_wp2_with fail
    go_ret2
    exact ⟨by rw [HP.out]; rfl, Below.refl _ _⟩
  by_cases c2 : c = 116
  · subst c2
    have hP : escPair s.data.toList = .tuple #[.int .u8 9, .int .i64 1] := by rw [hl]; exact escPair_of (by simp [escL]) (by simp [escL])
    have HP := Lib.hid hP
    clear hl hP
    go_enter Tryd.func56, Tryd.ntmps56
    go_wp2_with fail
    go_ret2
    exact ⟨by rw [HP.out]; rfl, Below.refl _ _⟩
  by_cases c3 : c = 92 ∨ c = 34
  · have hP : escPair s.data.toList = .tuple #[.int .u8 (c.toNat : Int), .int .i64 1] := by
      rw [hl]
      rcases c3 with rfl | rfl
      · exact escPair_of (by simp [escL]) (by simp [escL])
      · exact escPair_of (by simp [escL]) (by simp [escL])
    have HP := Lib.hid hP
    clear hl hP c1 c2
    rcases c3 with rfl | rfl
    all_goals
      go_enter Tryd.func56, Tryd.ntmps56
      go_wp2_with fail
      go_ret2
      exact ⟨by rw [HP.out]; rfl, Below.refl _ _⟩
  have d1 : ((c.toNat : Int) == 110) = false := by rw [show (110 : Int) = ((110 : UInt8).toNat : Int) from rfl, byte_eq]; exact decide_eq_false c1
  have d2 : ((c.toNat : Int) == 116) = false := by rw [show (116 : Int) = ((116 : UInt8).toNat : Int) from rfl, byte_eq]; exact decide_eq_false c2
  have d3 : ((c.toNat : Int) == 92) = false := by rw [show (92 : Int) = ((92 : UInt8).toNat : Int) from rfl, byte_eq]; exact decide_eq_false (fun h => c3 (.inl h))
  have d4 : ((c.toNat : Int) == 34) = false := by rw [show (34 : Int) = ((34 : UInt8).toNat : Int) from rfl, byte_eq]; exact decide_eq_false (fun h => c3 (.inr h))
  by_cases c4 : c = 120
  · subst c4
    by_cases h2 : 2 < s.size
    · have h21 : (2 : Int) < (s.size : Int) := by omega
      have hi1 := fun w => idx_str (show 1 < s.size by omega) (x := 1) rfl w
      have hi2 := fun w => idx_str h2 (x := 2) rfl w
      have hl1 := drop_str s 1 (by omega)
      have hl2 := drop_str s 2 h2
      obtain ⟨a, ha⟩ : ∃ c, s[1]'(by omega) = c := ⟨_, rfl⟩
      obtain ⟨b, hb⟩ : ∃ c, s[2]'h2 = c := ⟨_, rfl⟩
      rw [ha] at hi1 hl1
      rw [hb] at hi2 hl2
      rw [hl1, hl2] at hl
      have ra := hex_range a
      have rb := hex_range b
      clear ha hb hl1 hl2 c1 c2 c3
      by_cases ga : 0 ≤ hexV a
      · by_cases gb : 0 ≤ hexV b
        · have hP : escPair s.data.toList = .tuple #[.int .u8 (16 * hexV a + hexV b), .int .i64 3] := by
            rw [hl]
            have e : escL (120 :: a :: b :: s.data.toList.drop 3) = (UInt8.ofNat (16 * hexV a + hexV b).toNat, 3) := by simp [escL, ga, gb]
            exact escPair_of (by rw [e]; exact hex_sum ga gb) (by rw [e]; rfl)
          have HP := Lib.hid hP
          have w1 : IntKind.i64.wrap (16 * hexV a) = 16 * hexV a := IntWalk.i64_in _ (by omega)
          have w2 : IntKind.i64.wrap (16 * hexV a + hexV b) = 16 * hexV a + hexV b := IntWalk.i64_in _ (by omega)
          have w3 : (16 * hexV a + hexV b) % 256 = 16 * hexV a + hexV b := Int.emod_eq_of_lt (by omega) (by omega)
          clear hl hP
          go_enter Tryd.func56, Tryd.ntmps56
          go_wp2_with (go_at_call 63; refine (sixteenth_any _ _).mono ?_; rintro e w' ⟨rfl, rfl⟩)
          refine wp_region_below (by kernel_rfl) (by kernel_rfl) ?_
          repeat (go_big_quiet_step ((exact Calls.regrown_of (sixteenth_below _ _))))
          refine wpQuiet_nil ?_
          intro w' hb
          go_wp2_with fail
          go_ret2
          exact ⟨by rw [HP.out]; rfl, hb⟩
        · have hP : escPair s.data.toList = .tuple #[.int .u8 0, .int .i64 0] := by
            rw [hl]
            have e : escL (120 :: a :: b :: s.data.toList.drop 3) = (0, 0) := by simp [escL, gb]
            exact escPair_of (by rw [e]; rfl) (by rw [e]; rfl)
          have HP := Lib.hid hP
          have gb' : hexV b < 0 := by omega
          clear hl hP
          go_enter Tryd.func56, Tryd.ntmps56
          go_wp2_with (go_at_call 63; refine (sixteenth_any _ _).mono ?_; rintro e w' ⟨rfl, rfl⟩)
          go_ret2
          exact ⟨by rw [HP.out]; rfl, Below.refl _ _⟩
      · have hP : escPair s.data.toList = .tuple #[.int .u8 0, .int .i64 0] := by
          rw [hl]
          have e : escL (120 :: a :: b :: s.data.toList.drop 3) = (0, 0) := by simp [escL, ga]
          exact escPair_of (by rw [e]; rfl) (by rw [e]; rfl)
        have HP := Lib.hid hP
        have ga' : hexV a < 0 := by omega
        clear hl hP
        go_enter Tryd.func56, Tryd.ntmps56
        go_wp2_with (go_at_call 63; refine (sixteenth_any _ _).mono ?_; rintro e w' ⟨rfl, rfl⟩)
        go_ret2
        exact ⟨by rw [HP.out]; rfl, Below.refl _ _⟩
    · have hP : escPair s.data.toList = .tuple #[.int .u8 0, .int .i64 0] := by
        rw [hl]
        have e : escL (120 :: s.data.toList.drop 1) = (0, 0) := by
          have hd : (s.data.toList.drop 1).length ≤ 1 := by simp; omega
          match hq : s.data.toList.drop 1, hd with
          | [], _ => simp [escL]
          | [a], _ => simp [escL]
        exact escPair_of (by rw [e]; rfl) (by rw [e]; rfl)
      have HP := Lib.hid hP
      have h21 : ¬ (2 : Int) < (s.size : Int) := by omega
      clear hl hP
      go_enter Tryd.func56, Tryd.ntmps56
      go_wp2_with fail
      go_ret2
      exact ⟨by rw [HP.out]; rfl, Below.refl _ _⟩
  · have d5 : ((c.toNat : Int) == 120) = false := by rw [show (120 : Int) = ((120 : UInt8).toNat : Int) from rfl, byte_eq]; exact decide_eq_false c4
    have hP : escPair s.data.toList = .tuple #[.int .u8 0, .int .i64 0] := by
      rw [hl]
      have e : escL (c :: s.data.toList.drop 1) = (0, 0) := by simp only [escL, if_neg c1, if_neg c2, if_neg c3, if_neg c4]
      exact escPair_of (by rw [e]; rfl) (by rw [e]; rfl)
    have HP := Lib.hid hP
    clear hl hP
    go_enter Tryd.func56, Tryd.ntmps56
    go_wp2_with fail
    go_ret2
    exact ⟨by rw [HP.out]; rfl, Below.refl _ _⟩
def escPair1 (l : List UInt8) : Value := .tuple #[.int .u8 ((escL l).1.toNat : Int), .int .i64 (if (escL l).2 = 0 then 0 else ((escL l).2 : Int) + 1)]
theorem escPair1_of {l : List UInt8} {b : Int} {n : Int} (h1 : ((escL l).1.toNat : Int) = b) (h2 : (if (escL l).2 = 0 then 0 else ((escL l).2 : Int) + 1) = n) : escPair1 l = .tuple #[.int .u8 b, .int .i64 n] := by unfold escPair1; rw [h1, h2]
set_option maxHeartbeats 1000000 in
theorem resc_any (s : ByteArray) (hs : s.size ≤ 140737488355328) (i : Nat) (hi : i < s.size) (w : World) :
    Calls Tryd.prog 55 #[.string s, .int .i64 i] w fun e w' => e = .returned (escPair1 (s.data.toList.drop (i + 1))) ∧ Below w.heap.size w w' := by
  by_cases he : s.size ≤ i + 1
  · have hl : s.data.toList.drop (i + 1) = [] := drop_end s (i + 1) he
    have hP : escPair1 (s.data.toList.drop (i + 1)) = .tuple #[.int .u8 0, .int .i64 0] := by rw [hl]; rfl
    have HP := Lib.hid hP
    have hge : (s.size : Int) ≤ (i : Int) + 1 := by omega
    clear hl hP
    go_enter Tryd.func55, Tryd.ntmps55
    go_wp2_with fail
    go_ret2
    exact ⟨by rw [HP.out]; rfl, Below.refl _ _⟩
  have hlt : ¬ (s.size : Int) ≤ (i : Int) + 1 := by omega
  have hsz : i + 1 < s.size := by omega
  have hi0 := fun w => idx_str hsz (x := (i : Int) + 1) (by omega) w
  have hl := drop_str s (i + 1) hsz
  obtain ⟨c, hc⟩ : ∃ c, s[i + 1]'hsz = c := ⟨_, rfl⟩
  rw [hc] at hi0 hl
  clear hc
  by_cases c1 : c = 110
  · subst c1
    have hP : escPair1 (s.data.toList.drop (i + 1)) = .tuple #[.int .u8 10, .int .i64 2] := by rw [hl]; exact escPair1_of (by simp [escL]) (by simp [escL])
    have HP := Lib.hid hP
    clear hl hP
    go_enter Tryd.func55, Tryd.ntmps55
    go_wp2_with fail
    go_ret2
    exact ⟨by rw [HP.out]; rfl, Below.refl _ _⟩
  by_cases c2 : c = 116
  · subst c2
    have hP : escPair1 (s.data.toList.drop (i + 1)) = .tuple #[.int .u8 9, .int .i64 2] := by rw [hl]; exact escPair1_of (by simp [escL]) (by simp [escL])
    have HP := Lib.hid hP
    clear hl hP
    go_enter Tryd.func55, Tryd.ntmps55
    go_wp2_with fail
    go_ret2
    exact ⟨by rw [HP.out]; rfl, Below.refl _ _⟩
  by_cases c3 : c = 92 ∨ c = 34
  · have hP : escPair1 (s.data.toList.drop (i + 1)) = .tuple #[.int .u8 (c.toNat : Int), .int .i64 2] := by
      rw [hl]
      rcases c3 with rfl | rfl
      · exact escPair1_of (by simp [escL]) (by simp [escL])
      · exact escPair1_of (by simp [escL]) (by simp [escL])
    have HP := Lib.hid hP
    clear hl hP c1 c2
    rcases c3 with rfl | rfl
    all_goals
      go_enter Tryd.func55, Tryd.ntmps55
      go_wp2_with fail
      go_ret2
      exact ⟨by rw [HP.out]; rfl, Below.refl _ _⟩
  have d1 : ((c.toNat : Int) == 110) = false := by rw [show (110 : Int) = ((110 : UInt8).toNat : Int) from rfl, byte_eq]; exact decide_eq_false c1
  have d2 : ((c.toNat : Int) == 116) = false := by rw [show (116 : Int) = ((116 : UInt8).toNat : Int) from rfl, byte_eq]; exact decide_eq_false c2
  have d3 : ((c.toNat : Int) == 92) = false := by rw [show (92 : Int) = ((92 : UInt8).toNat : Int) from rfl, byte_eq]; exact decide_eq_false (fun h => c3 (.inl h))
  have d4 : ((c.toNat : Int) == 34) = false := by rw [show (34 : Int) = ((34 : UInt8).toNat : Int) from rfl, byte_eq]; exact decide_eq_false (fun h => c3 (.inr h))
  by_cases c4 : c = 120
  · subst c4
    by_cases h2 : i + 3 < s.size
    · have h21 : (i : Int) + 3 < (s.size : Int) := by omega
      have hi1 := fun w => idx_str (show i + 2 < s.size by omega) (x := (i : Int) + 2) (by omega) w
      have hi2 := fun w => idx_str h2 (x := (i : Int) + 3) (by omega) w
      have hl1 := drop_str s (i + 2) (by omega)
      have hl2 := drop_str s (i + 3) h2
      obtain ⟨a, ha⟩ : ∃ c, s[i + 2]'(by omega) = c := ⟨_, rfl⟩
      obtain ⟨b, hb⟩ : ∃ c, s[i + 3]'h2 = c := ⟨_, rfl⟩
      rw [ha] at hi1 hl1
      rw [hb] at hi2 hl2
      rw [hl1, hl2] at hl
      have ra := hex_range a
      have rb := hex_range b
      clear ha hb hl1 hl2 c1 c2 c3
      by_cases ga : 0 ≤ hexV a
      · by_cases gb : 0 ≤ hexV b
        · have hP : escPair1 (s.data.toList.drop (i + 1)) = .tuple #[.int .u8 (16 * hexV a + hexV b), .int .i64 4] := by
            rw [hl]
            have e : escL (120 :: a :: b :: s.data.toList.drop (i + 3 + 1)) = (UInt8.ofNat (16 * hexV a + hexV b).toNat, 3) := by simp [escL, ga, gb]
            exact escPair1_of (by rw [e]; exact hex_sum ga gb) (by rw [e]; rfl)
          have HP := Lib.hid hP
          have w1 : IntKind.i64.wrap (16 * hexV a) = 16 * hexV a := IntWalk.i64_in _ (by omega)
          have w2 : IntKind.i64.wrap (16 * hexV a + hexV b) = 16 * hexV a + hexV b := IntWalk.i64_in _ (by omega)
          have w3 : (16 * hexV a + hexV b) % 256 = 16 * hexV a + hexV b := Int.emod_eq_of_lt (by omega) (by omega)
          clear hl hP
          go_enter Tryd.func55, Tryd.ntmps55
          go_wp2_with (go_at_call 62; refine (six_any _ _).mono ?_; rintro e w' ⟨rfl, rfl⟩)
          refine wp_region_below (by kernel_rfl) (by kernel_rfl) ?_
          repeat (go_big_quiet_step ((exact Calls.regrown_of (six_below _ _))))
          refine wpQuiet_nil ?_
          intro w' hb
          go_wp2_with fail
          go_ret2
          exact ⟨by rw [HP.out]; rfl, hb⟩
        · have hP : escPair1 (s.data.toList.drop (i + 1)) = .tuple #[.int .u8 0, .int .i64 0] := by
            rw [hl]
            have e : escL (120 :: a :: b :: s.data.toList.drop (i + 3 + 1)) = (0, 0) := by simp [escL, gb]
            exact escPair1_of (by rw [e]; rfl) (by rw [e]; rfl)
          have HP := Lib.hid hP
          have gb' : hexV b < 0 := by omega
          clear hl hP
          go_enter Tryd.func55, Tryd.ntmps55
          go_wp2_with (go_at_call 62; refine (six_any _ _).mono ?_; rintro e w' ⟨rfl, rfl⟩)
          go_ret2
          exact ⟨by rw [HP.out]; rfl, Below.refl _ _⟩
      · have hP : escPair1 (s.data.toList.drop (i + 1)) = .tuple #[.int .u8 0, .int .i64 0] := by
          rw [hl]
          have e : escL (120 :: a :: b :: s.data.toList.drop (i + 3 + 1)) = (0, 0) := by simp [escL, ga]
          exact escPair1_of (by rw [e]; rfl) (by rw [e]; rfl)
        have HP := Lib.hid hP
        have ga' : hexV a < 0 := by omega
        clear hl hP
        go_enter Tryd.func55, Tryd.ntmps55
        go_wp2_with (go_at_call 62; refine (six_any _ _).mono ?_; rintro e w' ⟨rfl, rfl⟩)
        go_ret2
        exact ⟨by rw [HP.out]; rfl, Below.refl _ _⟩
    · have hP : escPair1 (s.data.toList.drop (i + 1)) = .tuple #[.int .u8 0, .int .i64 0] := by
        rw [hl]
        have e : escL (120 :: s.data.toList.drop (i + 1 + 1)) = (0, 0) := by
          have hd : (s.data.toList.drop (i + 1 + 1)).length ≤ 1 := by simp; omega
          match hq : s.data.toList.drop (i + 1 + 1), hd with
          | [], _ => simp [escL]
          | [a], _ => simp [escL]
        exact escPair1_of (by rw [e]; rfl) (by rw [e]; rfl)
      have HP := Lib.hid hP
      have h21 : ¬ (i : Int) + 3 < (s.size : Int) := by omega
      clear hl hP
      go_enter Tryd.func55, Tryd.ntmps55
      go_wp2_with fail
      go_ret2
      exact ⟨by rw [HP.out]; rfl, Below.refl _ _⟩
  · have d5 : ((c.toNat : Int) == 120) = false := by rw [show (120 : Int) = ((120 : UInt8).toNat : Int) from rfl, byte_eq]; exact decide_eq_false c4
    have hP : escPair1 (s.data.toList.drop (i + 1)) = .tuple #[.int .u8 0, .int .i64 0] := by
      rw [hl]
      have e : escL (c :: s.data.toList.drop (i + 1 + 1)) = (0, 0) := by simp only [escL, if_neg c1, if_neg c2, if_neg c3, if_neg c4]
      exact escPair1_of (by rw [e]; rfl) (by rw [e]; rfl)
    have HP := Lib.hid hP
    clear hl hP
    go_enter Tryd.func55, Tryd.ntmps55
    go_wp2_with fail
    go_ret2
    exact ⟨by rw [HP.out]; rfl, Below.refl _ _⟩
end Go.Proofs.YtpggcmlddmckcaaDoor
