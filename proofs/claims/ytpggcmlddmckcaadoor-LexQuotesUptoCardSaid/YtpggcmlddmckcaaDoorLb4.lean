/-
  Contracts of run and Name of package lex, and of the reference's. Written by an AI agent.
-/
import Derived.Test.YtpggcmlddmckcaaDoorLb3
import Derived.Laws.RangeAny
namespace Go.Proofs.YtpggcmlddmckcaaDoor
open Go.RowKit

theorem at_str (s : ByteArray) (i : Nat) (h : i < s.size) : s.data.toList[i]? = some (s[i]'h) := by
  have h' : i < s.data.size := h
  rw [Array.getElem?_toList, Array.getElem?_eq_getElem h']
  rfl
theorem drop_str (s : ByteArray) (i : Nat) (h : i < s.size) : s.data.toList.drop i = (s[i]'h) :: s.data.toList.drop (i + 1) := by
  have h' : i < s.data.toList.length := by simpa using h
  rw [List.drop_eq_getElem_cons h']
  rfl
theorem drop_end (s : ByteArray) (i : Nat) (h : s.size ≤ i) : s.data.toList.drop i = [] := List.drop_of_length_le (by simpa using h)
theorem run_cons (b : Bool) (c : UInt8) (l : List UInt8) : runL b (c :: l) = if inRun b c then runL b l + 1 else 0 := by
  unfold runL
  rw [List.takeWhile_cons]
  split <;> rfl
theorem below_iter (w : World) (s : ByteArray) (pos : Nat) : Below w.heap.size w (w.iter s pos) := (Below.refl _ _).alloc (Nat.le_refl _) _

theorem rune_at (s : ByteArray) (pos : Nat) (hp : pos < s.size) : ∃ r wd : Nat, Utf8.decode s pos = (r, wd) ∧ digN (r : Int) = isDig (s[pos]'hp) ∧ letN (r : Int) = isLet (s[pos]'hp) ∧ (inRun true (s[pos]'hp) = true → wd = 1) := by
  by_cases ha : (s[pos]'hp).toNat < 128
  · exact ⟨_, _, decode_ascii s pos hp ha, digN_of _, letN_of _, fun _ => rfl⟩
  · obtain ⟨g1, g2⟩ := decode_high s pos hp (by omega)
    have e1 : isDig (s[pos]'hp) = false := by unfold isDig; rw [decide_eq_false_iff_not]; omega
    have e2 : isLet (s[pos]'hp) = false := by unfold isLet; rw [decide_eq_false_iff_not]; omega
    refine ⟨(Utf8.decode s pos).1, (Utf8.decode s pos).2, rfl, ?_, ?_, fun h => ?_⟩
    · rw [e1]; exact digN_high (by omega)
    · rw [e2]; exact letN_high (by omega)
    · simp [inRun, e1, e2] at h

set_option maxHeartbeats 400000 in
theorem lrun_any (s : ByteArray) (hs : s.size ≤ 9223372036854775807) (b : Bool) (w : World) :
    Calls Tryd.prog 53 #[.string s, .bool b] w fun e w' => e = .returned (.int .i64 (runL b s.data.toList)) ∧ Below w.heap.size w w' := by
  go_enter Tryd.func53, Tryd.ntmps53
  go_wp2_with fail
  go_loopw [5] (fun _ w' => ∃ pos : Nat, w' = w.iter s pos ∧ pos ≤ s.size ∧ runL b s.data.toList = pos + runL b (s.data.toList.drop pos)) (fun _ w' => s.size - w'.iterPos w.heap.size)
  case atStart => exact ⟨0, rfl, by omega, by simp⟩
  case round =>
    obtain ⟨pos, rfl, hp0, hrun⟩ := hrel
    have HR := Lib.hid hrun
    clear hrun
    by_cases hp : pos < s.size
    · have hdr := drop_str s pos hp
      obtain ⟨c, hc⟩ : ∃ c, s[pos]'hp = c := ⟨_, rfl⟩
      rw [hc] at hdr
      have HD := Lib.hid hdr
      have hnx : ∀ ty, (Instr.next (.pointer (some ⟨w.heap.size, 0, none⟩)) true ty).run Tryd.prog (w.iter s pos) = _ := fun ty => run_next_any w s pos ty hp
      obtain ⟨r, wd, hdec, hdig, hlet, hwd⟩ := rune_at s pos hp
      rw [hc] at hdig hlet hwd
      rw [hdec] at hnx
      have hD := fun w => digit_any (r : Int) w
      have hL := fun w => letter_any (r : Int) w
      rw [hdig] at hD
      rw [hlet] at hL
      have HDI := Lib.hid hD
      have HL := Lib.hid hL
      clear hdr hdec hdig hlet hc hD hL
      cases h1 : isDig c <;> cases h2 : isLet c <;> cases b
      all_goals
        rw [h1] at HDI
        rw [h2] at HL
        go_wp2_with (first | (go_at_call 42; refine (HDI.out _).mono ?_; rintro e w' ⟨rfl, rfl⟩) | (go_at_call 41; refine (HL.out _).mono ?_; rintro e w' ⟨rfl, rfl⟩))
        first
        | (go_ret
           refine ⟨ret_int ?_, below_iter _ _ _⟩
           have := HR.out
           rw [HD.out, run_cons, if_neg (by simp [inRun, h1, h2])] at this
           rw [this]
           rfl)
        | (obtain rfl := hwd (by simp [inRun, h1, h2])
           go_roundw
           case rel =>
             refine ⟨pos + 1, rfl, by omega, ?_⟩
             rw [HR.out, HD.out, run_cons, if_pos (by simp [inRun, h1, h2])]
             omega
           case measure => simp; omega)
    · have hnx : ∀ ty, (Instr.next (.pointer (some ⟨w.heap.size, 0, none⟩)) true ty).run Tryd.prog (w.iter s pos) = _ := fun ty => run_next_end w s pos ty hp
      go_wp2_with fail
      go_ret
      refine ⟨ret_int ?_, below_iter _ _ _⟩
      have := HR.out
      rw [drop_end s pos (by omega)] at this
      rw [this]
      simp [runL]
      omega
theorem idx_str {s : ByteArray} {k : Nat} (h : k < s.size) {x : Int} (hx : x = k) (w : World) : (Instr.index 9 (.string s) (.int .i64 x)).run Tryd.prog w = .ok (.int .u8 ((s[k]'h).toNat : Int)) w := by
  subst hx
  rw [run_index_string _ _ _ _ _ Tryd.underlying9, dif_pos ⟨by omega, by omega⟩]
  simp
set_option maxHeartbeats 400000 in
theorem rrun_any (s : ByteArray) (hs : s.size ≤ 9223372036854775807) (i : Nat) (hi : i ≤ s.size) (b : Bool) (w : World) :
    Calls Tryd.prog 46 #[.string s, .int .i64 i, .bool b] w fun e w' => e = .returned (.int .i64 (runL b (s.data.toList.drop i))) ∧ w = w' := by
  go_enter Tryd.func46, Tryd.ntmps46
  go_wp2_with fail
  go_loopg [7] (s.size - i) (fun g n wr => ∃ k : Nat, n = .int .i64 k ∧ g = s.size - (i + k) ∧ wr = w ∧ i + k ≤ s.size ∧ runL b (s.data.toList.drop i) = k + runL b (s.data.toList.drop (i + k)))
  case atStart => exact ⟨0, rfl, by omega, rfl, by omega, by simp⟩
  case round =>
    obtain ⟨k, rfl, rfl, rfl, hp0, hrun⟩ := hrel
    have HR := Lib.hid hrun
    clear hrun
    by_cases hp : i + k < s.size
    · have hdr := drop_str s (i + k) hp
      obtain ⟨c, hc⟩ : ∃ c, s[i + k]'hp = c := ⟨_, rfl⟩
      have hix := fun w => idx_str hp (x := (i : Int) + (k : Int)) (by omega) w
      rw [hc] at hdr hix
      have HD := Lib.hid hdr
      have hD := fun w => rdigit_any (c.toNat : Int) w
      have hL := fun w => rletter_any (c.toNat : Int) w
      rw [digN_of] at hD
      rw [letN_of] at hL
      have HDI := Lib.hid hD
      have HL := Lib.hid hL
      have hlt : (i : Int) + (k : Int) < (s.size : Int) := by omega
      clear hdr hc hD hL
      cases h1 : isDig c <;> cases h2 : isLet c <;> cases b
      all_goals
        rw [h1] at HDI
        rw [h2] at HL
        go_wp2_with (first | (go_at_call 44; refine (HDI.out _).mono ?_; rintro e w' ⟨rfl, rfl⟩) | (go_at_call 43; refine (HL.out _).mono ?_; rintro e w' ⟨rfl, rfl⟩))
        first
        | (go_ret
           refine ⟨ret_int ?_, rfl⟩
           have := HR.out
           rw [HD.out, run_cons, if_neg (by simp [inRun, h1, h2])] at this
           rw [this]
           rfl)
        | (go_roundg (s.size - (i + (k + 1)))
           case rel =>
             refine ⟨k + 1, by go_num, rfl, rfl, by omega, ?_⟩
             rw [HR.out, HD.out, run_cons, if_pos (by simp [inRun, h1, h2])]
             show _ = k + 1 + runL _ (List.drop (i + k + 1) _)
             omega
           case measure => omega)
    · have hge : ¬ (i : Int) + (k : Int) < (s.size : Int) := by omega
      go_wp2_with fail
      go_ret
      refine ⟨ret_int ?_, rfl⟩
      have := HR.out
      rw [drop_end s (i + k) (by omega)] at this
      rw [this]
      simp [runL]

def headLet (l : List UInt8) : Bool := match l with | [] => false | c :: _ => isLet c
theorem name_open (l : List UInt8) : nameB l = (headLet l && l.all (inRun true) && decide (l.length ≤ 40) && !wordB l) := by cases l <;> rfl
theorem name_bad {l : List UInt8} {k : Nat} {c : UInt8} (h : l[k]? = some c) (hc : inRun true c = false ∨ (k = 0 ∧ isLet c = false)) : nameB l = false := by
  rw [name_open]
  rcases hc with hc | ⟨rfl, hc⟩
  · have : l.all (inRun true) = false := by rw [List.all_eq_false]; exact ⟨c, List.mem_of_getElem? h, by simp [hc]⟩
    simp [this]
  · cases l with
    | nil => cases h
    | cons d l => simp at h; subst h; simp [headLet, hc]
theorem name_good {l : List UInt8} (h1 : l ≠ [] → headLet l = true) (h2 : ∀ j c, j < l.length → l[j]? = some c → inRun true c = true) : nameB l = (!l.isEmpty && decide (l.length ≤ 40) && !wordB l) := by
  rw [name_open]
  have : l.all (inRun true) = true := by
    rw [List.all_eq_true]
    intro c hc
    obtain ⟨j, hj, e⟩ := List.mem_iff_getElem.1 hc
    exact h2 j c hj (by rw [List.getElem?_eq_getElem hj, e])
  rw [this]
  cases l with
  | nil => rfl
  | cons c l => rw [h1 (by simp)]; simp
def PreOk (s : ByteArray) (k : Nat) : Prop := (0 < k → headLet s.data.toList = true) ∧ ∀ j c, j < k → s.data.toList[j]? = some c → inRun true c = true
theorem PreOk.step {s : ByteArray} {k : Nat} (h : PreOk s k) {c : UInt8} (hc : s.data.toList[k]? = some c) (h1 : inRun true c = true) (h2 : k = 0 → isLet c = true) : PreOk s (k + 1) := by
  refine ⟨fun _ => ?_, fun j d hj hd => ?_⟩
  · by_cases h0 : k = 0
    · subst h0
      cases hl : s.data.toList with
      | nil => rw [hl] at hc; cases hc
      | cons d l => rw [hl] at hc; simp at hc; subst hc; exact h2 rfl
    · exact h.1 (by omega)
  · by_cases hjk : j = k
    · subst hjk; rw [hc] at hd; injection hd with hd; subst hd; exact h1
    · exact h.2 j d (by omega) hd
theorem PreOk.done {s : ByteArray} (h : PreOk s s.size) : nameB s.data.toList = (!s.toList.isEmpty && decide (s.size ≤ 40) && !wordB s.data.toList) := by
  rw [name_good (fun hn => h.1 ?_) (fun j c hj hc => h.2 j c (by simpa using hj) hc), Lib.toList_data]
  · rw [show s.data.toList.length = s.size by simp]
  · have : 0 < s.data.toList.length := List.length_pos_iff.2 hn
    simpa using this

set_option maxHeartbeats 1000000 in
theorem Name_any (s : ByteArray) (hs : s.size ≤ 9223372036854775807) (w : World) (hL : LexAt w) :
    Calls Tryd.prog 24 #[.string s] w fun e w' => e = .returned (.bool (nameB s.data.toList)) ∧ Below w.heap.size w w' := by
  have HX := Lib.hid hL
  clear hL
  go_enter Tryd.func24, Tryd.ntmps24
  go_wp2_with fail
  go_loopw [3] (fun _ w' => ∃ pos : Nat, w' = w.iter s pos ∧ pos ≤ s.size ∧ PreOk s pos) (fun _ w' => s.size - w'.iterPos w.heap.size)
  case atStart => exact ⟨0, rfl, by omega, fun h => absurd h (by decide), fun j _ h => absurd h (by omega)⟩
  case round =>
    obtain ⟨pos, rfl, hp0, hpre⟩ := hrel
    have HP := Lib.hid hpre
    clear hpre
    by_cases hp : pos < s.size
    · have hat := at_str s pos hp
      obtain ⟨c, hc⟩ : ∃ c, s[pos]'hp = c := ⟨_, rfl⟩
      rw [hc] at hat
      have HA := Lib.hid hat
      have hnx : ∀ ty, (Instr.next (.pointer (some ⟨w.heap.size, 0, none⟩)) true ty).run Tryd.prog (w.iter s pos) = _ := fun ty => run_next_any w s pos ty hp
      obtain ⟨r, wd, hdec, hdig, hlet, hwd⟩ := rune_at s pos hp
      rw [hc] at hdig hlet hwd
      rw [hdec] at hnx
      have hD := fun w => digit_any (r : Int) w
      have hL := fun w => letter_any (r : Int) w
      rw [hdig] at hD
      rw [hlet] at hL
      have HDI := Lib.hid hD
      have HL := Lib.hid hL
      clear hat hdec hdig hlet hc hD hL
      by_cases h0 : pos = 0
      all_goals
        cases h1 : isDig c <;> cases h2 : isLet c
      all_goals
        rw [h1] at HDI
        rw [h2] at HL
        have h00 : ((pos : Int) == 0) = decide (pos = 0) := by rw [Bool.eq_iff_iff]; simp
        first | rw [decide_eq_true h0] at h00 | rw [decide_eq_false h0] at h00
        have H0 := Lib.hid h0
        clear h0
        go_wp2_with (first | (go_at_call 42; refine (HDI.out _).mono ?_; rintro e w' ⟨rfl, rfl⟩) | (go_at_call 41; refine (HL.out _).mono ?_; rintro e w' ⟨rfl, rfl⟩))
        first
        | (go_ret
           refine ⟨ret_bool ?_, below_iter _ _ _⟩
           refine (name_bad HA.out ?_).symm
           first | (right; exact ⟨H0.out, h2⟩) | (left; simp [inRun, h1, h2]; done))
        | (obtain rfl := hwd (by simp [inRun, h1, h2])
           go_roundw
           case rel =>
             refine ⟨pos + 1, rfl, by omega, HP.out.step HA.out (by simp [inRun, h1, h2]) ?_⟩
             intro h
             first | exact h2 | exact absurd h H0.out
           case measure => simp; omega)
    · have hnx : ∀ ty, (Instr.next (.pointer (some ⟨w.heap.size, 0, none⟩)) true ty).run Tryd.prog (w.iter s pos) = _ := fun ty => run_next_end w s pos ty hp
      have hW := fun (w1 : World) (h : LexAt w1) => Word_any s w1 h
      have hpe : pos = s.size := by omega
      subst hpe
      have hdone := HP.out.done
      have HN := Lib.hid hdone
      have HW := Lib.hid hW
      clear hdone hW hp hp0
      by_cases he : s.toList = []
      · have he' : s.toList.isEmpty = true := by simpa using he
        go_wp2_with fail
        go_ret
        refine ⟨ret_bool ?_, below_iter _ _ _⟩
        rw [HN.out, he']; rfl
      · have he' : s.toList.isEmpty = false := by simpa using he
        by_cases h40 : s.size ≤ 40
        · have h41 : (s.size : Int) ≤ 40 := by omega
          have HX2 := HX.out.below (below_iter w s s.size) (Nat.le_refl _)
          have HX3 := Lib.hid HX2
          clear HX2
          go_wp2_with fail
          refine (HW.out _ HX3.out).mono ?_
          rintro e w' ⟨rfl, hb⟩
          go_wp2_with fail
          go_ret
          refine ⟨ret_bool ?_, bl_trans (below_iter _ _ _) hb⟩
          rw [HN.out, he', decide_eq_true h40]; rfl
        · have h41 : (40 : Int) < (s.size : Int) := by omega
          go_wp2_with fail
          go_ret
          refine ⟨ret_bool ?_, below_iter _ _ _⟩
          rw [HN.out, he', decide_eq_false h40]; rfl
end Go.Proofs.YtpggcmlddmckcaaDoor
