/-
  Contract of value.declared: for every text. Written by an AI agent.
-/
import Derived.Test.YthdmmhiifkebeaaDoorVal2
import Derived.Lib.ConvBytes
import Derived.Deep.Cut
import Derived.Deep.DeepCutAuto
namespace Go.Proofs.YthdmmhiifkebeaaDoor
open Go.RowKit

def ownL : List ByteArray := [⟨#[110, 105, 108]⟩, ⟨#[98, 111, 111, 108]⟩, ⟨#[105, 110, 116]⟩, ⟨#[102, 108, 111, 97, 116]⟩, ⟨#[116, 101, 120, 116]⟩, ⟨#[108, 105, 115, 116]⟩, ⟨#[109, 97, 112]⟩, ⟨#[102, 117, 110, 99]⟩]
/-- The variable value.own holds the kinds' own names. -/
def OwnAt (w : World) : Prop := ∀ (j : Nat) (s : ByteArray), ownL[j]? = some s → w.cell? ⟨0, j, none⟩ = some (.string s)
theorem OwnAt.below {w w' : World} {B : Nat} (h : OwnAt w) (hb : Below B w w') (hB : w.heap.size ≤ B) : OwnAt w' := fun j s e => by
  have := h j s e
  rw [← this]
  exact hb.cell (p := ⟨0, j, none⟩) (Nat.lt_of_lt_of_le (cell_lt this) hB)
theorem OwnAt.eight {w : World} (h : OwnAt w) : w.cell? ⟨0, 0, none⟩ = some (.string ⟨#[110, 105, 108]⟩) ∧ w.cell? ⟨0, 1, none⟩ = some (.string ⟨#[98, 111, 111, 108]⟩) ∧ w.cell? ⟨0, 2, none⟩ = some (.string ⟨#[105, 110, 116]⟩) ∧
    w.cell? ⟨0, 3, none⟩ = some (.string ⟨#[102, 108, 111, 97, 116]⟩) ∧ w.cell? ⟨0, 4, none⟩ = some (.string ⟨#[116, 101, 120, 116]⟩) ∧ w.cell? ⟨0, 5, none⟩ = some (.string ⟨#[108, 105, 115, 116]⟩) ∧
    w.cell? ⟨0, 6, none⟩ = some (.string ⟨#[109, 97, 112]⟩) ∧ w.cell? ⟨0, 7, none⟩ = some (.string ⟨#[102, 117, 110, 99]⟩) :=
  ⟨h 0 _ rfl, h 1 _ rfl, h 2 _ rfl, h 3 _ rfl, h 4 _ rfl, h 5 _ rfl, h 6 _ rfl, h 7 _ rfl⟩

/-- '[]byte(s)': a new row. -/
theorem bytes_of (W : World) (s : ByteArray) (n : Nat) (hn : W.heap.size = n) : ∃ C wb, (convert 9 148 (.string s)).run Tryd.prog W = .ok (.slice (some ⟨n, 0, none⟩) s.size C) wb ∧ Below n W wb ∧
    ∀ j b, s.data.toList[j]? = some b → wb.cell? ⟨n, j, none⟩ = some (.int .u8 (b.toNat : Int)) := by
  subst hn
  refine ⟨_, _, Lib.run_convert_string_bytes W 9 148 5 s (u := .string) Tryd.underlying9 Tryd.underlying148 Tryd.underlying5, ⟨?_, ?_, ?_, ?_, ?_⟩, ?_⟩
  · simp [Lib.bytesWorld, World.freeze, World.alloc, World.drew, -World.alloc_eq, -World.drew_eq]
  · simp [Lib.bytesWorld, World.freeze, World.alloc, World.drew, -World.alloc_eq, -World.drew_eq]
  · simp [Lib.bytesWorld, World.freeze, World.alloc, World.drew, -World.alloc_eq, -World.drew_eq]
  · rw [Lib.bytesWorld_size]; omega
  · exact fun k hk => Lib.bytesWorld_at_old W _ s k hk
  · intro j b hj
    have hl : j < s.size := by
      have := (List.getElem?_eq_some_iff.1 hj).1
      simpa using this
    rw [Lib.bytesWorld_cell W _ s j hl]
    simp [List.getD, hj]

theorem strs_block {w : World} {b : Nat} {cs : Array Value} {t : TypeId} {fr : Nat × Nat} (h : w.heap[b]? = some (.cells cs t fr)) (l : List ByteArray) (e : cs = (l.map Value.string).toArray) : StrsAt w (some ⟨b, 0, none⟩) l := by
  refine .inr ⟨b, 0, rfl, fun j x hx => ?_⟩
  rw [cell_of_row w b _ cs t fr h, e]
  simp [hx]

def digB (c : Int) : Bool := decide (48 ≤ c ∧ c ≤ 57)
def letB (c : Int) : Bool := decide (97 ≤ bits .or .u8 c 32 ∧ bits .or .u8 c 32 ≤ 122 ∧ 65 ≤ c)
def badB (i : Nat) (c : Int) : Bool := (!digB c && !letB c && decide (c ≠ 95)) || (digB c && decide (i = 0))
def goodB : Nat → List UInt8 → Bool
  | _, [] => true
  | i, b :: r => !badB i (b.toNat : Int) && goodB (i + 1) r
theorem goodB_drop (l : List UInt8) (k : Nat) (b : UInt8) (h : l[k]? = some b) : goodB k (l.drop k) = (!badB k (b.toNat : Int) && goodB (k + 1) (l.drop (k + 1))) := by
  have hl : k < l.length := (List.getElem?_eq_some_iff.1 h).1
  rw [List.drop_eq_getElem_cons hl]
  have : l[k] = b := (List.getElem?_eq_some_iff.1 h).2
  rw [this]; rfl
def declB (s : ByteArray) : Bool := decide (s.size ≠ 0 ∧ s.size ≤ 40) && !memB s ownL && !memB s [⟨#[97, 110, 121]⟩, ⟨#[115, 116, 114, 117, 99, 116]⟩] && goodB 0 s.data.toList

theorem size_zero (s : ByteArray) (h : s.toList = []) : s.size = 0 := by
  rw [Lib.toList_data] at h
  simp only [ByteArray.size]
  rw [← Array.length_toList, h]; rfl
theorem size_pos (s : ByteArray) (h : ¬ s.toList = []) : s.size ≠ 0 := fun e => h (by
  rw [Lib.toList_data]
  exact List.eq_nil_of_length_eq_zero (by simpa using e))

theorem badB_iff (i : Nat) (c : Int) : badB i c = true ↔ (((c < 48 ∨ 57 < c) ∧ ¬ (97 ≤ bits .or .u8 c 32 ∧ bits .or .u8 c 32 ≤ 122 ∧ 65 ≤ c) ∧ c ≠ 95) ∨ (48 ≤ c ∧ c ≤ 57 ∧ i = 0)) := by
  simp only [badB, digB, letB, Bool.or_eq_true, Bool.and_eq_true, decide_eq_true_iff, Bool.not_eq_true', decide_eq_false_iff_not]
  omega
theorem bad_yes {i : Nat} {c : Int} (h : ((c < 48 ∨ 57 < c) ∧ ¬ (97 ≤ bits .or .u8 c 32 ∧ bits .or .u8 c 32 ≤ 122 ∧ 65 ≤ c) ∧ c ≠ 95) ∨ (48 ≤ c ∧ c ≤ 57 ∧ i = 0)) : badB i c = true := (badB_iff i c).2 h
theorem bad_no {i : Nat} {c : Int} (h : ¬ (((c < 48 ∨ 57 < c) ∧ ¬ (97 ≤ bits .or .u8 c 32 ∧ bits .or .u8 c 32 ≤ 122 ∧ 65 ≤ c) ∧ c ≠ 95) ∨ (48 ≤ c ∧ c ≤ 57 ∧ i = 0))) : badB i c = false :=
  Bool.eq_false_iff.2 fun hb => h ((badB_iff i c).1 hb)
theorem new2 (w : World) (o o' : Obj) : ((w.alloc o).alloc o').heap[w.heap.size + 1]? = some o' := by simpa using heap_alloc_new (w.alloc o) o'
theorem and_yes {a b : Bool} (h : a = true) : (!a && b) = false := by simp [h]
theorem and_no {a b : Bool} (h : a = false) : (!a && b) = b := by simp [h]

def anyL : List ByteArray := [⟨#[97, 110, 121]⟩, ⟨#[115, 116, 114, 117, 99, 116]⟩]
set_option maxRecDepth 100000 in
set_option maxHeartbeats 2000000 in
theorem declared_any (s : ByteArray) (w : World) (ho : OwnAt w) :
    Calls Tryd.prog 93 #[.string s] w fun e w' => e = .returned (.bool (declB s)) ∧ Below w.heap.size w w' := by
  obtain ⟨o0, o1, o2, o3, o4, o5, o6, o7⟩ := ho.eight
  have hz : 0 < w.heap.size := cell_lt o0
  by_cases he : s.toList = []
  · have hd : declB s = false := by simp [declB, size_zero s he]
    have HD := Lib.hid hd
    clear hd
    go_enter Tryd.func93, Tryd.ntmps93
    go_wp2_with fail
    go_ret
    exact ⟨ret_bool HD.out.symm, ((Below.refl _ _).alloc (Nat.le_refl _) _)⟩
  have he' : s.toList.isEmpty = false := by simpa using he
  have hnz := size_pos s he
  by_cases h40 : s.size ≤ 40
  rotate_left
  · have hd : declB s = false := by simp [declB, h40]
    have HD := Lib.hid hd
    clear hd
    have h41 : (40 : Int) < (s.size : Int) := by omega
    go_enter Tryd.func93, Tryd.ntmps93
    go_wp2_with fail
    go_ret
    exact ⟨ret_bool HD.out.symm, ((Below.refl _ _).alloc (Nat.le_refl _) _)⟩
  have h41 : (s.size : Int) ≤ 40 := by omega
  by_cases hm1 : memB s ownL = true
  · have hd : declB s = false := by simp [declB, hm1]
    have HD := Lib.hid hd
    clear hd
    go_enter Tryd.func93, Tryd.ntmps93
    go_wp2_with (go_at_call 118; refine (contains_any ownL _ _ _ _ (by decide) (by exact strs_block (heap_alloc_new w _) ownL rfl)).mono ?_; rintro e w1 ⟨rfl, rfl⟩)
    go_ret
    exact ⟨ret_bool HD.out.symm, ((Below.refl _ _).alloc (Nat.le_refl _) _)⟩
  have hm1' : memB s ownL = false := by simpa using hm1
  by_cases hm2 : memB s anyL = true
  · have hd : declB s = false := by unfold anyL at hm2; simp [declB, hm2]
    have HD := Lib.hid hd
    clear hd
    go_enter Tryd.func93, Tryd.ntmps93
    go_wp2_with fail
    refine (contains_any ownL _ _ _ _ (by decide) (by exact strs_block (heap_alloc_new w _) ownL rfl)).mono ?_
    rintro e w1 ⟨rfl, rfl⟩
    go_wp2_with fail
    refine (contains_any anyL _ _ _ _ (by decide) (by exact strs_block (new2 _ _ _) anyL rfl)).mono ?_
    rintro e w1 ⟨rfl, rfl⟩
    go_wp2_with fail
    go_ret
    exact ⟨ret_bool HD.out.symm, ((Below.refl _ _).alloc (Nat.le_refl _) _).alloc (by simp) _⟩
  have hm2' : memB s anyL = false := by simpa using hm2
  have hd : declB s = goodB 0 s.data.toList := by unfold anyL at hm2'; simp only [declB, hm1', hm2']; simp [hnz, h40]
  have HD := Lib.hid hd
  clear hd
  obtain ⟨C, wb, hcv, hbb, hcell⟩ := bytes_of ((w.alloc (.cells #[.string ⟨#[110, 105, 108]⟩, .string ⟨#[98, 111, 111, 108]⟩, .string ⟨#[105, 110, 116]⟩, .string ⟨#[102, 108, 111, 97, 116]⟩, .string ⟨#[116, 101, 120, 116]⟩, .string ⟨#[108, 105, 115, 116]⟩, .string ⟨#[109, 97, 112]⟩, .string ⟨#[102, 117, 110, 99]⟩] 175)).alloc (.cells #[.string ⟨#[97, 110, 121]⟩, .string ⟨#[115, 116, 114, 117, 99, 116]⟩] 9)) s (w.heap.size + 1 + 1) (by simp)
  have hbw : Below w.heap.size w wb := (((Below.refl _ _).alloc (Nat.le_refl _) _).alloc (by simp) _).trans (hbb.mono (by omega))
  clear hbb
  go_enter Tryd.func93, Tryd.ntmps93
  go_wp2_with fail
  refine (contains_any ownL _ _ _ _ (by decide) (by exact strs_block (heap_alloc_new w _) ownL rfl)).mono ?_
  rintro e w1 ⟨rfl, rfl⟩
  go_wp2_with fail
  refine (contains_any anyL _ _ _ _ (by decide) (by exact strs_block (new2 _ _ _) anyL rfl)).mono ?_
  rintro e w1 ⟨rfl, rfl⟩
  go_wp2_with fail
  go_loopg [28] s.size (fun g i wr => ∃ k : Nat, k ≤ s.size ∧ i = .int .i64 k ∧ g = s.size - k ∧ wb = wr ∧ goodB 0 s.data.toList = goodB k (s.data.toList.drop k))
  case atStart => exact ⟨0, by omega, rfl, by omega, rfl, by simp⟩
  case round =>
    obtain ⟨k, hk, rfl, rfl, rfl, hn⟩ := hrel
    have HN := Lib.hid hn
    have HB := Lib.hid hbw
    clear hn hcv hbw hm1 hm1' hm2 hm2' he he'
    by_cases hlt : k < s.size
    · obtain ⟨x, hx⟩ : ∃ x, s.data.toList[k]? = some x := ⟨_, List.getElem?_eq_getElem (by simpa using hlt)⟩
      have hc := hcell k x hx
      have HX := Lib.hid hx
      clear hx hcell
      have hx0 : (0 : Int) ≤ (x.toNat : Int) := by omega
      have hx1 : (x.toNat : Int) ≤ 255 := by have := x.toNat_lt; omega
      have hs0 := goodB_drop s.data.toList k x HX.out
      have HS := Lib.hid hs0
      clear hs0
      obtain ⟨q, hkb, HK⟩ : ∃ q : Bool, ((k : Int) == 0) = q ∧ Hid (q = decide (k = 0)) := ⟨_, rfl, nz k⟩
      rcases q with _ | _
      all_goals
        have HK2 : Hid ((k = 0 ∧ decide (k = 0) = true) ∨ (0 < k ∧ decide (k = 0) = false)) := by
          rcases Nat.eq_zero_or_pos k with h | h
          · exact .inl ⟨h, decide_eq_true h⟩
          · exact .inr ⟨h, decide_eq_false (by omega)⟩
        go_wp2
        all_goals first
          | (go_ret
             exact ⟨ret_bool ((HD.out.trans HN.out).trans (HS.out.trans (and_yes (bad_yes (by have h1 := HK.out; rcases HK2.out with ⟨h2, h3⟩ | ⟨h2, h3⟩ <;> rw [h3] at h1 <;> first | omega | cases h1))))).symm, HB.out⟩)
          | (go_roundg (s.size - (k + 1))
             case measure => omega
             case rel => exact ⟨k + 1, by omega, by go_num, rfl, rfl, HN.out.trans (HS.out.trans (and_no (bad_no (by have h1 := HK.out; rcases HK2.out with ⟨h2, h3⟩ | ⟨h2, h3⟩ <;> rw [h3] at h1 <;> first | omega | cases h1))))⟩)
    · have hkl : k = s.size := by omega
      subst hkl
      clear hcell
      go_wp2
      go_ret
      refine ⟨ret_bool ?_, HB.out⟩
      rw [HD.out, HN.out, List.drop_of_length_le (by simp)]
      rfl
end Go.Proofs.YthdmmhiifkebeaaDoor
