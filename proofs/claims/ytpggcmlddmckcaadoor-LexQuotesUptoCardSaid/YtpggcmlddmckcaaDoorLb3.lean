/-
  What lies in the package-level variables; contracts of Words, Word of package lex; of sixteenth and six. Written by an AI agent.
-/
import Derived.Test.YtpggcmlddmckcaaDoorLb2
import Derived.Test.YtpggcmlddmckcaaDoorShelf
import Derived.WalkSmall
import Derived.Deep.WholeRow
import Derived.Lib.LaidTab
namespace Go.Proofs.YtpggcmlddmckcaaDoor
open Go.RowKit

theorem strs_block {w : World} {b : Nat} {cs : Array Value} {t : TypeId} {fr : Nat × Nat} (h : w.heap[b]? = some (.cells cs t fr)) (l : List ByteArray) (e : cs = (l.map Value.string).toArray) : StrsAt w (some ⟨b, 0, none⟩) l := by
  refine .inr ⟨b, 0, rfl, fun j x hx => ?_⟩
  rw [cell_of_row w b _ cs t fr h, e]
  simp [hx]
theorem bs_inj {a b : List UInt8} (h : bs a = bs b) : a = b := by have := congrArg (fun s : ByteArray => s.data.toList) h; exact this
def wordsS : List ByteArray := wordsL.map bs
def wordsC : Array Value := (wordsS.map Value.string).toArray
theorem memB_bs (l : List UInt8) (L : List (List UInt8)) : memB (bs l) (L.map bs) = L.contains l := by
  rw [Bool.eq_iff_iff, memB_iff, List.contains_iff_mem, List.mem_map]
  exact ⟨fun ⟨x, h, e⟩ => bs_inj e ▸ h, fun h => ⟨l, h, rfl⟩⟩
theorem memB_words (l : List UInt8) : memB (bs l) wordsS = wordB l := memB_bs l wordsL

/-- What the variables hold: the words; the table of blanks; some number. -/
structure LexAt (w : World) : Prop where
  words : w.var? Tryd.prog "guise/lex.words" = some wordsC
  blanks : Lib.TabIs Tryd.prog w "strings.asciiSpace" .u8 Lib.asciiSpaceTab
  room : ∃ m, w.cell? ⟨1, 0, none⟩ = some (.int .i64 m)
  size : 5 ≤ w.heap.size
theorem LexAt.below {w w' : World} {B : Nat} (h : LexAt w) (hb : Below B w w') (hB : w.heap.size ≤ B) : LexAt w' := by
  have hz := h.size
  obtain ⟨m, hm⟩ := h.room
  exact ⟨var?_below (g := 0) hb (by kernel_rfl) (by omega) h.words, var?_below (g := 2) hb (by kernel_rfl) (by omega) h.blanks, ⟨m, (hb.cell (p := ⟨1, 0, none⟩) (show 1 < B by omega)).trans hm⟩, Nat.le_trans hz hb.size⟩
theorem LexAt.row {w : World} (h : LexAt w) : ∃ t fr, w.heap[0]? = some (.cells wordsC t fr) := by
  have hv := h.words
  unfold World.var? at hv
  rw [show Tryd.prog.globalNamed "guise/lex.words" = some 0 by kernel_rfl, Option.bind_some] at hv
  split at hv
  · injection hv with hv
    subst hv
    rename_i cs t fr he
    exact ⟨t, fr, he⟩
  · cases hv

set_option maxRecDepth 100000 in
theorem Words_any (w : World) (h : LexAt w) : Calls Tryd.prog 22 #[] w fun e w' => e = .returned (.slice (some ⟨w.heap.size, 0, none⟩) 22 22) ∧ w.alloc (.cells wordsC 69) = w' := by
  obtain ⟨t, fr, hg⟩ := h.row
  have hst := run_storeCells_new (P := Tryd.prog) w 69 #[.string ⟨#[]⟩, .string ⟨#[]⟩, .string ⟨#[]⟩, .string ⟨#[]⟩, .string ⟨#[]⟩, .string ⟨#[]⟩, .string ⟨#[]⟩, .string ⟨#[]⟩, .string ⟨#[]⟩, .string ⟨#[]⟩, .string ⟨#[]⟩, .string ⟨#[]⟩, .string ⟨#[]⟩, .string ⟨#[]⟩, .string ⟨#[]⟩, .string ⟨#[]⟩, .string ⟨#[]⟩, .string ⟨#[]⟩, .string ⟨#[]⟩, .string ⟨#[]⟩, .string ⟨#[]⟩, .string ⟨#[]⟩] wordsC (by kernel_rfl) (by kernel_rfl) (by kernel_rfl)
  go_enter Tryd.func22, Tryd.ntmps22
  go_wp2_with (refine wpList_load_row rfl 69 _ rfl 0 rfl t _ fr _ hg Tryd.underlying69 rfl (by kernel_rfl) ?_)
  go_ret
  exact ⟨rfl, rfl⟩
theorem Word_any (s : ByteArray) (w : World) (h : LexAt w) : Calls Tryd.prog 23 #[.string s] w fun e w' => e = .returned (.bool (wordB s.data.toList)) ∧ Below w.heap.size w w' := by
  have hW := Words_any w h
  have hC := contains_any wordsS s (some ⟨w.heap.size, 0, none⟩) 22 _ (by decide) (strs_block (heap_alloc_new w (.cells wordsC 69)) wordsS rfl)
  rw [show memB s wordsS = wordB s.data.toList from memB_words s.data.toList] at hC
  have HW := Lib.hid hW
  have HC := Lib.hid hC
  clear hW hC h
  go_enter Tryd.func23, Tryd.ntmps23
  go_wp2_with fail
  refine HW.out.mono ?_
  rintro e w' ⟨rfl, rfl⟩
  go_wp2_with fail
  refine HC.out.mono ?_
  rintro e w' ⟨rfl, rfl⟩
  go_wp2_with fail
  go_ret
  exact ⟨rfl, (Below.refl _ _).alloc (Nat.le_refl _) _⟩
theorem sixteenth_any (c : UInt8) (w : World) : Calls Tryd.prog 63 #[.int .u8 c.toNat] w fun e w' => e = .returned (.int .i64 (hexV c)) ∧ w = w' := by
  go_enter Tryd.func63, Tryd.ntmps63
  go_wp2_with fail
  refine (Tryd.strings_IndexByte _ _ _).mono ?_
  rintro e w' ⟨rfl, rfl⟩
  go_wp2_with fail
  go_ret
  refine ⟨ret_int ?_, rfl⟩
  revert c
  apply byte_all
  decide +kernel
theorem six_any (c : UInt8) (w : World) : Calls Tryd.prog 62 #[.int .u8 c.toNat] w fun e w' => e = .returned (.int .i64 (hexV c)) ∧ w = w' := by
  go_enter Tryd.func62, Tryd.ntmps62
  go_wp2_with (go_at_call 44; refine (rdigit_any _ _).mono ?_; rintro e w' ⟨rfl, rfl⟩)
  all_goals
    go_ret
    refine ⟨ret_int ?_, rfl⟩
    unfold hexV isDig
    simp only [digN, decide_eq_true_iff, decide_eq_false_iff_not] at *
    repeat' split
    all_goals omega
end Go.Proofs.YtpggcmlddmckcaaDoor
