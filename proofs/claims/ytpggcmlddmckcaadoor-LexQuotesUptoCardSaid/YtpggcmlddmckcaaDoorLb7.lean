/-
  Slices of a text; tokens and errors as values; the order of texts. Written by an AI agent.
-/
import Derived.Test.YtpggcmlddmckcaaDoorLb6
namespace Go.Proofs.YtpggcmlddmckcaaDoor
open Go.RowKit Go.Sort

theorem ext_bs (s : ByteArray) (a b : Nat) : s.extract a b = bs ((s.data.toList.drop a).take (b - a)) := bs_ext s.data.toList a b
theorem ext_end (s : ByteArray) (a : Nat) : s.extract a s.size = bs (s.data.toList.drop a) := by
  rw [ext_bs, List.take_of_length_le (by simp)]
theorem sl_from {s : ByteArray} {k : Nat} (hk : k ≤ s.size) {x : Int} (hx : x = k) (w : World) : (Instr.slice 9 (.string s) (some (.int .i64 x)) none none).run Tryd.prog w = .ok (.string (bs (s.data.toList.drop k))) w := by
  subst hx
  rw [run_slice_string_l _ _ _ Tryd.underlying9 _ _ (by omega) (by omega), Int.toNat_natCast, ext_end]
theorem sl_to {s : ByteArray} {a b : Nat} (hab : a ≤ b) (hb : b ≤ s.size) {x y : Int} (hx : x = a) (hy : y = b) (w : World) : (Instr.slice 9 (.string s) (some (.int .i64 x)) (some (.int .i64 y)) none).run Tryd.prog w = .ok (.string (bs ((s.data.toList.drop a).take (b - a)))) w := by
  subst hx hy
  rw [run_slice_string _ _ _ _ _ _ _ Tryd.underlying9 (by omega) (by omega) (by omega), Int.toNat_natCast, Int.toNat_natCast, ext_bs]
theorem bs_idx {l : List UInt8} {k : Nat} {c : UInt8} (h : l[k]? = some c) {x : Int} (hx : x = k) (w : World) : (Instr.index 9 (.string (bs l)) (.int .i64 x)).run Tryd.prog w = .ok (.int .u8 (c.toNat : Int)) w := by
  obtain ⟨hk, e⟩ := List.getElem?_eq_some_iff.1 h
  have hk' : k < (bs l).size := by rw [bs_size]; exact hk
  rw [idx_str hk' hx w]
  have := at_str (bs l) k hk'
  rw [bs_list, h] at this
  injection this with this
  rw [this]

def tokC (t : Tok) : Array Value := #[.int .i64 t.kind, .string (bs t.text), .int .i64 t.place]
def tokV (t : Tok) : Value := .agg (tokC t)
def WrongB (w w' : World) (g : Nat) (b : Bad) : Prop := w.heap.size ≤ g ∧ Blk w' g 26 #[.int .i64 b.code, .int .i64 b.place, .string ⟨#[]⟩]
theorem WrongB.below {w w' w2 : World} {g : Nat} {b : Bad} (h : WrongB w w' g b) (hb : Below w'.heap.size w' w2) : WrongB w w2 g b := ⟨h.1, h.2.below hb h.2.lt⟩
theorem WrongB.from {w0 w w' : World} {g : Nat} {b : Bad} (h : WrongB w w' g b) (hb : w0.heap.size ≤ w.heap.size) : WrongB w0 w' g b := ⟨Nat.le_trans hb h.1, h.2⟩
/-- What a reader of one token hands back. -/
def OneR (a0 : Nat) (r : Ans (Tok × Nat)) (w : World) (e : Ending) (w' : World) : Prop := Below w.heap.size w w' ∧ match r with
  | .ok x => e = .returned (.tuple #[tokV x.1, .int .i64 ((a0 + x.2 : Nat) : Int), .pointer none])
  | .bad b => ∃ t n g, e = .returned (.tuple #[tokV t, .int .i64 n, .pointer (some ⟨g, 0, none⟩)]) ∧ WrongB w w' g b
theorem OneR.ok {a0 : Nat} {x : Tok × Nat} {w w' : World} {e : Ending} (hb : Below w.heap.size w w') (he : e = .returned (.tuple #[tokV x.1, .int .i64 ((a0 + x.2 : Nat) : Int), .pointer none])) : OneR a0 (.ok x) w e w' := ⟨hb, he⟩
theorem OneR.bad {a0 : Nat} {b : Bad} {w w' : World} {e : Ending} (hb : Below w.heap.size w w') (t : Tok) (n : Int) (g : Nat) (he : e = .returned (.tuple #[tokV t, .int .i64 n, .pointer (some ⟨g, 0, none⟩)])) (hg : WrongB w w' g b) : OneR a0 (.bad b) w e w' := ⟨hb, t, n, g, he, hg⟩

theorem bytes_less : ∀ (a b : List UInt8), Op.bytesLess a b = lessB a b
  | [], [] => rfl
  | [], _ :: _ => rfl
  | _ :: _, [] => rfl
  | a :: l, b :: m => by
    have ih := bytes_less l m
    unfold Op.bytesLess lessB
    rw [ih]
    by_cases h1 : a.toNat < b.toNat
    · simp [UInt8.lt_iff_toNat_lt, h1]
    · by_cases h2 : b.toNat < a.toNat
      · have : a ≠ b := fun h => by subst h; omega
        simp [UInt8.lt_iff_toNat_lt, h1, h2, this]
      · have : a = b := UInt8.toNat_inj.1 (by omega)
        subst this
        simp [UInt8.lt_iff_toNat_lt]
theorem less_gt : ∀ (a b : List UInt8), (!lessB a b && !(a == b)) = lessB b a
  | [], [] => rfl
  | [], _ :: _ => rfl
  | _ :: _, [] => rfl
  | a :: l, b :: m => by
    have ih := less_gt l m
    simp only [lessB]
    by_cases h1 : a.toNat < b.toNat
    · rw [if_pos h1, if_neg (by omega), if_pos h1]; rfl
    · rw [if_neg h1]
      by_cases h2 : b.toNat < a.toNat
      · rw [if_pos h2, if_pos h2]
        have : a ≠ b := fun h => by subst h; omega
        simp [this]
      · rw [if_neg h2, if_neg h2, if_neg h1]
        have : a = b := UInt8.toNat_inj.1 (by omega)
        subst this
        simpa using ih
theorem above_bytes (a : List UInt8) : (!Op.bytesLess a topL && !(a == topL)) = lessB topL a := by rw [bytes_less]; exact less_gt a topL
end Go.Proofs.YtpggcmlddmckcaaDoor
