/-
  A row of tokens, its cells one token at a time; what a scan's answer is for a law. Written by an AI agent.
-/
import Derived.Test.YtpggcmlddmckcaaDoorKn2
import Derived.Test.YtpggcmlddmckcaaDoorLp
namespace Go.Proofs.YtpggcmlddmckcaaDoor
open Go.RowKit Go.Sort
set_option maxRecDepth 100000

theorem toksC_get : ∀ (ts : List Tok) (i j : Nat) (t : Tok), ts[i]? = some t → j < 3 → (toksC ts)[i * 3 + j]? = (tokC t)[j]?
  | [], i, j, t, h, _ => by simp at h
  | u :: ts, 0, j, t, h, hj => by
    have h : u = t := by simpa using h
    subst h
    have hz : (tokC u).toList.length = 3 := by simp [tokC]
    show (toksC (u :: ts))[0 * 3 + j]? = _
    unfold toksC
    rw [List.flatMap_cons, List.getElem?_append_left (by omega), Array.getElem?_toList, Nat.zero_mul, Nat.zero_add]
  | u :: ts, i + 1, j, t, h, hj => by
    have hz : (tokC u).toList.length = 3 := by simp [tokC]
    have ih := toksC_get ts i j t (by simpa using h) hj
    unfold toksC at ih ⊢
    rw [List.flatMap_cons, List.getElem?_append_right (by omega), hz, show (i + 1) * 3 + j - 3 = i * 3 + j by omega]
    exact ih
/-- The three cells of a token. -/
def TokCells (w : World) (g i : Nat) (t : Tok) : Prop := w.cell? ⟨g, i * 3, none⟩ = some (.int .i64 t.kind) ∧ w.cell? ⟨g, i * 3 + 1, none⟩ = some (.string (bs t.text)) ∧ w.cell? ⟨g, i * 3 + 2, none⟩ = some (.int .i64 t.place)
/-- Where the cells of a row of tokens lie. -/
def TokRow (w : World) (d : Option Addr) (ts : List Tok) : Prop := 0 < ts.length → ∃ g, d = some ⟨g, 0, none⟩ ∧ g < w.heap.size ∧ ∀ i t, ts[i]? = some t → TokCells w g i t
theorem Toks.form {w : World} {B : Nat} {v : Value} {ts : List Tok} (h : Toks w B v ts) : ∃ d cap, v = .slice d ts.length cap ∧ TokRow w d ts := by
  by_cases hn : 0 < ts.length
  · obtain ⟨g, cap, rfl, hB, hg, hc⟩ := h.cells hn
    refine ⟨_, cap, rfl, fun _ => ⟨g, rfl, hg, fun i t hi => ?_⟩⟩
    have hil := (List.getElem?_eq_some_iff.1 hi).1
    have key : ∀ j, j < 3 → w.cell? ⟨g, i * 3 + j, none⟩ = (tokC t)[j]? := fun j hj => by
      rw [hc _ (by omega), toksC_get ts i j t hi hj]
    exact ⟨key 0 (by omega), key 1 (by omega), key 2 (by omega)⟩
  · have h0 : ts = [] := List.eq_nil_of_length_eq_zero (by omega)
    subst h0
    rcases h.nil_of with rfl | ⟨g, cap, rfl⟩
    · exact ⟨none, 0, rfl, fun h => absurd h hn⟩
    · exact ⟨some ⟨g, 0, none⟩, cap, rfl, fun h => absurd h hn⟩
theorem TokCells.below {w w' : World} {g i : Nat} {t : Tok} (h : TokCells w g i t) (hb : Below w.heap.size w w') (hg : g < w.heap.size) : TokCells w' g i t := by
  have hc : ∀ b o, b < w.heap.size → w'.cell? ⟨b, o, none⟩ = w.cell? ⟨b, o, none⟩ := fun b o h => hb.cell (p := ⟨b, o, none⟩) h
  exact ⟨(hc _ _ hg).trans h.1, (hc _ _ hg).trans h.2.1, (hc _ _ hg).trans h.2.2⟩
theorem TokRow.below {w w' : World} {d : Option Addr} {ts : List Tok} (h : TokRow w d ts) (hb : Below w.heap.size w w') : TokRow w' d ts := fun hn => by
  obtain ⟨g, e, hg, hc⟩ := h hn
  exact ⟨g, e, Nat.lt_of_lt_of_le hg hb.size, fun i t hi => (hc i t hi).below hb hg⟩
theorem TokRow.at {w : World} {d : Option Addr} {ts : List Tok} (h : TokRow w d ts) (i : Nat) (hi : i < ts.length) : ∃ g, d = some ⟨g, 0, none⟩ ∧ g < w.heap.size ∧ TokCells w g i ts[i] := by
  obtain ⟨g, e, hg, hc⟩ := h (by omega)
  exact ⟨g, e, hg, hc i _ (List.getElem?_eq_getElem hi)⟩
/-- What a scan hands back: the list, and the error. -/
def ScanP (r : Ans (List Tok)) (w w' : World) (x ev : Value) : Prop := match r with
  | .ok ts => ev = .nilIface ∧ Toks w' w.heap.size x ts
  | .bad b => x = .slice none 0 0 ∧ ∃ g, ev = .iface 58 (.pointer (some ⟨g, 0, none⟩)) ∧ WrongB w w' g b
theorem scan_p (s : ByteArray) (w : World) (hL : LexAt w) : Calls Tryd.prog 12 #[.string s] w fun e w' => ∃ x ev, e = .returned (.tuple #[x, ev]) ∧ ScanP (scan s.data.toList) w w' x ev ∧ Below w.heap.size w w' :=
  (scan_any s w hL).mono fun e w' h => by
    obtain ⟨hb, h⟩ := h
    cases hr : scan s.data.toList with
    | ok ts =>
      rw [hr] at h
      obtain ⟨v, he, ht⟩ := h
      exact ⟨_, _, he, ⟨rfl, ht⟩, hb⟩
    | bad b =>
      rw [hr] at h
      obtain ⟨g, he, hg⟩ := h
      exact ⟨_, _, he, ⟨rfl, g, rfl, hg⟩, hb⟩
theorem code_bad' {w0 w : World} {g : Nat} {b : Bad} (h : WrongB w0 w g b) : Calls Tryd.prog 27 #[.iface 58 (.pointer (some ⟨g, 0, none⟩))] w fun e w' => e = .returned (.tuple #[.int .i64 (b.code : Int), .int .i64 (b.place : Int)]) ∧ Below w.heap.size w w' := code_bad w g _ _ h.2
end Go.Proofs.YtpggcmlddmckcaaDoor
