/-
  Rows that a function owns: bytes, tokens; appends to them, two rows beside one another. Written by an AI agent.
-/
import Derived.Test.YtpggcmlddmckcaaDoorGv
import Derived.Test.YtpggcmlddmckcaaDoorTf
import Derived.Maps.AppendAt
import Derived.Lib.AppendStr
namespace Go.Proofs.YtpggcmlddmckcaaDoor
open Go.RowKit
set_option maxRecDepth 100000

/-- What an append leaves. -/
structure Grew (w w' : World) (v v' : Value) : Prop where
  grown : w.grownBy w' v.ownBlock
  block : v'.ownBlock = v.ownBlock ∨ v'.ownBlock = some w.heap.size
theorem own_block {w : World} {B sz n : Nat} {e : TypeId} {v : Value} {xs : List Value} (h : w.ownsRow B e sz v n xs) : v.ownBlock = none ∨ ∃ g cur, v.ownBlock = some g ∧ B ≤ g ∧ g < w.heap.size ∧ w.heap[g]? = some (.cells cur e (0, 0)) := by
  rcases h.2 with ⟨rfl, _⟩ | ⟨g, cap, cur, rfl, hB, hh, _⟩
  · exact .inl rfl
  · exact .inr ⟨g, cur, rfl, hB, (Array.getElem?_eq_some_iff.1 hh).1, hh⟩
/-- Rows of two types are two rows. -/
theorem own_ne {w : World} {B B' sz sz' n n' : Nat} {e e' : TypeId} {v v' : Value} {xs xs' : List Value} (h : w.ownsRow B e sz v n xs) (h' : w.ownsRow B' e' sz' v' n' xs') (he : e ≠ e') : v.ownBlock = none ∨ v.ownBlock ≠ v'.ownBlock := by
  rcases own_block h with g | ⟨g, cur, g1, _, _, g2⟩
  · exact .inl g
  · refine .inr fun e1 => ?_
    rcases own_block h' with k | ⟨k, cur', k1, _, _, k2⟩
    · rw [g1, k] at e1; cases e1
    · rw [g1, k1] at e1
      injection e1 with e1
      subst e1
      rw [g2] at k2
      injection k2 with k2
      injection k2 with _ k2
      exact he k2
theorem own_keep {w w' : World} {B sz n : Nat} {e : TypeId} {v : Value} {xs : List Value} {row : Option Nat} (h : w.ownsRow B e sz v n xs) (hg : w.grownBy w' row) (hne : v.ownBlock = none ∨ v.ownBlock ≠ row) : w'.ownsRow B e sz v n xs := by
  refine ⟨h.1, ?_⟩
  rcases h.2 with h0 | ⟨g, cap, cur, rfl, hB, hh, h1⟩
  · exact .inl h0
  · have hlt := (Array.getElem?_eq_some_iff.1 hh).1
    have hne' : some g ≠ row := hne.resolve_left (by simp [Value.ownBlock])
    exact .inr ⟨g, cap, cur, rfl, hB, (hg.block g hlt hne').trans hh, h1⟩
theorem own_below' {w w' : World} {B sz n : Nat} {e : TypeId} {v : Value} {xs : List Value} (h : w.ownsRow B e sz v n xs) (hb : Below w.heap.size w w') : w'.ownsRow B e sz v n xs := by
  refine ⟨h.1, ?_⟩
  rcases h.2 with h0 | ⟨g, cap, cur, rfl, hB, hh, h1⟩
  · exact .inl h0
  · exact .inr ⟨g, cap, cur, rfl, hB, (hb.block g (Array.getElem?_eq_some_iff.1 hh).1).trans hh, h1⟩
theorem own_grew {w w' : World} {B sz n : Nat} {e : TypeId} {v : Value} {xs : List Value} (h : w.ownsRow B e sz v n xs) (hB : B ≤ w.heap.size) (hg : w.grownBy w' v.ownBlock) : Below B w w' := by
  exact ⟨hg.os, hg.tape, hg.output, Nat.le_trans (Nat.le_refl _) hg.size, fun k hk => hg.block k (Nat.lt_of_lt_of_le hk hB) (fun e => by
    rcases own_block h with g | ⟨g, cur, g1, g2, _⟩
    · rw [g] at e; cases e
    · rw [g1] at e; injection e with e; omega)⟩
theorem grown_front {w0 w w' : World} {row : Option Nat} (hb : Below w0.heap.size w0 w) (hg : w.grownBy w' row) : w0.grownBy w' row :=
  ⟨hg.os.trans hb.os, hg.tape.trans hb.tape, hg.output.trans hb.output, Nat.le_trans hb.size hg.size, fun k hk hne => (hg.block k (Nat.lt_of_lt_of_le hk hb.size) hne).trans (hb.block k hk)⟩

/-- A row of bytes. -/
def BRow (w : World) (B : Nat) (v : Value) (l : List UInt8) : Prop := w.ownsRow B 5 1 v l.length (l.map byteV)
theorem BRow.nil (w : World) (B : Nat) : BRow w B (.slice none 0 0) [] := World.ownsRow_nil _ _ _ _
theorem strCells_bs (m : List UInt8) : Lib.strCells (bs m) = m.map byteV := by
  rfl
theorem byte_info : ∃ i, Tryd.prog.info? 5 = some i ∧ i.size = 1 ∧ i.bytes = 1 ∧ i.zero = some (.int .u8 0) := by
  obtain ⟨i, h1, h2⟩ := Option.map_eq_some_iff.1 (show (Tryd.prog.info? 5).map (fun i => (i.size, i.bytes, i.zero)) = some (1, 1, some (.int .u8 0)) by kernel_rfl)
  injection h2 with q1 q2
  injection q2 with q2 q3
  exact ⟨i, h1, q1, q2, q3⟩
/-- A text appended to bytes. -/
theorem app_str {w : World} {B : Nat} {v : Value} {l : List UInt8} (m : List UInt8) (h : BRow w B v l) (hB : B ≤ w.heap.size) (hz : l.length + m.length ≤ 140737488355000) (ty : TypeId) :
    ∃ v' w', (Builtin.append_ #[52, 9] ty #[v, .string (bs m)]).run Tryd.prog w = .ok v' w' ∧ (BRow w' B v' (l ++ m) ∧ w.grownBy w' v.ownBlock) := by
  obtain ⟨i, h1, h2, h3, h4⟩ := byte_info
  obtain ⟨v', w', hr, ho, hg, _⟩ := Lib.run_append_own_string (P := Tryd.prog) w B 52 9 ty 5 i Tryd.underlying52 Tryd.underlying9 h1 h4 h2 h3 v l.length _ h (bs m) (by rw [bs_size]; simp only [maxLen]; omega) (by rw [bs_size]; omega) hB
  refine ⟨v', w', hr, ?_, hg⟩
  unfold BRow
  rw [List.length_append, List.map_append, ← strCells_bs m, ← bs_size m]
  exact ho
/-- A few bytes appended, out of a row that was built for it. -/
theorem app_byt {w : World} {B : Nat} {v : Value} {l : List UInt8} (m : List UInt8) (cs : Array Value) (hcs : cs.toList = m.map byteV) (h : BRow w B v l) (hB : B ≤ w.heap.size) (hz : l.length + m.length ≤ 140737488355000) (ty : TypeId) :
    ∃ v' w', (Builtin.append_ #[52, 52] ty #[v, .slice (some ⟨w.heap.size, 0, none⟩) m.length m.length]).run Tryd.prog (w.alloc (.cells cs 5)) = .ok v' w' ∧ (BRow w' B v' (l ++ m) ∧ w.grownBy w' v.ownBlock) := by
  obtain ⟨i, h1, h2, h3, h4⟩ := byte_info
  have hba := bl_alloc (Below.refl w.heap.size w) (.cells cs 5)
  have had : ∀ g j, (⟨g, 0, none⟩ : Addr).add j = ⟨g, j, none⟩ := fun g j => by
    unfold Addr.add
    split <;> simp_all
  have hn := Blk.new w 5 cs
  obtain ⟨v', w', hr, ho, hg, _⟩ := run_append_own (P := Tryd.prog) (w := w.alloc (.cells cs 5)) B 52 ty 5 i (.int .u8 0) 1 1 Tryd.underlying52 h1 h4 h2 h3 rfl (by omega) v l.length _ (own_below' h hba)
    ⟨w.heap.size, 0, none⟩ m.length m.length (m.map byteV) (by simp) (fun j u hu => by rw [had, hn.cell, ← Array.getElem?_toList, hcs, hu]) (fun u hu => by
      obtain ⟨c, _, rfl⟩ := List.mem_map.1 hu
      rfl) (by simp only [maxLen]; omega) (by omega) (Nat.le_trans hB hba.size)
  refine ⟨v', w', hr, ?_, ?_⟩
  · unfold BRow
    rw [List.length_append, List.map_append]
    exact ho
  · exact grown_front hba hg
/-- A token appended to tokens. -/
theorem app_tok {w : World} {B : Nat} {v : Value} {ts : List Tok} (t : Tok) (h : Toks w B v ts) (hB : B ≤ w.heap.size) (hz : ts.length ≤ 1000000) (ty : TypeId) :
    ∃ v' w', (Builtin.append_ #[23, 23] ty #[v, .slice (some ⟨w.heap.size, 0, none⟩) 1 1]).run Tryd.prog (w.alloc (.cells #[.int .i64 (t.kind : Int), .string (bs t.text), .int .i64 (t.place : Int)] 48)) = .ok v' w' ∧ (Toks w' B v' (ts ++ [t]) ∧ w.grownBy w' v.ownBlock) := by
  obtain ⟨i, h1, h2'⟩ := Option.map_eq_some_iff.1 (show (Tryd.prog.info? 48).map (fun i => (i.size, i.bytes, i.zero)) = some (3, 32, some (.agg #[.int .i64 0, .string ⟨#[]⟩, .int .i64 0])) by kernel_rfl)
  injection h2' with h2 h3'
  injection h3' with h3 h4
  have hba := bl_alloc (Below.refl w.heap.size w) (.cells #[.int .i64 (t.kind : Int), .string (bs t.text), .int .i64 (t.place : Int)] 48)
  have had : ∀ g j, (⟨g, 0, none⟩ : Addr).add j = ⟨g, j, none⟩ := fun g j => by
    unfold Addr.add
    split <;> simp_all
  have hn := Blk.new w 48 #[.int .i64 (t.kind : Int), .string (bs t.text), .int .i64 (t.place : Int)]
  obtain ⟨v', w', hr, ho, hg, _⟩ := run_append_own (P := Tryd.prog) (w := w.alloc (.cells #[.int .i64 (t.kind : Int), .string (bs t.text), .int .i64 (t.place : Int)] 48)) B 23 ty 48 i _ 3 32 Tryd.underlying23 h1 h4 h2 h3 rfl (by omega) v ts.length _ (own_below' h hba)
    ⟨w.heap.size, 0, none⟩ 1 1 (tokC t).toList rfl (fun j u hu => by rw [had, hn.cell]; rw [Array.getElem?_toList] at hu; exact hu) (fun u hu => by
      rcases List.mem_cons.1 hu with rfl | hu
      · rfl
      rcases List.mem_cons.1 hu with rfl | hu
      · rfl
      rcases List.mem_cons.1 hu with rfl | hu
      · rfl
      · cases hu) (by simp only [maxLen]; omega) (by omega) (Nat.le_trans hB hba.size)
  refine ⟨v', w', hr, ?_, grown_front hba hg⟩
  unfold Toks
  rw [toksC_snoc, List.length_append]
  exact ho
end Go.Proofs.YtpggcmlddmckcaaDoor
