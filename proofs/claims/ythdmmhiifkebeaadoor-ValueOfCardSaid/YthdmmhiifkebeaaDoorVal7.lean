/-
  Contracts of slices.Clone (ints, data) and value.twin: a datum in new memory. Written by an AI agent.
-/
import Derived.Test.YthdmmhiifkebeaaDoorVal5
import Derived.Maps.AppendAt
import Derived.OwnWalk
import Derived.Lib.LazyBuf
import Derived.Deep.RegionHeld3
namespace Go.Proofs.YthdmmhiifkebeaaDoor
open Go.RowKit Go.Sort

/-- A slice whose cells, from its address on, are known, in new memory: nil, or a row from B on. -/
def CloneInt (B : Nat) (l : List Int) (w : World) (e : Ending) (w' : World) : Prop :=
  ∃ pa pc, e = .returned (.slice pa l.length pc) ∧ PathAt w' (fun b => B ≤ b) pa l ∧ l.length ≤ pc ∧ pc ≤ 9223372036854775807 ∧ Below w.heap.size w w'

theorem info_int : (Tryd.prog.info? 3).map (fun i => (i.zero, i.size, i.bytes)) = some (some (.int .i64 0), 1, 8) := by kernel_rfl
theorem own_path {w : World} {B n : Nat} {v : Value} {l : List Int} (h : w.ownsRow B 3 1 v n (l.map (Value.int .i64))) : ∃ pa pc, v = .slice pa l.length pc ∧ PathAt w (fun b => B ≤ b) pa l ∧ l.length ≤ pc ∧ pc ≤ 9223372036854775807 := by
  have hn : n = l.length := by have := h.1; simpa using this.symm
  subst hn
  rcases h.2 with ⟨rfl, h0⟩ | ⟨g, cap, cur, rfl, hg, hh, hc, hm, hs, ht⟩
  · exact ⟨none, 0, by rw [h0], .inl (List.eq_nil_of_length_eq_zero h0), by omega, by omega⟩
  · refine ⟨_, cap, rfl, .inr ⟨g, 0, rfl, hg, fun j x hx => ?_⟩, hc, by unfold maxLen at hm; exact hm⟩
    rw [cell_of_row w g _ cur _ _ hh, Nat.zero_add]
    have h1 : (cur.toList.take (l.length * 1))[j]? = some (.int .i64 x) := by rw [ht]; simp [hx]
    rw [List.getElem?_take] at h1
    split at h1
    · simpa using h1
    · cases h1

theorem add_addr (b o j : Nat) : (Addr.mk b o none).add j = ⟨b, o + j, none⟩ := by
  unfold Addr.add
  split
  · rename_i h; subst h; rfl
  · rfl
theorem path_news {w : World} {S : Nat → Prop} {ad : Addr} {l : List Int} (hp : PathAt w S (some ad) l) : ∀ (j : Nat) (u : Value), (l.map (Value.int .i64))[j]? = some u → w.cell? (ad.add j) = some u := by
  intro j u hu
  rcases hp with rfl | ⟨b, o, h1, _, h3⟩
  · simp at hu
  · injection h1 with h1
    subst h1
    rw [add_addr]
    rw [List.getElem?_map] at hu
    cases hx : l[j]? with
    | none => simp [hx] at hu
    | some x => simp [hx] at hu; rw [h3 j x hx, hu]

set_option maxRecDepth 100000 in
set_option maxHeartbeats 800000 in
theorem cloneInt_any (l : List Int) (pa : Option Addr) (pc : Nat) (w : World) (S : Nat → Prop) (hl : l.length ≤ 17592186043904) (hp : PathAt w S pa l) :
    Calls Tryd.prog 101 #[.slice pa l.length pc] w (CloneInt w.heap.size l w) := by
  cases pa with
  | none =>
    have hl0 : l = [] := by
      rcases hp with h | ⟨b, o, h, _⟩
      · exact h
      · cases h
    subst hl0
    have hnil := fun W => Lib.run_eql_slice_nil (P := Tryd.prog) W 23 3 none 0 pc 0 0 Tryd.underlying23
    simp only [Option.isNone] at hnil
    go_enter Tryd.func101, Tryd.ntmps101
    go_wp2_with fail
    go_ret
    exact ⟨none, 0, rfl, .inl rfl, by simp, by omega, Below.refl _ _⟩
  | some ad =>
    obtain ⟨i0, hi, hz0, hz1, hz2⟩ := info_parts info_int
    have hnil := fun W => Lib.run_eql_slice_nil (P := Tryd.prog) W 23 3 (some ad) l.length pc 0 0 Tryd.underlying23
    simp only [Option.isNone] at hnil
    have hp1 := path_news (hp.keep (w' := w.alloc (.cells #[] 3)) (fun b _ h => Below.heap_alloc _ _ _ h) (fun _ h _ => h))
    have HP := Lib.hid hp1
    have hown := World.ownsRow_made (base := w.heap.size) (e := 3) (size := 1) w #[] 0 (Nat.le_refl _) (by decide) rfl
    have HOWN := Lib.hid hown
    clear hp1 hown
    go_enter Tryd.func101, Tryd.ntmps101
    go_wp2_with (at_builtin; refine wpList_append_own_at _ rfl (.tmp 5) (.tmp 6) _ rfl w.heap.size 3 i0 _ 1 8 Tryd.underlying23 hi hz0 hz1 hz2 rfl (by omega) (.slice (some ⟨w.heap.size, 0, none⟩) 0 0) 0 [] rfl HOWN.out ad l.length pc (l.map (Value.int .i64)) rfl (by simp) HP.out (by simp [Value.oneCell']) (by unfold maxLen; omega) (by omega) (by simp) ?_; intro v' w' hown' hgrow _ _)
    obtain ⟨pa', pc', hv, h1, h2, h3⟩ := own_path (by simpa using hown')
    subst hv
    go_ret
    exact ⟨pa', pc', rfl, h1, h2, h3, (Below.refl _ _).alloc (Nat.le_refl _) _ |>.grown hgrow (by simp) (by intro k hk; simp [Value.ownBlock] at hk; omega)⟩

theorem info_dat : (Tryd.prog.info? 28).map (fun i => (i.zero, i.size, i.bytes)) = some (some (.agg #[.int .i64 0, .string ⟨#[]⟩, .int .i64 0, .int .u64 0, .string ⟨#[]⟩, .int .i64 0, .int .i64 0, .int .i64 0, .int .i64 0, .slice none 0 0, .slice none 0 0]), 11, 136) := by kernel_rfl

/-- The cells of a row of data, as a list. -/
theorem FoAt.list {w : World} {S : Nat → Prop} : ∀ (f : Fo) (b o : Nat), FoAt w S b o f → ∃ xs : List Value, xs.length = f.len * 11 ∧ (∀ (j : Nat) (u : Value), xs[j]? = some u → w.cell? ⟨b, o + j, none⟩ = some u) ∧ ∀ u ∈ xs, u.oneCell' = true
  | .nil, _, _, _ => ⟨[], rfl, fun j u h => by simp at h, fun u h => by simp at h⟩
  | .cons h k r, b, o, ⟨⟨pa, pc, ia, ic, h1, _⟩, h6⟩ => by
    obtain ⟨ys, y1, y2, y3⟩ := FoAt.list r b (o + 11) h6
    refine ⟨(h.cells pa pc ia k.len ic).toList ++ ys, by simp only [List.length_append, y1, Fo.len]; simp [Hd.cells]; omega, fun j u hu => ?_, fun u hu => ?_⟩
    · by_cases hj : j < 11
      · rw [List.getElem?_append_left (by simpa [Hd.cells] using hj)] at hu
        exact h1 j u (by simpa using hu)
      · rw [List.getElem?_append_right (by simp [Hd.cells]; omega)] at hu
        have := y2 _ u hu
        rwa [show o + 11 + (j - (h.cells pa pc ia k.len ic).toList.length) = o + j by simp [Hd.cells]; omega] at this
    · rw [List.mem_append] at hu
      rcases hu with hu | hu
      · simp [Hd.cells] at hu
        rcases hu with rfl | rfl | rfl | rfl | rfl | rfl | rfl | rfl | rfl | rfl | rfl <;> rfl
      · exact y3 u hu
theorem FoAt.copy {w w' : World} {S : Nat → Prop} (hk : ∀ b, S b → b < w.heap.size → w'.heap[b]? = w.heap[b]?) : ∀ (f : Fo) (b o g p : Nat), FoAt w S b o f →
    (∀ (j : Nat) (u : Value), j < f.len * 11 → w.cell? ⟨b, o + j, none⟩ = some u → w'.cell? ⟨g, p + j, none⟩ = some u) → FoAt w' S g p f
  | .nil, _, _, _, _, _, _ => trivial
  | .cons h k r, b, o, g, p, ⟨⟨pa, pc, ia, ic, h1, h2, h3, h3', h4, h4', h5⟩, h6⟩, hc => by
    refine ⟨⟨pa, pc, ia, ic, fun j v hv => hc j v ?_ (h1 j v hv), h2.keep hk (fun _ h _ => h), h3, h3', h4, h4', SlAt.keep h5 hk (fun _ h _ => h)⟩, FoAt.copy hk r b (o + 11) g (p + 11) h6 fun j u hj hu => ?_⟩
    · have : j < (h.cells pa pc ia k.len ic).size := by
        rcases Nat.lt_or_ge j (h.cells pa pc ia k.len ic).size with h | h
        · exact h
        · rw [Array.getElem?_eq_none h] at hv; cases hv
      simp [Hd.cells] at this
      simp only [Fo.len]
      omega
    · rw [Nat.add_assoc]
      exact hc (11 + j) u (by simp only [Fo.len]; omega) (by rw [← Nat.add_assoc]; exact hu)

/-- A clone of a row of data: the row is new; its elements lead where the old ones lead. -/
def CloneDat (S : Nat → Prop) (k : Fo) (w : World) (e : Ending) (w' : World) : Prop :=
  ∃ ia ic, e = .returned (.slice ia k.len ic) ∧ k.len ≤ ic ∧ ic ≤ 9223372036854775807 ∧ Below w.heap.size w w' ∧
    (k.len = 0 ∨ ∃ g cur, ia = some ⟨g, 0, none⟩ ∧ w.heap.size ≤ g ∧ Blk w' g 28 cur ∧ cur.size = ic * 11 ∧ FoAt w' S g 0 k)

set_option maxRecDepth 100000 in
set_option maxHeartbeats 800000 in
theorem cloneDat_any (k : Fo) (ia : Option Addr) (ic : Nat) (w : World) (S : Nat → Prop) (hl : k.len ≤ 1034834473200) (hp : SlAt w S ia k) :
    Calls Tryd.prog 102 #[.slice ia k.len ic] w (CloneDat S k w) := by
  cases ia with
  | none =>
    have hl0 : k.len = 0 := by
      rcases hp with h | ⟨b, o, h, _⟩
      · exact h
      · cases h
    have hnil := fun W => Lib.run_eql_slice_nil (P := Tryd.prog) W 26 28 none k.len ic 0 0 Tryd.underlying26
    simp only [Option.isNone] at hnil
    have HL := Lib.hid hl0
    clear hl0
    go_enter Tryd.func102, Tryd.ntmps102
    go_wp2_with fail
    go_ret
    exact ⟨none, 0, by rw [HL.out]; rfl, by rw [HL.out]; omega, by omega, Below.refl _ _, .inl HL.out⟩
  | some ad =>
    obtain ⟨i0, hi, hz0, hz1, hz2⟩ := info_parts info_dat
    have hnil := fun W => Lib.run_eql_slice_nil (P := Tryd.prog) W 26 28 (some ad) k.len ic 0 0 Tryd.underlying26
    simp only [Option.isNone] at hnil
    have hkeep : ∀ (b : Nat), S b → b < w.heap.size → (w.alloc (.cells #[] 28)).heap[b]? = w.heap[b]? := fun b _ h => Below.heap_alloc _ _ _ h
    obtain ⟨xs, x1, x2, x3⟩ : ∃ xs : List Value, xs.length = k.len * 11 ∧ (∀ (j : Nat) (u : Value), xs[j]? = some u → (w.alloc (.cells #[] 28)).cell? (ad.add j) = some u) ∧ ∀ u ∈ xs, u.oneCell' = true := by
      rcases hp with h | ⟨b, o, e, hS, h⟩
      · exact ⟨[], by rw [h]; rfl, fun j u h => by simp at h, fun u h => by simp at h⟩
      · injection e with e
        subst e
        obtain ⟨xs, x1, x2, x3⟩ := FoAt.list k b o (FoAt.keep hkeep (fun _ h _ => h) k b o hS h)
        exact ⟨xs, x1, fun j u hu => by rw [add_addr]; exact x2 j u hu, x3⟩
    have HP := Lib.hid x2
    have hown := World.ownsRow_made (base := w.heap.size) (e := 28) (size := 11) w #[] 0 (Nat.le_refl _) (by decide) rfl
    have HOWN := Lib.hid hown
    clear x2 hown
    go_enter Tryd.func102, Tryd.ntmps102
    go_wp2_with (at_builtin; refine wpList_append_own_at _ rfl (.tmp 5) (.tmp 6) _ rfl w.heap.size 28 i0 _ 11 136 Tryd.underlying26 hi hz0 hz1 hz2 rfl (by omega) (.slice (some ⟨w.heap.size, 0, none⟩) 0 0) 0 [] rfl HOWN.out ad k.len ic xs rfl x1 HP.out x3 (by unfold maxLen; omega) (by omega) (by simp) ?_; intro v' w' hown' hgrow hiff _)
    have hb : Below w.heap.size w w' := ((Below.refl _ _).alloc (Nat.le_refl _) _).grown hgrow (by simp) (by intro k hk; simp [Value.ownBlock] at hk; omega)
    have hv : ∃ ia' ic', v' = .slice ia' k.len ic' ∧ k.len ≤ ic' ∧ ic' ≤ 9223372036854775807 ∧ (k.len = 0 ∨ ∃ g cur, ia' = some ⟨g, 0, none⟩ ∧ w.heap.size ≤ g ∧ Blk w' g 28 cur ∧ cur.size = ic' * 11 ∧ FoAt w' S g 0 k) := by
      simp only [Nat.zero_add, List.nil_append] at hown'
      rcases hown'.2 with ⟨rfl, h0⟩ | ⟨g, cap, cur, rfl, hg, hh, hc, hm, hs, ht⟩
      · exact ⟨none, 0, by rw [h0], by omega, by omega, .inl h0⟩
      · refine ⟨_, cap, rfl, hc, by unfold maxLen at hm; exact hm, ?_⟩
        rcases hp with h | ⟨b, o, e, hS, h⟩
        · exact .inl h
        · refine .inr ⟨g, cur, rfl, hg, hh, hs, FoAt.copy (fun b _ h => hb.block b h) k b o g 0 h fun j u hj hu => ?_⟩
          have e1 := HP.out j (xs[j]'(by omega)) (List.getElem?_eq_getElem (by omega))
          injection e with e
          rw [e, add_addr, World.cell?_alloc_lt _ _ _ (cell_lt hu), hu] at e1
          rw [Nat.zero_add, cell_of_row w' g _ cur _ _ hh]
          have h1 : (cur.toList.take (k.len * 11))[j]? = some (xs[j]'(by omega)) := by rw [ht]; exact List.getElem?_eq_getElem (by omega)
          rw [List.getElem?_take, if_pos hj] at h1
          injection e1 with e1
          rw [← e1] at h1
          simpa using h1
    obtain ⟨ia', ic', rfl, h1, h2, h3⟩ := hv
    go_ret
    exact ⟨ia', ic', rfl, h1, h2, hb, h3⟩
end Go.Proofs.YthdmmhiifkebeaaDoor
