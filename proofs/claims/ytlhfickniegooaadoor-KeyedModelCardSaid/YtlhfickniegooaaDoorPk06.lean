/-
  A map of package keyed in memory: its entries in their order, its chains; what a store does to it. Contracts of package value's smallest functions: plain, leads, and slices.ContainsFunc at leads' own literal. Each: for all arguments of which the memory is as said. Contracts of slices.Index and slices.Contains at strings. For every list of strings that lies in memory. Contract of value.declared: for every text. Written by an AI agent.
-/
import Derived.Test.YtlhfickniegooaaDoorProg
import Derived.Test.YtlhfickniegooaaDoorPk04
import Derived.Test.YtlhfickniegooaaDoorPk01
import Derived.WalkLawsBesides
import Derived.WalkSpells
import Derived.Deep.LoopGhost
import Derived.Lib.Hide
import Derived.Outline
import Derived.Lib.Strings
import Derived.Lib.ConvBytes
import Derived.Deep.Cut
import Derived.Deep.DeepCutAuto
namespace Go.Proofs.YtlhfickniegooaaDoor
open Go.RowKit
set_option maxRecDepth 100000

/-- An entry of a map: its block, its key and value, its number, whether its key is equal to itself. -/
structure En where
  g : Nat
  key : Dt
  val : Dt
  hash : Int
  own : Bool
def En.p (e : En) : Addr := ⟨e.g, 0, none⟩
def pO (o : Option En) : Option Addr := o.map En.p
def cs27 (k v : Dt) (mk mv : Dm) (h : Int) (nx bf af : Option Addr) (ow : Bool) : Array Value := ⟨[.int .i64 k.h.kind, .string k.h.type, .int .i64 k.h.n, .int .u64 k.h.f, .string k.h.s, .int .i64 k.h.obj, .int .i64 k.h.frm, .int .i64 k.h.len, .int .i64 k.h.cap, .slice mk.pa k.h.path.length mk.pc, .slice mk.ia k.k.len mk.ic,
  .int .i64 v.h.kind, .string v.h.type, .int .i64 v.h.n, .int .u64 v.h.f, .string v.h.s, .int .i64 v.h.obj, .int .i64 v.h.frm, .int .i64 v.h.len, .int .i64 v.h.cap, .slice mv.pa v.h.path.length mv.pc, .slice mv.ia v.k.len mv.ic,
  .int .u64 h, .pointer nx, .pointer bf, .pointer af, .bool ow]⟩
def En.cs (e : En) (mk mv : Dm) (nx bf af : Option Addr) : Array Value := cs27 e.key e.val mk mv e.hash nx bf af e.own
abbrev entT : TypeId := 82
abbrev mapT : TypeId := 76
/-- A part of a block's cells. -/
theorem range_of {w : World} {g : Nat} {t : TypeId} {cs : Array Value} (h : Blk w g t cs) (o n : Nat) {vs : List Value} (e : (cs.toList.drop o).take n = vs) : w.rangeAt g o vs :=
  range_blk h fun j v hj => by
    rw [← e, List.getElem?_take] at hj
    split at hj
    · rw [List.getElem?_drop] at hj
      simpa using hj
    · cases hj
theorem datInf : (Tryd.prog.info? 31).map (·.size) = some 11 := by kernel_rfl
theorem ptrInf : (Tryd.prog.info? 72).map (·.size) = some 1 := by kernel_rfl
theorem dat_load {w : World} {g o : Nat} {t : TypeId} {cs : Array Value} {d : Dt} {m : Dm} (h : Blk w g t cs) (e : (cs.toList.drop o).take 11 = (d.cs m).toList) : Lds Tryd.prog 31 (.pointer (some ⟨g, o, none⟩)) (.agg (d.cs m)) w :=
  ldsA (cs := (d.cs m).toList) Tryd.underlying31 rfl datInf (range_of h o 11 e)
theorem ent_key {w : World} {e : En} {mk mv : Dm} {nx bf af : Option Addr} (h : Blk w e.g entT (e.cs mk mv nx bf af)) : Lds Tryd.prog 31 (.pointer (some ⟨e.g, 0, none⟩)) (.agg (e.key.cs mk)) w := dat_load h rfl
theorem ent_val {w : World} {e : En} {mk mv : Dm} {nx bf af : Option Addr} (h : Blk w e.g entT (e.cs mk mv nx bf af)) : Lds Tryd.prog 31 (.pointer (some ⟨e.g, 11, none⟩)) (.agg (e.val.cs mv)) w := dat_load h rfl
theorem one_load {w : World} {g o : Nat} {t u : TypeId} {d : TypeDesc} {cs : Array Value} {v : Value} (h : Blk w g t cs) (hu : Tryd.prog.underlying u = some d) (hd : d.isRow = false) (e : cs[o]? = some v) : Lds Tryd.prog u (.pointer (some ⟨g, o, none⟩)) v w :=
  lds1 hu hd (by rw [h.cell, e])
theorem one_store {w : World} {g o : Nat} {t u : TypeId} {cs : Array Value} {v : Value} (h : Blk w g t cs) (hu : (Tryd.prog.info? u).map (·.size) = some 1) (ho : o < cs.size) (h1 : v.oneCell' = true) : (Instr.storeAt u (.pointer (some ⟨g, o, none⟩)) v).run Tryd.prog w = .ok () (w.setCells g o [v]) :=
  sts1 (there_bk h (by omega)) hu h1
theorem dat_store {w : World} {g o : Nat} {t : TypeId} {cs : Array Value} {d : Dt} {m : Dm} (h : Blk w g t cs) (ho : o + 11 ≤ cs.size) : (Instr.storeAt 31 (.pointer (some ⟨g, o, none⟩)) (.agg (d.cs m))).run Tryd.prog w = .ok () (w.setCells g o (d.cs m).toList) :=
  stsA (there_bk h (by rw [d.cs_size]; exact ho)) (by rw [d.cs_size]; exact datInf) (by simp [Dt.cs, Hd.cells, Value.oneCell'])

/-- A map's blocks: m's own, the heads', the entries'; D: where data lie, in which no map's block is. -/
structure Raw (w : World) (m hb n : Nat) (fr tx : Option Addr) (many : Int) (H N B A : Nat → Option Addr) (R : List En) (D : Nat → Prop) : Prop where
  map : ∃ cs, Blk w m mapT cs ∧ cs.size = 12 ∧ cs[8]? = some (.slice (some ⟨hb, 0, none⟩) n n) ∧ cs[9]? = some (.pointer fr) ∧ cs[10]? = some (.pointer tx) ∧ cs[11]? = some (.int .i64 many)
  heads : ∃ t hs, Blk w hb t hs ∧ n ≤ hs.size ∧ (∀ i, i < n → hs[i]? = some (.pointer (H i))) ∧ (hb = m → n = 8)
  ent : ∀ e ∈ R, ∃ mk mv, Blk w e.g entT (e.cs mk mv (N e.g) (B e.g) (A e.g)) ∧ e.key.at w D mk ∧ e.val.at w D mv
  nd : (R.map (·.g)).Nodup
  far : ∀ e ∈ R, e.g ≠ m ∧ e.g ≠ hb
  out : ¬ D m ∧ ¬ D hb ∧ ∀ e ∈ R, ¬ D e.g
  ok : ∀ e ∈ R, e.key.ok ∧ e.val.ok ∧ 0 ≤ e.hash ∧ e.hash ≤ 18446744073709551615
  dlt : ∀ b, D b → b < w.heap.size
def upd (f : Nat → Option Addr) (k : Nat) (p : Option Addr) : Nat → Option Addr := fun i => if i = k then p else f i
theorem upd_same (f : Nat → Option Addr) (k : Nat) (p : Option Addr) : upd f k p k = p := if_pos rfl
theorem upd_ne {f : Nat → Option Addr} {k i : Nat} {p : Option Addr} (h : i ≠ k) : upd f k p i = f i := if_neg h
section
variable {w w' : World} {m hb n : Nat} {fr tx : Option Addr} {many : Int} {H N B A : Nat → Option Addr} {R : List En} {D : Nat → Prop}
theorem setCells_other {g b : Nat} : ∀ (vs : List Value) (o : Nat) (w : World) (_ : b ≠ g), (w.setCells g o vs).heap[b]? = w.heap[b]?
  | [], _, _, _ => rfl
  | v :: r, o, w, h => (setCells_other r (o + 1) _ h).trans (Below.heap_setCell w ⟨g, o, none⟩ v b h)
theorem setCells_size' (g : Nat) : ∀ (vs : List Value) (o : Nat) (w : World), (w.setCells g o vs).heap.size = w.heap.size
  | [], _, _ => rfl
  | v :: r, o, w => (setCells_size' g r (o + 1) _).trans (by simp [World.setCell])
/-- All that lay stays. -/
theorem Raw.old (h : Raw w m hb n fr tx many H N B A R D) (hb' : Below w.heap.size w w') : Raw w' m hb n fr tx many H N B A R D where
  map := let ⟨cs, h1, h2⟩ := h.map; ⟨cs, h1.below hb' h1.lt, h2⟩
  heads := let ⟨t, hs, h1, h2⟩ := h.heads; ⟨t, hs, h1.below hb' h1.lt, h2⟩
  ent := fun e he => let ⟨ma, mb, h1, h2, h3⟩ := h.ent e he; ⟨ma, mb, h1.below hb' h1.lt, h2.old hb', h3.old hb'⟩
  nd := h.nd
  far := h.far
  out := h.out
  ok := h.ok
  dlt := fun b hd => Nat.lt_of_lt_of_le (h.dlt b hd) hb'.size
/-- More data. -/
theorem Raw.more (h : Raw w m hb n fr tx many H N B A R D) {D' : Nat → Prop} (hD : ∀ b, D b → D' b) (hs : ∀ b, D' b → b < w.heap.size) (hm : ¬ D' m) (hh : ¬ D' hb) (he : ∀ e ∈ R, ¬ D' e.g) : Raw w m hb n fr tx many H N B A R D' where
  map := h.map
  heads := h.heads
  ent := fun e he => let ⟨ma, mb, h1, h2, h3⟩ := h.ent e he; ⟨ma, mb, h1, h2.keep (fun _ _ _ => rfl) (fun b hb _ => hD b hb), h3.keep (fun _ _ _ => rfl) (fun b hb _ => hD b hb)⟩
  nd := h.nd
  far := h.far
  out := ⟨hm, hh, he⟩
  ok := h.ok
  dlt := hs
theorem Raw.mlt (h : Raw w m hb n fr tx many H N B A R D) : m < w.heap.size := by
  obtain ⟨_, h1, _⟩ := h.map
  exact h1.lt
theorem Raw.hlt (h : Raw w m hb n fr tx many H N B A R D) : hb < w.heap.size := let ⟨_, _, h1, _⟩ := h.heads; h1.lt
theorem Raw.elt (h : Raw w m hb n fr tx many H N B A R D) {e : En} (he : e ∈ R) : e.g < w.heap.size := let ⟨_, _, h1, _⟩ := h.ent e he; h1.lt
theorem dat_far {d : Dt} {mm : Dm} {g : Nat} (vs : List Value) (o : Nat) (h : d.at w D mm) (hg : ¬ D g) : d.at (w.setCells g o vs) D mm := h.keep (fun b hb _ => setCells_other vs o w (fun e => hg (e ▸ hb))) (fun _ h _ => h)
theorem nd_eq (hn : (R.map (·.g)).Nodup) {e e' : En} (h : e ∈ R) (h' : e' ∈ R) (hg : e.g = e'.g) : e = e' := by
  induction R with
  | nil => cases h
  | cons x R ih =>
    rw [List.map_cons, List.nodup_cons] at hn
    rcases List.mem_cons.1 h with rfl | h1
    · rcases List.mem_cons.1 h' with rfl | h2
      · rfl
      · exact absurd (List.mem_map.2 ⟨e', h2, hg.symm⟩) hn.1
    · rcases List.mem_cons.1 h' with rfl | h2
      · exact absurd (List.mem_map.2 ⟨e, h1, hg⟩) hn.1
      · exact ih hn.2 h1 h2
/-- A store into an entry's own cells. -/
theorem Raw.setE (h : Raw w m hb n fr tx many H N B A R D) {e : En} (he : e ∈ R) (o : Nat) (v : Value) (N' B' A' : Nat → Option Addr)
    (hc : ∀ mk mv, (e.cs mk mv (N e.g) (B e.g) (A e.g)).setIfInBounds o v = e.cs mk mv (N' e.g) (B' e.g) (A' e.g)) (hN : ∀ x, x ≠ e.g → N' x = N x ∧ B' x = B x ∧ A' x = A x) :
    Raw (w.setCells e.g o [v]) m hb n fr tx many H N' B' A' R D where
  map := let ⟨cs, h1, h2⟩ := h.map; ⟨cs, h1.far (p := ⟨e.g, o, none⟩) (Ne.symm (h.far e he).1) v, h2⟩
  heads := let ⟨t, hs, h1, h2⟩ := h.heads; ⟨t, hs, h1.far (p := ⟨e.g, o, none⟩) (Ne.symm (h.far e he).2) v, h2⟩
  ent := fun x hx => by
    obtain ⟨mk, mv, h1, h2, h3⟩ := h.ent x hx
    refine ⟨mk, mv, ?_, dat_far [v] o h2 (h.out.2.2 e he), dat_far [v] o h3 (h.out.2.2 e he)⟩
    by_cases hxe : x.g = e.g
    · obtain rfl := nd_eq h.nd hx he hxe
      have := h1.set_ o v
      rw [hc mk mv] at this
      exact this
    · obtain ⟨q1, q2, q3⟩ := hN x.g hxe
      rw [q1, q2, q3]
      exact h1.far (p := ⟨e.g, o, none⟩) hxe v
  nd := h.nd
  far := h.far
  out := h.out
  ok := h.ok
  dlt := fun b hd => by rw [setCells_size']; exact h.dlt b hd
theorem Raw.setN (h : Raw w m hb n fr tx many H N B A R D) {e : En} (he : e ∈ R) (p : Option Addr) : Raw (w.setCells e.g 23 [.pointer p]) m hb n fr tx many H (upd N e.g p) B A R D :=
  h.setE he 23 _ _ _ _ (fun mk mv => by rw [upd_same]; rfl) (fun x hx => ⟨upd_ne hx, rfl, rfl⟩)
theorem Raw.setB (h : Raw w m hb n fr tx many H N B A R D) {e : En} (he : e ∈ R) (p : Option Addr) : Raw (w.setCells e.g 24 [.pointer p]) m hb n fr tx many H N (upd B e.g p) A R D :=
  h.setE he 24 _ _ _ _ (fun mk mv => by rw [upd_same]; rfl) (fun x hx => ⟨rfl, upd_ne hx, rfl⟩)
theorem Raw.setA (h : Raw w m hb n fr tx many H N B A R D) {e : En} (he : e ∈ R) (p : Option Addr) : Raw (w.setCells e.g 25 [.pointer p]) m hb n fr tx many H N B (upd A e.g p) R D :=
  h.setE he 25 _ _ _ _ (fun mk mv => by rw [upd_same]; rfl) (fun x hx => ⟨rfl, rfl, upd_ne hx⟩)
/-- A store into the map's own cells behind its small heads. -/
theorem Raw.setM (h : Raw w m hb n fr tx many H N B A R D) (o : Nat) (v : Value) (ho : 9 ≤ o) {fr' tx' : Option Addr} {many' : Int}
    (hc : ∀ cs : Array Value, cs.size = 12 → cs[9]? = some (.pointer fr) → cs[10]? = some (.pointer tx) → cs[11]? = some (.int .i64 many) → (cs.setIfInBounds o v)[9]? = some (.pointer fr') ∧ (cs.setIfInBounds o v)[10]? = some (.pointer tx') ∧ (cs.setIfInBounds o v)[11]? = some (.int .i64 many')) :
    Raw (w.setCells m o [v]) m hb n fr' tx' many' H N B A R D where
  map := by
    obtain ⟨cs, h1, h2, h3, h4, h5, h6⟩ := h.map
    obtain ⟨q1, q2, q3⟩ := hc cs h2 h4 h5 h6
    exact ⟨_, h1.set_ o v, by simpa using h2, by rw [Array.getElem?_setIfInBounds_ne (by omega), h3], q1, q2, q3⟩
  heads := by
    obtain ⟨t, hs, h1, h2, h3, h4⟩ := h.heads
    by_cases e : hb = m
    · have hn := h4 e
      subst e
      exact ⟨t, _, h1.set_ o v, by simpa using h2, fun i hi => by rw [Array.getElem?_setIfInBounds_ne (by omega), h3 i hi], h4⟩
    · exact ⟨t, hs, h1.far (p := ⟨m, o, none⟩) e v, h2, h3, h4⟩
  ent := fun x hx => by
    obtain ⟨mk, mv, h1, h2, h3⟩ := h.ent x hx
    exact ⟨mk, mv, h1.far (p := ⟨m, o, none⟩) (h.far x hx).1 v, dat_far [v] o h2 h.out.1, dat_far [v] o h3 h.out.1⟩
  nd := h.nd
  far := h.far
  out := h.out
  ok := h.ok
  dlt := fun b hd => by rw [setCells_size']; exact h.dlt b hd
theorem Raw.setFrom (h : Raw w m hb n fr tx many H N B A R D) (p : Option Addr) : Raw (w.setCells m 9 [.pointer p]) m hb n p tx many H N B A R D :=
  h.setM 9 _ (by omega) fun cs h0 h1 h2 h3 => ⟨by simp [h0], by rw [Array.getElem?_setIfInBounds_ne (by omega), h2], by rw [Array.getElem?_setIfInBounds_ne (by omega), h3]⟩
theorem Raw.setTo (h : Raw w m hb n fr tx many H N B A R D) (p : Option Addr) : Raw (w.setCells m 10 [.pointer p]) m hb n fr p many H N B A R D :=
  h.setM 10 _ (by omega) fun cs h0 h1 h2 h3 => ⟨by rw [Array.getElem?_setIfInBounds_ne (by omega), h1], by simp [h0], by rw [Array.getElem?_setIfInBounds_ne (by omega), h3]⟩
theorem Raw.setMany (h : Raw w m hb n fr tx many H N B A R D) (k : Int) : Raw (w.setCells m 11 [.int .i64 k]) m hb n fr tx k H N B A R D :=
  h.setM 11 _ (by omega) fun cs h0 h1 h2 h3 => ⟨by rw [Array.getElem?_setIfInBounds_ne (by omega), h1], by rw [Array.getElem?_setIfInBounds_ne (by omega), h2], by simp [h0]⟩
/-- A store into a chain's head. -/
theorem Raw.setH (h : Raw w m hb n fr tx many H N B A R D) (i : Nat) (hi : i < n) (p : Option Addr) : Raw (w.setCells hb i [.pointer p]) m hb n fr tx many (upd H i p) N B A R D where
  map := by
    obtain ⟨cs, h1, h2, h3, h4, h5, h6⟩ := h.map
    by_cases e : hb = m
    · obtain ⟨_, _, _, _, _, h7⟩ := h.heads
      have := h7 e
      subst e
      exact ⟨_, h1.set_ i _, by simpa using h2, by rw [Array.getElem?_setIfInBounds_ne (by omega), h3], by rw [Array.getElem?_setIfInBounds_ne (by omega), h4], by rw [Array.getElem?_setIfInBounds_ne (by omega), h5], by rw [Array.getElem?_setIfInBounds_ne (by omega), h6]⟩
    · exact ⟨cs, h1.far (p := ⟨hb, i, none⟩) (Ne.symm e) _, h2, h3, h4, h5, h6⟩
  heads := by
    obtain ⟨t, hs, h1, h2, h3, h4⟩ := h.heads
    refine ⟨t, _, h1.set_ i _, by simpa using h2, fun j hj => ?_, h4⟩
    by_cases e : j = i
    · subst e
      rw [upd_same, Array.getElem?_setIfInBounds_self_of_lt (by omega)]
    · rw [upd_ne e, Array.getElem?_setIfInBounds_ne (by omega), h3 j hj]
  ent := fun x hx => by
    obtain ⟨mk, mv, h1, h2, h3⟩ := h.ent x hx
    exact ⟨mk, mv, h1.far (p := ⟨hb, i, none⟩) (h.far x hx).2 _, dat_far _ i h2 h.out.2.1, dat_far _ i h3 h.out.2.1⟩
  nd := h.nd
  far := h.far
  out := h.out
  ok := h.ok
  dlt := fun b hd => by rw [setCells_size']; exact h.dlt b hd
/-- Fewer entries. -/
theorem Raw.less (h : Raw w m hb n fr tx many H N B A R D) {R' : List En} (hs : R'.Sublist R) : Raw w m hb n fr tx many H N B A R' D where
  map := h.map
  heads := h.heads
  ent := fun e he => h.ent e (hs.subset he)
  nd := h.nd.sublist (hs.map _)
  far := fun e he => h.far e (hs.subset he)
  out := ⟨h.out.1, h.out.2.1, fun e he => h.out.2.2 e (hs.subset he)⟩
  ok := fun e he => h.ok e (hs.subset he)
  dlt := h.dlt
/-- One entry more, in a block of its own. -/
theorem Raw.push (h : Raw w m hb n fr tx many H N B A R D) (e : En) {mk mv : Dm} (hB : Blk w e.g entT (e.cs mk mv (N e.g) (B e.g) (A e.g))) (h1 : e.key.at w D mk) (h2 : e.val.at w D mv) (hn : ∀ x ∈ R, x.g ≠ e.g) (hm : e.g ≠ m) (hh : e.g ≠ hb) (hD : ¬ D e.g)
    (ho : e.key.ok ∧ e.val.ok ∧ 0 ≤ e.hash ∧ e.hash ≤ 18446744073709551615) : Raw w m hb n fr tx many H N B A (e :: R) D where
  map := h.map
  heads := h.heads
  ent := fun x hx => by
    rcases List.mem_cons.1 hx with rfl | hx
    · exact ⟨mk, mv, hB, h1, h2⟩
    · exact h.ent x hx
  nd := by
    rw [List.map_cons, List.nodup_cons]
    exact ⟨fun hm => by obtain ⟨x, hx, e1⟩ := List.mem_map.1 hm; exact hn x hx e1, h.nd⟩
  far := fun x hx => by
    rcases List.mem_cons.1 hx with rfl | hx
    · exact ⟨hm, hh⟩
    · exact h.far x hx
  out := ⟨h.out.1, h.out.2.1, fun x hx => by
    rcases List.mem_cons.1 hx with rfl | hx
    · exact hD
    · exact h.out.2.2 x hx⟩
  ok := fun x hx => by
    rcases List.mem_cons.1 hx with rfl | hx
    · exact ho
    · exact h.ok x hx
  dlt := h.dlt
/-- The same, by other words for the pointers. -/
theorem Raw.by (h : Raw w m hb n fr tx many H N B A R D) {fr' tx' : Option Addr} {many' : Int} {H' N' B' A' : Nat → Option Addr} (h1 : fr = fr') (h2 : tx = tx') (h3 : many = many') (h4 : ∀ i, i < n → H i = H' i) (h5 : ∀ e ∈ R, N e.g = N' e.g ∧ B e.g = B' e.g ∧ A e.g = A' e.g) :
    Raw w m hb n fr' tx' many' H' N' B' A' R D := by
  subst h1 h2 h3
  exact { map := h.map, heads := let ⟨t, hs, q1, q2, q3, q4⟩ := h.heads; ⟨t, hs, q1, q2, fun i hi => by rw [← h4 i hi]; exact q3 i hi, q4⟩,
          ent := fun e he => by
            obtain ⟨q1, q2, q3⟩ := h5 e he
            rw [← q1, ← q2, ← q3]
            exact h.ent e he,
          nd := h.nd, far := h.far, out := h.out, ok := h.ok, dlt := h.dlt }
end
end Go.Proofs.YtlhfickniegooaaDoor

namespace Go.Proofs.YtlhfickniegooaaDoor
open Go.RowKit

theorem nz (n : Nat) : ((n : Int) == 0) = decide (n = 0) := by rw [Bool.eq_iff_iff]; simp

theorem ret_int {k : IntKind} {a b : Int} (h : a = b) : Ending.returned (.int k a) = .returned (.int k b) := by rw [h]
theorem ret_bool {a b : Bool} (h : a = b) : Ending.returned (.bool a) = .returned (.bool b) := by rw [h]

def plainB (o f l c : Int) (pl : Nat) : Bool := decide (o = 0 ∧ f = 0 ∧ l = 0 ∧ c = 0 ∧ pl = 0)

set_option maxHeartbeats 400000 in
theorem plain_any (o f l c : Int) (pa : Option Addr) (pl pc : Nat) (w : World) :
    Calls Tryd.prog 71 #[.agg #[.int .i64 o, .int .i64 f, .int .i64 l, .int .i64 c, .slice pa pl pc]] w
      fun e w' => e = .returned (.bool (plainB o f l c pl)) ∧ Below w.heap.size w w' := by
  have hB : Below w.heap.size w (w.alloc (.cells #[.int .i64 o, .int .i64 f, .int .i64 l, .int .i64 c, .slice pa pl pc] 28)) := (Below.refl _ _).alloc (Nat.le_refl _) _
  go_enter Tryd.func71, Tryd.ntmps71
  go_wp2
  all_goals
    go_ret
    refine ⟨?_, (Below.refl _ _).alloc (Nat.le_refl _) _⟩
    simp [plainB, *, nz]

/-- What the literal in leads asks of a number of a path. -/
def outB (x : Int) : Bool := decide (x < 0 ∨ 30 ≤ x)
set_option maxHeartbeats 400000 in
theorem lit_any (x : Int) (w : World) : Calls Tryd.prog 73 #[.int .i64 x] w fun e w' => e = .returned (.bool (outB x)) ∧ w = w' := by
  go_enter Tryd.func73, Tryd.ntmps73
  go_wp2
  all_goals
    go_ret
    refine ⟨?_, rfl⟩
    simp [outB, *]

def idxB (l : List Int) : Int := match l.findIdx? outB with | some i => i | none => -1
theorem idx_hit (l : List Int) (k : Nat) (x : Int) (hk : l[k]? = some x) (hx : outB x = true) (hn : ∀ j y, j < k → l[j]? = some y → outB y = false) : idxB l = k := by
  have h : l.findIdx? outB = some k := by
    rw [List.findIdx?_eq_some_iff_getElem]
    have hl : k < l.length := by
      rcases Nat.lt_or_ge k l.length with h | h
      · exact h
      · rw [List.getElem?_eq_none h] at hk; cases hk
    refine ⟨hl, by rw [List.getElem?_eq_getElem hl] at hk; injection hk with hk; rw [hk]; exact hx, fun j hj => ?_⟩
    have := hn j (l[j]'(by omega)) hj (List.getElem?_eq_getElem (by omega))
    simp [this]
  unfold idxB; rw [h]
theorem idx_miss (l : List Int) (hn : ∀ j y, j < l.length → l[j]? = some y → outB y = false) : idxB l = -1 := by
  have h : l.findIdx? outB = none := by
    rw [List.findIdx?_eq_none_iff]
    intro x hx
    obtain ⟨j, hj, e⟩ := List.mem_iff_getElem.1 hx
    exact hn j x hj (by rw [List.getElem?_eq_getElem hj, e])
  unfold idxB; rw [h]

set_option maxHeartbeats 400000 in
theorem indexFunc_any (l : List Int) (pa : Option Addr) (pc : Nat) (w : World) (hl : l.length ≤ 9223372036854775807) (hp : PathAt w (fun _ => True) pa l) :
    Calls Tryd.prog 85 #[.slice pa l.length pc, .func (.func 73) #[] #[]] w fun e w' => e = .returned (.int .i64 (idxB l)) ∧ w = w' := by
  go_enter Tryd.func85, Tryd.ntmps85
  go_wp2
  go_loopg [8] l.length (fun g i wr => ∃ k : Nat, k ≤ l.length ∧ i = .int .i64 k ∧ g = l.length - k ∧ w = wr ∧ ∀ j y, j < k → l[j]? = some y → outB y = false)
  case atStart => exact ⟨0, by omega, rfl, by omega, rfl, by omega⟩
  case round =>
    obtain ⟨k, hk, rfl, rfl, rfl, hn⟩ := hrel
    have HN := Lib.hid hn
    clear hn
    by_cases hlt : k < l.length
    · obtain ⟨x, hx⟩ : ∃ x, l[k]? = some x := ⟨_, List.getElem?_eq_getElem hlt⟩
      obtain ⟨b, o, rfl, _, hc⟩ := hp.get hx
      have HX := Lib.hid hx
      clear hx
      go_wp2_with (go_at_call 73; refine (lit_any _ _).mono ?_; rintro e w' ⟨rfl, rfl⟩)
      · go_ret
        exact ⟨ret_int (idx_hit l k x HX.out (by assumption) HN.out).symm, rfl⟩
      · go_roundg (l.length - (k + 1))
        case measure => omega
        case rel =>
          refine ⟨k + 1, by omega, by go_num, rfl, rfl, fun j y hj hy => ?_⟩
          by_cases hjk : j = k
          · subst hjk
            rw [HX.out] at hy
            injection hy with hy
            subst hy
            assumption
          · exact HN.out j y (by omega) hy
    · have hkl : k = l.length := by omega
      subst hkl
      go_wp2
      go_ret
      exact ⟨ret_int (idx_miss l HN.out).symm, rfl⟩

/-- Some number of a path stands outside. -/
def anyOut (l : List Int) : Bool := l.any outB
theorem idx_any (l : List Int) : decide (0 ≤ idxB l) = anyOut l := by
  unfold idxB anyOut
  cases h : l.findIdx? outB with
  | none =>
    rw [List.findIdx?_eq_none_iff] at h
    have : l.any outB = false := by rw [List.any_eq_false]; intro x hx; simp [h x hx]
    simp [this]
  | some i =>
    have : l.any outB = true := by
      rw [List.findIdx?_eq_some_iff_getElem] at h
      obtain ⟨hl, hx, _⟩ := h
      exact List.any_eq_true.2 ⟨_, List.getElem_mem hl, hx⟩
    simp [this]

set_option maxHeartbeats 400000 in
theorem containsFunc_any (l : List Int) (pa : Option Addr) (pc : Nat) (w : World) (hl : l.length ≤ 9223372036854775807) (hp : PathAt w (fun _ => True) pa l) :
    Calls Tryd.prog 72 #[.slice pa l.length pc, .func (.func 73) #[] #[]] w fun e w' => e = .returned (.bool (anyOut l)) ∧ w = w' := by
  go_enter Tryd.func72, Tryd.ntmps72
  go_wp2_with (go_at_call 85; refine (indexFunc_any _ _ _ _ hl hp).mono ?_; rintro e w' ⟨rfl, rfl⟩)
  go_ret
  exact ⟨ret_bool (idx_any l), rfl⟩

def leadsB (kind o f l c : Int) (p : List Int) : Bool :=
  if o < 0 ∨ 2147483647 < o then false
  else if kind = 5 then decide (p.length = 0) && (plainB o f l c p.length || decide (0 < o ∧ 0 ≤ f ∧ 0 ≤ l ∧ l ≤ c ∧ f ≤ 1048576 ∧ c ≤ 1048576 - f))
  else if kind = 6 ∨ kind = 7 ∨ kind = 9 then
    if f ≠ 0 ∨ l ≠ 0 ∨ c ≠ 0 ∨ (0 < p.length ∧ (kind ≠ 9 ∨ o = 0)) ∨ 100 < p.length then false else !(anyOut p)
  else plainB o f l c p.length

set_option maxHeartbeats 400000 in
theorem leads_any (kind o f l c : Int) (p : List Int) (pa : Option Addr) (pc : Nat) (w : World) (hl : p.length ≤ 9223372036854775807) (hp : PathAt w (fun _ => True) pa p) :
    Calls Tryd.prog 62 #[.int .i64 kind, .agg #[.int .i64 o, .int .i64 f, .int .i64 l, .int .i64 c, .slice pa p.length pc]] w
      fun e w' => e = .returned (.bool (leadsB kind o f l c p)) ∧ Below w.heap.size w w' := by
  go_enter Tryd.func62, Tryd.ntmps62
  go_wp2_with (first
    | (go_at_call 71; refine (plain_any _ _ _ _ _ _ _ _).mono ?_; rintro e w1 ⟨rfl, hb1⟩; obtain ⟨hc1, hf1⟩ := bcell hb1)
    | (go_at_call 72; refine (containsFunc_any p pa pc _ hl (by exact hp.keep (fun b _ hb => Below.heap_alloc _ _ _ hb) (fun _ _ _ => trivial))).mono ?_; rintro e w' ⟨rfl, rfl⟩))
  all_goals
    go_ret
    refine ⟨ret_bool ?_, by first | exact (Below.refl _ _).alloc (Nat.le_refl _) _ | exact ((Below.refl _ _).alloc (Nat.le_refl _) _).trans (hb1.mono (by simp))⟩
    simp_all [leadsB] <;> first | omega | grind
end Go.Proofs.YtlhfickniegooaaDoor

namespace Go.Proofs.YtlhfickniegooaaDoor
open Go.RowKit

theorem beq_str (a b : ByteArray) : (a.toList == b.toList) = decide (a = b) := by
  rw [Lib.toList_data, Lib.toList_data, Bool.eq_iff_iff, beq_iff_eq, decide_eq_true_iff]
  exact ⟨fun h => by cases a; cases b; simp only [ByteArray.mk.injEq]; exact Array.ext' h, fun h => by rw [h]⟩
theorem str_eq {a b : ByteArray} (h : (a.toList == b.toList) = true) : a = b := by rw [beq_str] at h; exact of_decide_eq_true h
theorem str_ne {a b : ByteArray} (h : (a.toList == b.toList) = false) : a ≠ b := by rw [beq_str] at h; exact of_decide_eq_false h

def memB (v : ByteArray) (l : List ByteArray) : Bool := l.any fun x => decide (x = v)
theorem memB_iff (v : ByteArray) (l : List ByteArray) : memB v l = true ↔ v ∈ l := by simp [memB, List.any_eq_true]

/-- A row of strings, read through a slice's address. -/
def StrsAt (w : World) (pa : Option Addr) (l : List ByteArray) : Prop :=
  l = [] ∨ ∃ b o, pa = some ⟨b, o, none⟩ ∧ ∀ (j : Nat) (x : ByteArray), l[j]? = some x → w.cell? ⟨b, o + j, none⟩ = some (.string x)
theorem StrsAt.get {w : World} {pa : Option Addr} {l : List ByteArray} (h : StrsAt w pa l) {j : Nat} {x : ByteArray} (e : l[j]? = some x) :
    ∃ b o, pa = some ⟨b, o, none⟩ ∧ w.cell? ⟨b, o + j, none⟩ = some (.string x) := by
  rcases h with rfl | ⟨b, o, h1, h3⟩
  · simp at e
  · exact ⟨b, o, h1, h3 j x e⟩

set_option maxHeartbeats 400000 in
theorem sIndex_any (l : List ByteArray) (v : ByteArray) (pa : Option Addr) (pc : Nat) (w : World) (hl : l.length ≤ 9223372036854775807) (hp : StrsAt w pa l) :
    Calls Tryd.prog 86 #[.slice pa l.length pc, .string v] w fun e w' => (∃ i : Int, e = .returned (.int .i64 i) ∧ (0 ≤ i ↔ v ∈ l)) ∧ w = w' := by
  go_enter Tryd.func86, Tryd.ntmps86
  go_wp2
  go_loopg [8] l.length (fun g i wr => ∃ k : Nat, k ≤ l.length ∧ i = .int .i64 k ∧ g = l.length - k ∧ w = wr ∧ ∀ j y, j < k → l[j]? = some y → v ≠ y)
  case atStart => exact ⟨0, by omega, rfl, by omega, rfl, by omega⟩
  case round =>
    obtain ⟨k, hk, rfl, rfl, rfl, hn⟩ := hrel
    have HN := Lib.hid hn
    clear hn
    by_cases hlt : k < l.length
    · obtain ⟨x, hx⟩ : ∃ x, l[k]? = some x := ⟨_, List.getElem?_eq_getElem hlt⟩
      obtain ⟨b, o, rfl, hc⟩ := hp.get hx
      have HX := Lib.hid hx
      clear hx
      go_wp2
      · go_ret
        have e := str_eq (by assumption)
        exact ⟨⟨k, rfl, fun _ => by rw [e]; exact List.mem_of_getElem? HX.out, fun _ => by omega⟩, rfl⟩
      · go_roundg (l.length - (k + 1))
        case measure => omega
        case rel =>
          have e := str_ne (by assumption)
          refine ⟨k + 1, by omega, by go_num, rfl, rfl, fun j y hj hy => ?_⟩
          by_cases hjk : j = k
          · subst hjk
            rw [HX.out] at hy
            injection hy with hy
            subst hy
            exact e
          · exact HN.out j y (by omega) hy
    · have hkl : k = l.length := by omega
      subst hkl
      go_wp2
      go_ret
      refine ⟨⟨-1, rfl, fun h => by omega, fun h => ?_⟩, rfl⟩
      obtain ⟨j, hj, e⟩ := List.mem_iff_getElem.1 h
      exact absurd e.symm (HN.out j _ hj (List.getElem?_eq_getElem hj))

set_option maxHeartbeats 400000 in
theorem contains_any (l : List ByteArray) (v : ByteArray) (pa : Option Addr) (pc : Nat) (w : World) (hl : l.length ≤ 9223372036854775807) (hp : StrsAt w pa l) :
    Calls Tryd.prog 74 #[.slice pa l.length pc, .string v] w fun e w' => e = .returned (.bool (memB v l)) ∧ w = w' := by
  go_enter Tryd.func74, Tryd.ntmps74
  go_wp2_with (go_at_call 86; refine (sIndex_any _ _ _ _ _ hl hp).mono ?_; rintro e w' ⟨⟨i, rfl, hi⟩, rfl⟩)
  go_ret
  exact ⟨ret_bool (Bool.eq_iff_iff.2 (by rw [decide_eq_true_iff, memB_iff]; exact hi)), rfl⟩
end Go.Proofs.YtlhfickniegooaaDoor

namespace Go.Proofs.YtlhfickniegooaaDoor
open Go.RowKit

def ownL : List ByteArray := [⟨#[110, 105, 108]⟩, ⟨#[98, 111, 111, 108]⟩, ⟨#[105, 110, 116]⟩, ⟨#[102, 108, 111, 97, 116]⟩, ⟨#[116, 101, 120, 116]⟩, ⟨#[108, 105, 115, 116]⟩, ⟨#[109, 97, 112]⟩, ⟨#[102, 117, 110, 99]⟩]
/-- The variable value.own holds the kinds' own names. -/
def OwnAt (w : World) : Prop := ∀ (j : Nat) (s : ByteArray), ownL[j]? = some s → w.cell? ⟨0, j, none⟩ = some (.string s)
theorem OwnAt.below {w w' : World} {B : Nat} (h : OwnAt w) (hb : Below B w w') (hB : w.heap.size ≤ B) : OwnAt w' := fun j s e => by
  have := h j s e
  rw [← this]
  exact hb.cell (p := ⟨0, j, none⟩) (Nat.lt_of_lt_of_le (cell_lt this) hB)
theorem OwnAt.eight {w : World} (h : OwnAt w) : w.cell? ⟨0, 0, none⟩ = some (.string ⟨#[110, 105, 108]⟩) ∧ w.cell? ⟨0, 1, none⟩ = some (.string ⟨#[98, 111, 111, 108]⟩) ∧ w.cell? ⟨0, 2, none⟩ = some (.string ⟨#[105, 110, 116]⟩) ∧
    w.cell? ⟨0, 3, none⟩ = some (.string ⟨#[102, 108, 111, 97, 116]⟩) ∧ w.cell? ⟨0, 4, none⟩ = some (.string ⟨#[116, 101, 120, 116]⟩) ∧ w.cell? ⟨0, 5, none⟩ = some (.string ⟨#[108, 105, 115, 116]⟩) ∧
    w.cell? ⟨0, 6, none⟩ = some (.string ⟨#[109, 97, 112]⟩) ∧ w.cell? ⟨0, 7, none⟩ = some (.string ⟨#[102, 117, 110, 99]⟩) :=
  ⟨h 0 _ rfl, h 1 _ rfl, h 2 _ rfl, h 3 _ rfl, h 4 _ rfl, h 5 _ rfl, h 6 _ rfl, h 7 _ rfl⟩

/-- '[]byte(s)': a new row. -/
theorem bytes_of (W : World) (s : ByteArray) (n : Nat) (hn : W.heap.size = n) : ∃ C wb, (convert 9 92 (.string s)).run Tryd.prog W = .ok (.slice (some ⟨n, 0, none⟩) s.size C) wb ∧ Below n W wb ∧
    ∀ j b, s.data.toList[j]? = some b → wb.cell? ⟨n, j, none⟩ = some (.int .u8 (b.toNat : Int)) := by
  subst hn
  refine ⟨_, _, Lib.run_convert_string_bytes W 9 92 5 s (u := .string) Tryd.underlying9 Tryd.underlying92 Tryd.underlying5, ⟨?_, ?_, ?_, ?_, ?_⟩, ?_⟩
  · simp [Lib.bytesWorld, World.freeze, World.alloc, World.drew, -World.alloc_eq, -World.drew_eq]
  · simp [Lib.bytesWorld, World.freeze, World.alloc, World.drew, -World.alloc_eq, -World.drew_eq]
  · simp [Lib.bytesWorld, World.freeze, World.alloc, World.drew, -World.alloc_eq, -World.drew_eq]
  · rw [Lib.bytesWorld_size]; omega
  · exact fun k hk => Lib.bytesWorld_at_old W _ s k hk
  · intro j b hj
    have hl : j < s.size := by
      have := (List.getElem?_eq_some_iff.1 hj).1
      simpa using this
    rw [Lib.bytesWorld_cell W _ s j hl]
    simp [List.getD, hj]

theorem strs_block {w : World} {b : Nat} {cs : Array Value} {t : TypeId} {fr : Nat × Nat} (h : w.heap[b]? = some (.cells cs t fr)) (l : List ByteArray) (e : cs = (l.map Value.string).toArray) : StrsAt w (some ⟨b, 0, none⟩) l := by
  refine .inr ⟨b, 0, rfl, fun j x hx => ?_⟩
  rw [cell_of_row w b _ cs t fr h, e]
  simp [hx]

def digB (c : Int) : Bool := decide (48 ≤ c ∧ c ≤ 57)
def letB (c : Int) : Bool := decide (97 ≤ bits .or .u8 c 32 ∧ bits .or .u8 c 32 ≤ 122 ∧ 65 ≤ c)
def badB (i : Nat) (c : Int) : Bool := (!digB c && !letB c && decide (c ≠ 95)) || (digB c && decide (i = 0))
def goodB : Nat → List UInt8 → Bool
  | _, [] => true
  | i, b :: r => !badB i (b.toNat : Int) && goodB (i + 1) r
theorem goodB_drop (l : List UInt8) (k : Nat) (b : UInt8) (h : l[k]? = some b) : goodB k (l.drop k) = (!badB k (b.toNat : Int) && goodB (k + 1) (l.drop (k + 1))) := by
  have hl : k < l.length := (List.getElem?_eq_some_iff.1 h).1
  rw [List.drop_eq_getElem_cons hl]
  have : l[k] = b := (List.getElem?_eq_some_iff.1 h).2
  rw [this]; rfl
def declB (s : ByteArray) : Bool := decide (s.size ≠ 0 ∧ s.size ≤ 40) && !memB s ownL && !memB s [⟨#[97, 110, 121]⟩, ⟨#[115, 116, 114, 117, 99, 116]⟩] && goodB 0 s.data.toList

theorem size_zero (s : ByteArray) (h : s.toList = []) : s.size = 0 := by
  rw [Lib.toList_data] at h
  simp only [ByteArray.size]
  rw [← Array.length_toList, h]; rfl
theorem size_pos (s : ByteArray) (h : ¬ s.toList = []) : s.size ≠ 0 := fun e => h (by
  rw [Lib.toList_data]
  exact List.eq_nil_of_length_eq_zero (by simpa using e))

theorem badB_iff (i : Nat) (c : Int) : badB i c = true ↔ (((c < 48 ∨ 57 < c) ∧ ¬ (97 ≤ bits .or .u8 c 32 ∧ bits .or .u8 c 32 ≤ 122 ∧ 65 ≤ c) ∧ c ≠ 95) ∨ (48 ≤ c ∧ c ≤ 57 ∧ i = 0)) := by
  simp only [badB, digB, letB, Bool.or_eq_true, Bool.and_eq_true, decide_eq_true_iff, Bool.not_eq_true', decide_eq_false_iff_not]
  omega
theorem bad_yes {i : Nat} {c : Int} (h : ((c < 48 ∨ 57 < c) ∧ ¬ (97 ≤ bits .or .u8 c 32 ∧ bits .or .u8 c 32 ≤ 122 ∧ 65 ≤ c) ∧ c ≠ 95) ∨ (48 ≤ c ∧ c ≤ 57 ∧ i = 0)) : badB i c = true := (badB_iff i c).2 h
theorem bad_no {i : Nat} {c : Int} (h : ¬ (((c < 48 ∨ 57 < c) ∧ ¬ (97 ≤ bits .or .u8 c 32 ∧ bits .or .u8 c 32 ≤ 122 ∧ 65 ≤ c) ∧ c ≠ 95) ∨ (48 ≤ c ∧ c ≤ 57 ∧ i = 0))) : badB i c = false :=
  Bool.eq_false_iff.2 fun hb => h ((badB_iff i c).1 hb)
theorem new2 (w : World) (o o' : Obj) : ((w.alloc o).alloc o').heap[w.heap.size + 1]? = some o' := by simpa using heap_alloc_new (w.alloc o) o'
theorem and_yes {a b : Bool} (h : a = true) : (!a && b) = false := by simp [h]
theorem and_no {a b : Bool} (h : a = false) : (!a && b) = b := by simp [h]

def anyL : List ByteArray := [⟨#[97, 110, 121]⟩, ⟨#[115, 116, 114, 117, 99, 116]⟩]
set_option maxRecDepth 100000 in
set_option maxHeartbeats 2000000 in
theorem declared_any (s : ByteArray) (w : World) (ho : OwnAt w) :
    Calls Tryd.prog 63 #[.string s] w fun e w' => e = .returned (.bool (declB s)) ∧ Below w.heap.size w w' := by
  obtain ⟨o0, o1, o2, o3, o4, o5, o6, o7⟩ := ho.eight
  have hz : 0 < w.heap.size := cell_lt o0
  by_cases he : s.toList = []
  · have hd : declB s = false := by simp [declB, size_zero s he]
    have HD := Lib.hid hd
    clear hd
    go_enter Tryd.func63, Tryd.ntmps63
    go_wp2_with fail
    go_ret
    exact ⟨ret_bool HD.out.symm, ((Below.refl _ _).alloc (Nat.le_refl _) _)⟩
  have he' : s.toList.isEmpty = false := by simpa using he
  have hnz := size_pos s he
  by_cases h40 : s.size ≤ 40
  rotate_left
  · have hd : declB s = false := by simp [declB, h40]
    have HD := Lib.hid hd
    clear hd
    have h41 : (40 : Int) < (s.size : Int) := by omega
    go_enter Tryd.func63, Tryd.ntmps63
    go_wp2_with fail
    go_ret
    exact ⟨ret_bool HD.out.symm, ((Below.refl _ _).alloc (Nat.le_refl _) _)⟩
  have h41 : (s.size : Int) ≤ 40 := by omega
  by_cases hm1 : memB s ownL = true
  · have hd : declB s = false := by simp [declB, hm1]
    have HD := Lib.hid hd
    clear hd
    go_enter Tryd.func63, Tryd.ntmps63
    go_wp2_with (go_at_call 74; refine (contains_any ownL _ _ _ _ (by decide) (by exact strs_block (heap_alloc_new w _) ownL rfl)).mono ?_; rintro e w1 ⟨rfl, rfl⟩)
    go_ret
    exact ⟨ret_bool HD.out.symm, ((Below.refl _ _).alloc (Nat.le_refl _) _)⟩
  have hm1' : memB s ownL = false := by simpa using hm1
  by_cases hm2 : memB s anyL = true
  · have hd : declB s = false := by unfold anyL at hm2; simp [declB, hm2]
    have HD := Lib.hid hd
    clear hd
    go_enter Tryd.func63, Tryd.ntmps63
    go_wp2_with fail
    refine (contains_any ownL _ _ _ _ (by decide) (by exact strs_block (heap_alloc_new w _) ownL rfl)).mono ?_
    rintro e w1 ⟨rfl, rfl⟩
    go_wp2_with fail
    refine (contains_any anyL _ _ _ _ (by decide) (by exact strs_block (new2 _ _ _) anyL rfl)).mono ?_
    rintro e w1 ⟨rfl, rfl⟩
    go_wp2_with fail
    go_ret
    exact ⟨ret_bool HD.out.symm, ((Below.refl _ _).alloc (Nat.le_refl _) _).alloc (by simp) _⟩
  have hm2' : memB s anyL = false := by simpa using hm2
  have hd : declB s = goodB 0 s.data.toList := by unfold anyL at hm2'; simp only [declB, hm1', hm2']; simp [hnz, h40]
  have HD := Lib.hid hd
  clear hd
  obtain ⟨C, wb, hcv, hbb, hcell⟩ := bytes_of ((w.alloc (.cells #[.string ⟨#[110, 105, 108]⟩, .string ⟨#[98, 111, 111, 108]⟩, .string ⟨#[105, 110, 116]⟩, .string ⟨#[102, 108, 111, 97, 116]⟩, .string ⟨#[116, 101, 120, 116]⟩, .string ⟨#[108, 105, 115, 116]⟩, .string ⟨#[109, 97, 112]⟩, .string ⟨#[102, 117, 110, 99]⟩] 145)).alloc (.cells #[.string ⟨#[97, 110, 121]⟩, .string ⟨#[115, 116, 114, 117, 99, 116]⟩] 9)) s (w.heap.size + 1 + 1) (by simp)
  have hbw : Below w.heap.size w wb := (((Below.refl _ _).alloc (Nat.le_refl _) _).alloc (by simp) _).trans (hbb.mono (by omega))
  clear hbb
  go_enter Tryd.func63, Tryd.ntmps63
  go_wp2_with fail
  refine (contains_any ownL _ _ _ _ (by decide) (by exact strs_block (heap_alloc_new w _) ownL rfl)).mono ?_
  rintro e w1 ⟨rfl, rfl⟩
  go_wp2_with fail
  refine (contains_any anyL _ _ _ _ (by decide) (by exact strs_block (new2 _ _ _) anyL rfl)).mono ?_
  rintro e w1 ⟨rfl, rfl⟩
  go_wp2_with fail
  go_loopg [28] s.size (fun g i wr => ∃ k : Nat, k ≤ s.size ∧ i = .int .i64 k ∧ g = s.size - k ∧ wb = wr ∧ goodB 0 s.data.toList = goodB k (s.data.toList.drop k))
  case atStart => exact ⟨0, by omega, rfl, by omega, rfl, by simp⟩
  case round =>
    obtain ⟨k, hk, rfl, rfl, rfl, hn⟩ := hrel
    have HN := Lib.hid hn
    have HB := Lib.hid hbw
    clear hn hcv hbw hm1 hm1' hm2 hm2' he he'
    by_cases hlt : k < s.size
    · obtain ⟨x, hx⟩ : ∃ x, s.data.toList[k]? = some x := ⟨_, List.getElem?_eq_getElem (by simpa using hlt)⟩
      have hc := hcell k x hx
      have HX := Lib.hid hx
      clear hx hcell
      have hx0 : (0 : Int) ≤ (x.toNat : Int) := by omega
      have hx1 : (x.toNat : Int) ≤ 255 := by have := x.toNat_lt; omega
      have hs0 := goodB_drop s.data.toList k x HX.out
      have HS := Lib.hid hs0
      clear hs0
      obtain ⟨q, hkb, HK⟩ : ∃ q : Bool, ((k : Int) == 0) = q ∧ Hid (q = decide (k = 0)) := ⟨_, rfl, nz k⟩
      rcases q with _ | _
      all_goals
        have HK2 : Hid ((k = 0 ∧ decide (k = 0) = true) ∨ (0 < k ∧ decide (k = 0) = false)) := by
          rcases Nat.eq_zero_or_pos k with h | h
          · exact .inl ⟨h, decide_eq_true h⟩
          · exact .inr ⟨h, decide_eq_false (by omega)⟩
        go_wp2
        all_goals first
          | (go_ret
             exact ⟨ret_bool ((HD.out.trans HN.out).trans (HS.out.trans (and_yes (bad_yes (by have h1 := HK.out; rcases HK2.out with ⟨h2, h3⟩ | ⟨h2, h3⟩ <;> rw [h3] at h1 <;> first | omega | cases h1))))).symm, HB.out⟩)
          | (go_roundg (s.size - (k + 1))
             case measure => omega
             case rel => exact ⟨k + 1, by omega, by go_num, rfl, rfl, HN.out.trans (HS.out.trans (and_no (bad_no (by have h1 := HK.out; rcases HK2.out with ⟨h2, h3⟩ | ⟨h2, h3⟩ <;> rw [h3] at h1 <;> first | omega | cases h1))))⟩)
    · have hkl : k = s.size := by omega
      subst hkl
      clear hcell
      go_wp2
      go_ret
      refine ⟨ret_bool ?_, HB.out⟩
      rw [HD.out, HN.out, List.drop_of_length_le (by simp)]
      rfl
end Go.Proofs.YtlhfickniegooaaDoor
