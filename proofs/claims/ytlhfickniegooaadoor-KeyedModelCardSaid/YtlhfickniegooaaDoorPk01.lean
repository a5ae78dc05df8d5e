/-
  What a datum of package api is, as a plain Lean tree, and how it lies in memory. No condition. Words for regions that draw their order, and for a world in which a datum has just been boxed. Great frames: the frame of a walk as a variable, of which a few slots are known; the regions of a function by their numbers. Written by an AI agent.
-/
import Derived.WalkKit
import Derived.Below
import Derived.Deep.Draws
import Derived.Lib.QuietBelow
import Derived.Lib.Hide
namespace Go.Proofs.YtlhfickniegooaaDoor
open Go.RowKit

/-- A datum but for its items. -/
structure Hd where
  kind : Int
  type : ByteArray
  n : Int
  f : Int
  s : ByteArray
  obj : Int
  frm : Int
  len : Int
  cap : Int
  path : List Int

/-- A row of data, each with its items. -/
inductive Fo where
  | nil
  | cons (h : Hd) (kids rest : Fo)

namespace Fo
def len : Fo → Nat
  | .nil => 0
  | .cons _ _ r => r.len + 1
def get : Fo → Nat → Option (Hd × Fo)
  | .nil, _ => none
  | .cons h k _, 0 => some (h, k)
  | .cons _ _ r, i + 1 => r.get i
def drop : Fo → Nat → Fo
  | f, 0 => f
  | .nil, _ + 1 => .nil
  | .cons _ _ r, i + 1 => r.drop i
@[simp] theorem drop_zero (f : Fo) : f.drop 0 = f := by cases f <;> rfl
@[simp] theorem drop_nil (i : Nat) : Fo.nil.drop i = .nil := by cases i <;> rfl
theorem len_nil : Fo.nil.len = 0 := rfl
theorem len_cons (h : Hd) (k r : Fo) : (Fo.cons h k r).len = r.len + 1 := rfl
theorem get_lt : ∀ (f : Fo) (i : Nat), i < f.len → ∃ h k, f.get i = some (h, k)
  | .nil, i, hi => absurd hi (by simp [len])
  | .cons h k r, 0, _ => ⟨h, k, rfl⟩
  | .cons _ _ r, i + 1, hi => get_lt r i (by simp [len] at hi; omega)
theorem drop_get : ∀ (f : Fo) (i : Nat) (h : Hd) (k : Fo), f.get i = some (h, k) → f.drop i = .cons h k (f.drop (i + 1))
  | .cons h k r, 0, h', k', e => by
    simp only [get, Option.some.injEq, Prod.mk.injEq] at e
    obtain ⟨rfl, rfl⟩ := e
    simp [drop]
  | .cons h k r, i + 1, h', k', e => by
    have := drop_get r i h' k' e
    simpa [drop] using this
theorem drop_len : ∀ (f : Fo) (i : Nat), f.len ≤ i → f.drop i = .nil
  | .nil, i, _ => by simp
  | .cons h k r, 0, hi => absurd hi (by simp [len])
  | .cons h k r, i + 1, hi => by simp only [drop]; exact drop_len r i (by simp [len] at hi; omega)
theorem len_eq_zero : ∀ (f : Fo), f.len = 0 → f = .nil
  | .nil, _ => rfl
  | .cons _ _ _, h => by simp [len] at h
theorem get_len : ∀ (f : Fo) (i : Nat) (x : Hd × Fo), f.get i = some x → i < f.len
  | .nil, _, _, h => by simp [get] at h
  | .cons _ _ r, 0, _, _ => by simp [len]
  | .cons _ _ r, i + 1, x, h => by have := get_len r i x h; simp only [len]; omega
end Fo

def okInt (n : Int) : Prop := -9223372036854775808 ≤ n ∧ n ≤ 9223372036854775807
/-- The numbers of a datum are numbers of their kinds; nothing is longer than what can be read. -/
structure Hd.ok (h : Hd) : Prop where
  kind : okInt h.kind
  n : okInt h.n
  f0 : 0 ≤ h.f
  f1 : h.f ≤ 18446744073709551615
  obj : okInt h.obj
  frm : okInt h.frm
  len : okInt h.len
  cap : okInt h.cap
  type : h.type.size ≤ 140737488351232
  s : h.s.size ≤ 140737488351232
  path : h.path.length ≤ 17592186043904
  each : ∀ (j : Nat) (x : Int), h.path[j]? = some x → okInt x
def Fo.ok : Fo → Prop
  | .nil => True
  | .cons h k r => h.ok ∧ k.ok ∧ r.ok ∧ k.len ≤ 1034834473170
theorem Fo.ok_get : ∀ (f : Fo) (i : Nat) (h : Hd) (k : Fo), f.ok → f.get i = some (h, k) → h.ok ∧ k.ok ∧ k.len ≤ 1034834473170
  | .cons h k r, 0, h', k', o, e => by
    simp only [get, Option.some.injEq, Prod.mk.injEq] at e
    obtain ⟨rfl, rfl⟩ := e
    exact ⟨o.1, o.2.1, o.2.2.2⟩
  | .cons h k r, i + 1, h', k', o, e => ok_get r i h' k' o.2.2.1 e

/-- The eleven cells of a datum. -/
def Hd.cells (h : Hd) (pa : Option Addr) (pc : Nat) (ia : Option Addr) (il ic : Nat) : Array Value :=
  #[.int .i64 h.kind, .string h.type, .int .i64 h.n, .int .u64 h.f, .string h.s, .int .i64 h.obj, .int .i64 h.frm, .int .i64 h.len, .int .i64 h.cap, .slice pa h.path.length pc, .slice ia il ic]

/-- A row of ints, read through a slice's address; S: the blocks that it may lie in. -/
def PathAt (w : World) (S : Nat → Prop) (pa : Option Addr) (l : List Int) : Prop :=
  l = [] ∨ ∃ b o, pa = some ⟨b, o, none⟩ ∧ S b ∧ ∀ (j : Nat) (x : Int), l[j]? = some x → w.cell? ⟨b, o + j, none⟩ = some (.int .i64 x)

def CellsAt (w : World) (b o : Nat) (vs : Array Value) : Prop := ∀ (j : Nat) (v : Value), vs[j]? = some v → w.cell? ⟨b, o + j, none⟩ = some v

/-- A row of data from cell o of block b on. -/
def FoAt (w : World) (S : Nat → Prop) : Nat → Nat → Fo → Prop
  | _, _, .nil => True
  | b, o, .cons h k r => (∃ pa pc ia ic, CellsAt w b o (h.cells pa pc ia k.len ic) ∧ PathAt w S pa h.path ∧ h.path.length ≤ pc ∧ pc ≤ 9223372036854775807 ∧ k.len ≤ ic ∧ ic ≤ 9223372036854775807 ∧
      (k.len = 0 ∨ ∃ b' o', ia = some ⟨b', o', none⟩ ∧ S b' ∧ FoAt w S b' o' k)) ∧ FoAt w S b (o + 11) r

/-- A row of data, read through a slice's address. -/
def SlAt (w : World) (S : Nat → Prop) (ia : Option Addr) (k : Fo) : Prop := k.len = 0 ∨ ∃ b o, ia = some ⟨b, o, none⟩ ∧ S b ∧ FoAt w S b o k

/-- What is known of a datum whose eleven cells are h's. -/
structure DatAt (w : World) (S : Nat → Prop) (h : Hd) (k : Fo) (pa : Option Addr) (pc : Nat) (ia : Option Addr) (ic : Nat) : Prop where
  path : PathAt w S pa h.path
  pcLe : h.path.length ≤ pc
  pcMax : pc ≤ 9223372036854775807
  kids : SlAt w S ia k
  icLe : k.len ≤ ic
  icMax : ic ≤ 9223372036854775807

theorem cell_lt {w : World} {b o : Nat} {v : Value} (h : w.cell? ⟨b, o, none⟩ = some v) : b < w.heap.size := by
  rcases Nat.lt_or_ge b w.heap.size with h1 | h1
  · exact h1
  · simp [World.cell?, Array.getElem?_eq_none h1] at h

theorem PathAt.keep {w w' : World} {S S' : Nat → Prop} {pa : Option Addr} {l : List Int} (h : PathAt w S pa l)
    (hk : ∀ b, S b → b < w.heap.size → w'.heap[b]? = w.heap[b]?) (hS : ∀ b, S b → b < w.heap.size → S' b) : PathAt w' S' pa l := by
  rcases h with h | ⟨b, o, h1, h2, h3⟩
  · exact .inl h
  · rcases l with _ | ⟨x, l⟩
    · exact .inl rfl
    · have hlt : b < w.heap.size := cell_lt (h3 0 x rfl)
      exact .inr ⟨b, o, h1, hS b h2 hlt, fun j y hy => (World.cell?_of_block (w := w) (hk b h2 hlt)).trans (h3 j y hy)⟩

theorem FoAt.keep {w w' : World} {S S' : Nat → Prop} (hk : ∀ b, S b → b < w.heap.size → w'.heap[b]? = w.heap[b]?) (hS : ∀ b, S b → b < w.heap.size → S' b) :
    ∀ (f : Fo) (b o : Nat), S b → FoAt w S b o f → FoAt w' S' b o f
  | .nil, _, _, _, _ => trivial
  | .cons h k r, b, o, hb, ⟨⟨pa, pc, ia, ic, h1, h2, h3, h3', h4, h4', h5⟩, h6⟩ => by
    have hlt : b < w.heap.size := cell_lt (h1 0 _ rfl)
    refine ⟨⟨pa, pc, ia, ic, fun j v hv => (World.cell?_of_block (w := w) (hk b hb hlt)).trans (h1 j v hv), h2.keep hk hS, h3, h3', h4, h4', ?_⟩, FoAt.keep hk hS r b (o + 11) hb h6⟩
    rcases h5 with h5 | ⟨b', o', e, hb', h5⟩
    · exact .inl h5
    · rcases k with _ | ⟨h', k', r'⟩
      · exact .inl rfl
      · obtain ⟨⟨_, _, _, _, h7, _⟩, _⟩ := id h5
        exact .inr ⟨b', o', e, hS b' hb' (cell_lt (h7 0 _ rfl)), FoAt.keep hk hS _ b' o' hb' h5⟩

theorem SlAt.keep {w w' : World} {S S' : Nat → Prop} {ia : Option Addr} {k : Fo} (h : SlAt w S ia k)
    (hk : ∀ b, S b → b < w.heap.size → w'.heap[b]? = w.heap[b]?) (hS : ∀ b, S b → b < w.heap.size → S' b) : SlAt w' S' ia k := by
  rcases h with h | ⟨b, o, e, hb, h⟩
  · exact .inl h
  · rcases k with _ | ⟨h', k', r'⟩
    · exact .inl rfl
    · obtain ⟨⟨_, _, _, _, h7, _⟩, _⟩ := id h
      exact .inr ⟨b, o, e, hS b hb (cell_lt (h7 0 _ rfl)), FoAt.keep hk hS _ b o hb h⟩

theorem DatAt.keep {w w' : World} {S S' : Nat → Prop} {h : Hd} {k : Fo} {pa : Option Addr} {pc : Nat} {ia : Option Addr} {ic : Nat} (d : DatAt w S h k pa pc ia ic)
    (hk : ∀ b, S b → b < w.heap.size → w'.heap[b]? = w.heap[b]?) (hS : ∀ b, S b → b < w.heap.size → S' b) : DatAt w' S' h k pa pc ia ic :=
  ⟨d.path.keep hk hS, d.pcLe, d.pcMax, d.kids.keep hk hS, d.icLe, d.icMax⟩

theorem DatAt.below {w w' : World} {S : Nat → Prop} {h : Hd} {k : Fo} {pa : Option Addr} {pc : Nat} {ia : Option Addr} {ic : Nat} (d : DatAt w S h k pa pc ia ic)
    {B : Nat} (hb : Below B w w') (hB : ∀ b, S b → b < w.heap.size → b < B) : DatAt w' S h k pa pc ia ic := d.keep (fun b h1 h2 => hb.block b (hB b h1 h2)) (fun _ h _ => h)
theorem DatAt.any {w : World} {S : Nat → Prop} {h : Hd} {k : Fo} {pa : Option Addr} {pc : Nat} {ia : Option Addr} {ic : Nat} (d : DatAt w S h k pa pc ia ic) :
    DatAt w (fun _ => True) h k pa pc ia ic := d.keep (fun _ _ _ => rfl) (fun _ _ _ => trivial)

/-- Item i of a row: its cells, and what is known of it. -/
theorem FoAt.get {w : World} {S : Nat → Prop} : ∀ (f : Fo) (b o i : Nat) (h : Hd) (k : Fo), FoAt w S b o f → f.get i = some (h, k) →
    ∃ pa pc ia ic, CellsAt w b (o + i * 11) (h.cells pa pc ia k.len ic) ∧ DatAt w S h k pa pc ia ic
  | .cons h k r, b, o, 0, h', k', ⟨⟨pa, pc, ia, ic, h1, h2, h3, h3', h4, h4', h5⟩, h6⟩, e => by
    simp only [Fo.get, Option.some.injEq, Prod.mk.injEq] at e
    obtain ⟨rfl, rfl⟩ := e
    exact ⟨pa, pc, ia, ic, by simpa using h1, h2, h3, h3', h5, h4, h4'⟩
  | .cons h k r, b, o, i + 1, h', k', ⟨_, h6⟩, e => by
    have := FoAt.get r b (o + 11) i h' k' h6 e
    rwa [show o + 11 + i * 11 = o + (i + 1) * 11 from by omega] at this
theorem SlAt.get {w : World} {S : Nat → Prop} {ia : Option Addr} {f : Fo} (hs : SlAt w S ia f) {i : Nat} {h : Hd} {k : Fo} (e : f.get i = some (h, k)) :
    ∃ b o, ia = some ⟨b, o, none⟩ ∧ S b ∧ ∃ pa pc ja jc, CellsAt w b (o + i * 11) (h.cells pa pc ja k.len jc) ∧ DatAt w S h k pa pc ja jc := by
  rcases hs with hs | ⟨b, o, h1, h2, h3⟩
  · have := Fo.get_len _ _ _ e; omega
  · exact ⟨b, o, h1, h2, FoAt.get f b o i h k h3 e⟩
/-- The eleven cells, one by one. -/
theorem CellsAt.eleven {w : World} {b o : Nat} {h : Hd} {pa : Option Addr} {pc : Nat} {ia : Option Addr} {il ic : Nat} (c : CellsAt w b o (h.cells pa pc ia il ic)) :
    w.cell? ⟨b, o, none⟩ = some (.int .i64 h.kind) ∧ w.cell? ⟨b, o + 1, none⟩ = some (.string h.type) ∧ w.cell? ⟨b, o + 2, none⟩ = some (.int .i64 h.n) ∧
    w.cell? ⟨b, o + 3, none⟩ = some (.int .u64 h.f) ∧ w.cell? ⟨b, o + 4, none⟩ = some (.string h.s) ∧ w.cell? ⟨b, o + 5, none⟩ = some (.int .i64 h.obj) ∧
    w.cell? ⟨b, o + 6, none⟩ = some (.int .i64 h.frm) ∧ w.cell? ⟨b, o + 7, none⟩ = some (.int .i64 h.len) ∧ w.cell? ⟨b, o + 8, none⟩ = some (.int .i64 h.cap) ∧
    w.cell? ⟨b, o + 9, none⟩ = some (.slice pa h.path.length pc) ∧ w.cell? ⟨b, o + 10, none⟩ = some (.slice ia il ic) :=
  ⟨c 0 _ rfl, c 1 _ rfl, c 2 _ rfl, c 3 _ rfl, c 4 _ rfl, c 5 _ rfl, c 6 _ rfl, c 7 _ rfl, c 8 _ rfl, c 9 _ rfl, c 10 _ rfl⟩
theorem PathAt.get {w : World} {S : Nat → Prop} {pa : Option Addr} {l : List Int} (h : PathAt w S pa l) {j : Nat} {x : Int} (e : l[j]? = some x) :
    ∃ b o, pa = some ⟨b, o, none⟩ ∧ S b ∧ w.cell? ⟨b, o + j, none⟩ = some (.int .i64 x) := by
  rcases h with rfl | ⟨b, o, h1, h2, h3⟩
  · simp at e
  · exact ⟨b, o, h1, h2, h3 j x e⟩

/-- Behind a call of which 'Below' is known: old cells and old marks. -/
theorem bcell {W w1 : World} (hb : Below W.heap.size W w1) : (∀ b o, b < W.heap.size → w1.cell? ⟨b, o, none⟩ = W.cell? ⟨b, o, none⟩) ∧ (∀ b o, b < W.heap.size → w1.frozen? ⟨b, o, none⟩ = W.frozen? ⟨b, o, none⟩) :=
  ⟨fun b o h => hb.cell (p := ⟨b, o, none⟩) h, fun b o h => hb.frozen (p := ⟨b, o, none⟩) h⟩
theorem below_drewN {B : Nat} {a w : World} (h : Below B a w) (n : Nat) : Below B a (w.drewN n) := ⟨h.os, h.tape, h.output, h.size, h.block⟩
end Go.Proofs.YtlhfickniegooaaDoor

namespace Go.Proofs.YtlhfickniegooaaDoor
open Go.RowKit Go.Sort

/-- A region that draws its order: its operations read what was there, its callees leave what was there: one walk in the order of the text. -/
theorem wp_region_below {P : Program} {id : Nat} {Q : Exit → Act → World → Prop} {a : Act} {w : World} {l : List Oper} (hm : P.follows .mixedOrders = true) (hB : Region.lexB .any l.toArray = true)
    (h : wpQuiet P l.toArray (fun w' => ∃ p : Regrown, w' = grow (redrawn w p.d) p.os) (fun a' => ∀ w', Below w.heap.size w w' → Q .normal a' w') l a) : (Code.region id l.toArray true).wp P Q a w := by
  refine wp_region_quiet_below hm hB ?_
  have hmono : ∀ (l' : List Oper) (a : Act), wpQuiet P l.toArray (fun w' => ∃ p : Regrown, w' = grow (redrawn w p.d) p.os) (fun a' => ∀ w', Below w.heap.size w w' → Q .normal a' w') l' a →
      wpQuiet P l.toArray (fun w' => ∃ p : Regrown, w' = grow (redrawn w p.d) p.os) (fun a' => ∀ w', (∃ p : Regrown, w' = grow (redrawn w p.d) p.os) → Q .normal a' w') l' a := by
    intro l'
    induction l' with
    | nil => intro a h w' ⟨p, hp⟩; subst hp; exact h _ (below_regrown w p.d p.os)
    | cons o r ih =>
      intro a h
      unfold wpQuiet at h ⊢
      split
      · rename_i hw
        rw [if_pos hw] at h
        exact Oper.quiet_mono (fun a ha => ih a ha) h
      · rename_i hw
        rw [if_neg hw] at h
        exact ih _ h
  exact hmono l a h

theorem bl_trans {a b c : World} (h : Below a.heap.size a b) (k : Below b.heap.size b c) : Below a.heap.size a c := h.trans (k.mono h.size)
theorem bl_alloc {a b : World} (h : Below a.heap.size a b) (o : Obj) : Below a.heap.size a (b.alloc o) := h.alloc h.size o

def Blk (w : World) (g : Nat) (t : TypeId) (cs : Array Value) : Prop := w.heap[g]? = some (.cells cs t (0, 0))
section
variable {w w' : World} {g : Nat} {t : TypeId} {cs : Array Value}
theorem Blk.lt (h : Blk w g t cs) : g < w.heap.size := by
  rcases Nat.lt_or_ge g w.heap.size with hlt | hge
  · exact hlt
  · unfold Blk at h; rw [Array.getElem?_eq_none hge] at h; cases h
theorem Blk.cell (h : Blk w g t cs) (i : Nat) : w.cell? ⟨g, i, none⟩ = cs[i]? := cell_of_row w g i cs t (0, 0) h
theorem Blk.frozen (h : Blk w g t cs) (i : Nat) : w.frozen? ⟨g, i, none⟩ = false := by
  unfold Blk at h
  simp [World.frozen?, h]
theorem Blk.new (w : World) (t : TypeId) (cs : Array Value) : Blk (w.alloc (.cells cs t)) w.heap.size t cs := heap_alloc_new w _
theorem Blk.alloc (h : Blk w g t cs) (o : Obj) : Blk (w.alloc o) g t cs := (Below.heap_alloc w o g h.lt).trans h
theorem Blk.set_ (h : Blk w g t cs) (i : Nat) (u : Value) : Blk (w.setCell ⟨g, i, none⟩ u) g t (cs.setIfInBounds i u) := by
  unfold Blk at h ⊢
  simp [World.setCell, Array.getElem?_modify, h]
theorem Blk.far (h : Blk w g t cs) {p : Addr} (hp : g ≠ p.block) (u : Value) : Blk (w.setCell p u) g t cs := (Below.heap_setCell w p u g hp).trans h
theorem Blk.below {B : Nat} (h : Blk w g t cs) (hb : Below B w w') (hg : g < B) : Blk w' g t cs := (hb.block g hg).trans h
theorem Blk.grown {row : Option Nat} (h : Blk w g t cs) (hb : w.grownBy w' row) (hg : some g ≠ row) : Blk w' g t cs := (hb.block g h.lt hg).trans h
theorem Blk.drewN (h : Blk w g t cs) (n : Nat) : Blk (w.drewN n) g t cs := h
theorem Blk.new1 (w : World) (o : Obj) (t : TypeId) (cs : Array Value) : Blk ((w.alloc o).alloc (.cells cs t)) (w.heap.size + 1) t cs := by
  have := Blk.new (w.alloc o) t cs
  simpa using this
end

theorem CellsAt.below {w w' : World} {b o B : Nat} {vs : Array Value} (h : CellsAt w b o vs) (hb : Below B w w') (hB : b < B) : CellsAt w' b o vs :=
  fun j v hv => (hb.cell (p := ⟨b, o + j, none⟩) hB).trans (h j v hv)
theorem CellsAt.of_blk {w : World} {b : Nat} {t : TypeId} {vs : Array Value} (h : Blk w b t vs) : CellsAt w b 0 vs := fun j v hv => by rw [Nat.zero_add, h.cell, hv]
/-- The eleven cells of a boxed datum, one by one. -/
theorem CellsAt.box {w : World} {b : Nat} {h : Hd} {pa : Option Addr} {pc : Nat} {ia : Option Addr} {il ic : Nat} (c : CellsAt w b 0 (h.cells pa pc ia il ic)) :
    w.cell? ⟨b, 0, none⟩ = some (.int .i64 h.kind) ∧ w.cell? ⟨b, 1, none⟩ = some (.string h.type) ∧ w.cell? ⟨b, 2, none⟩ = some (.int .i64 h.n) ∧
    w.cell? ⟨b, 3, none⟩ = some (.int .u64 h.f) ∧ w.cell? ⟨b, 4, none⟩ = some (.string h.s) ∧ w.cell? ⟨b, 5, none⟩ = some (.int .i64 h.obj) ∧
    w.cell? ⟨b, 6, none⟩ = some (.int .i64 h.frm) ∧ w.cell? ⟨b, 7, none⟩ = some (.int .i64 h.len) ∧ w.cell? ⟨b, 8, none⟩ = some (.int .i64 h.cap) ∧
    w.cell? ⟨b, 9, none⟩ = some (.slice pa h.path.length pc) ∧ w.cell? ⟨b, 10, none⟩ = some (.slice ia il ic) := by
  have := c.eleven
  simpa using this
/-- The eleven cells of a datum in every world that a drawn region's callees may leave. -/
theorem CellsAt.rg {w : World} {b o : Nat} {h : Hd} {pa : Option Addr} {pc : Nat} {ia : Option Addr} {il ic : Nat} (c : CellsAt w b o (h.cells pa pc ia il ic)) :
    (∀ d os, (grow (redrawn w d) os).cell? ⟨b, o, none⟩ = some (.int .i64 h.kind)) ∧ (∀ d os, (grow (redrawn w d) os).cell? ⟨b, o + 1, none⟩ = some (.string h.type)) ∧ (∀ d os, (grow (redrawn w d) os).cell? ⟨b, o + 2, none⟩ = some (.int .i64 h.n)) ∧
    (∀ d os, (grow (redrawn w d) os).cell? ⟨b, o + 3, none⟩ = some (.int .u64 h.f)) ∧ (∀ d os, (grow (redrawn w d) os).cell? ⟨b, o + 4, none⟩ = some (.string h.s)) ∧ (∀ d os, (grow (redrawn w d) os).cell? ⟨b, o + 5, none⟩ = some (.int .i64 h.obj)) ∧
    (∀ d os, (grow (redrawn w d) os).cell? ⟨b, o + 6, none⟩ = some (.int .i64 h.frm)) ∧ (∀ d os, (grow (redrawn w d) os).cell? ⟨b, o + 7, none⟩ = some (.int .i64 h.len)) ∧ (∀ d os, (grow (redrawn w d) os).cell? ⟨b, o + 8, none⟩ = some (.int .i64 h.cap)) ∧
    (∀ d os, (grow (redrawn w d) os).cell? ⟨b, o + 9, none⟩ = some (.slice pa h.path.length pc)) ∧ (∀ d os, (grow (redrawn w d) os).cell? ⟨b, o + 10, none⟩ = some (.slice ia il ic)) := by
  obtain ⟨c0, c1, c2, c3, c4, c5, c6, c7, c8, c9, c10⟩ := c.eleven
  exact ⟨cell_regrown c0, cell_regrown c1, cell_regrown c2, cell_regrown c3, cell_regrown c4, cell_regrown c5, cell_regrown c6, cell_regrown c7, cell_regrown c8, cell_regrown c9, cell_regrown c10⟩
theorem CellsAt.boxrg {w : World} {b : Nat} {h : Hd} {pa : Option Addr} {pc : Nat} {ia : Option Addr} {il ic : Nat} (c : CellsAt w b 0 (h.cells pa pc ia il ic)) :
    (∀ d os, (grow (redrawn w d) os).cell? ⟨b, 0, none⟩ = some (.int .i64 h.kind)) ∧ (∀ d os, (grow (redrawn w d) os).cell? ⟨b, 1, none⟩ = some (.string h.type)) ∧ (∀ d os, (grow (redrawn w d) os).cell? ⟨b, 2, none⟩ = some (.int .i64 h.n)) ∧
    (∀ d os, (grow (redrawn w d) os).cell? ⟨b, 3, none⟩ = some (.int .u64 h.f)) ∧ (∀ d os, (grow (redrawn w d) os).cell? ⟨b, 4, none⟩ = some (.string h.s)) ∧ (∀ d os, (grow (redrawn w d) os).cell? ⟨b, 5, none⟩ = some (.int .i64 h.obj)) ∧
    (∀ d os, (grow (redrawn w d) os).cell? ⟨b, 6, none⟩ = some (.int .i64 h.frm)) ∧ (∀ d os, (grow (redrawn w d) os).cell? ⟨b, 7, none⟩ = some (.int .i64 h.len)) ∧ (∀ d os, (grow (redrawn w d) os).cell? ⟨b, 8, none⟩ = some (.int .i64 h.cap)) ∧
    (∀ d os, (grow (redrawn w d) os).cell? ⟨b, 9, none⟩ = some (.slice pa h.path.length pc)) ∧ (∀ d os, (grow (redrawn w d) os).cell? ⟨b, 10, none⟩ = some (.slice ia il ic)) := by
  have := c.rg
  simpa using this

theorem grown_below {w w1 w2 : World} {row : Option Nat} (h : w.grownBy w1 row) (hb : Below w1.heap.size w1 w2) : w.grownBy w2 row :=
  ⟨hb.os.trans h.os, hb.tape.trans h.tape, hb.output.trans h.output, Nat.le_trans h.size hb.size, fun k hk hne => (hb.block k (Nat.lt_of_lt_of_le hk h.size)).trans (h.block k hk hne)⟩
theorem grown_drewN {w w1 : World} {row : Option Nat} (h : w.grownBy w1 row) (n : Nat) : w.grownBy (w1.drewN n) row := ⟨h.os, h.tape, h.output, h.size, h.block⟩
theorem grown_trans {a b c : World} {row : Option Nat} (h : a.grownBy b row) (k : b.grownBy c row) : a.grownBy c row :=
  ⟨k.os.trans h.os, k.tape.trans h.tape, k.output.trans h.output, Nat.le_trans h.size k.size, fun i hi hn => (k.block i (Nat.lt_of_lt_of_le hi h.size) hn).trans (h.block i hi hn)⟩
theorem grown_alloc {a b : World} {row : Option Nat} (h : a.grownBy b row) (o : Obj) : a.grownBy (b.alloc o) row :=
  ⟨h.os, h.tape, h.output, Nat.le_trans h.size (by simp), fun i hi hn => (Below.heap_alloc _ _ _ (Nat.lt_of_lt_of_le hi h.size)).trans (h.block i hi hn)⟩
end Go.Proofs.YtlhfickniegooaaDoor

namespace Go.Proofs.YtlhfickniegooaaDoor
open Go.RowKit
variable {df : List Deferred}

/-- What slot k of a frame holds. -/
def slot (a : Act) (k : Nat) : Value := a.tmps.getD k undef
/-- A frame of n slots, with nothing deferred, of which some slots are known. -/
structure Sl (n : Nat) (a : Act) (l : List (Nat × Value)) (df : List Deferred := []) : Prop where
  size : a.tmps.size = n
  defers : a.defers = df
  known : ∀ p ∈ l, slot a p.1 = p.2
theorem find_mem {k : Nat} {v : Value} : ∀ {l : List (Nat × Value)}, l.lookup k = some v → (k, v) ∈ l
  | [], h => by cases h
  | (j, u) :: l, h => by
    rw [List.lookup_cons] at h
    by_cases e : (k == j) = true
    · have e' : k = j := by simpa using e
      subst e'
      simp at h
      subst h
      exact List.mem_cons_self
    · have e' : (k == j) = false := by simpa using e
      rw [e'] at h
      exact List.mem_cons_of_mem _ (find_mem h)
theorem Sl.look {n : Nat} {a : Act} {l : List (Nat × Value)} (h : Sl n a l df) (k : Nat) {v : Value} (e : l.lookup k = some v) : slot a k = v := h.known (k, v) (find_mem e)
/-- The slots that stay are known as before. -/
theorem Sl.keep {n : Nat} {a a' : Act} {l : List (Nat × Value)} {ks : List Nat} (h : Sl n a l df) (hs : a'.tmps.size = n) (hd : a'.defers = df) (hk : ∀ k ∈ ks, slot a' k = slot a k) (hl : (l.map Prod.fst).all (fun k => ks.contains k) = true) : Sl n a' l df :=
  ⟨hs, hd, fun p hp => (hk p.1 (by
    have := List.all_eq_true.1 hl p.1 (List.mem_map_of_mem hp)
    simpa using this)).trans (h.known p hp)⟩
theorem Sl.add {n : Nat} {a : Act} {l : List (Nat × Value)} (h : Sl n a l df) {k : Nat} {v : Value} (e : slot a k = v) : Sl n a ((k, v) :: l) df :=
  ⟨h.size, h.defers, fun p hp => by
    rcases List.mem_cons.1 hp with rfl | hp
    · exact e
    · exact h.known p hp⟩
def KeepL (f : Nat → Value) (a' : Act) : List Nat → Prop
  | [] => True
  | k :: ks => slot a' k = f k ∧ KeepL f a' ks
theorem KeepL.get {f : Nat → Value} {a' : Act} : ∀ {ks : List Nat}, KeepL f a' ks → ∀ k ∈ ks, slot a' k = f k
  | [], _, k, h => by cases h
  | j :: ks, ⟨h1, h2⟩, k, h => by
    rcases List.mem_cons.1 h with rfl | h
    · exact h1
    · exact KeepL.get h2 k h
theorem Sl.stay {n : Nat} {a a' : Act} {l : List (Nat × Value)} {f : Nat → Value} (ks : List Nat) (h : Sl n a l df) (hf : ∀ k, slot a k = f k) (hs : a'.tmps.size = n) (hd : a'.defers = df) (hk : KeepL f a' ks) (hl : (l.map Prod.fst).all (fun k => ks.contains k) = true) : Sl n a' l df :=
  h.keep hs hd (fun k hm => (hk.get k hm).trans (hf k).symm) hl
theorem Sl.sub {n : Nat} {a : Act} {l l' : List (Nat × Value)} (h : Sl n a l df) (hl : ∀ p ∈ l', p ∈ l) : Sl n a l' df := ⟨h.size, h.defers, fun p hp => h.known p (hl p hp)⟩
theorem Sl.tl {n : Nat} {a : Act} {p : Nat × Value} {l : List (Nat × Value)} (h : Sl n a (p :: l) df) : Sl n a l df := ⟨h.size, h.defers, fun q hq => h.known q (List.mem_cons_of_mem _ hq)⟩
theorem Sl.none {n : Nat} {a : Act} {l : List (Nat × Value)} (h : Sl n a l df) : Sl n a [] df := ⟨h.size, h.defers, fun _ hp => by cases hp⟩
/-- A test whose 'then' does nothing. -/
theorem wpc_on {P : Program} {k : Nat} {y : Code} {K : Act → World → Prop} {Q : Exit → Act → World → Prop} {a : Act} {w : World} (hc : slot a k = .bool true) (h : K a w) : (Code.cond (.tmp k) .skip y).wp P (Exit.then K Q) a w := wp_cond_true hc (wp_skip h)
/-- The way out of a loop. -/
theorem wpc_exit {P : Program} {k n : Nat} {Q : Exit → Act → World → Prop} {a : Act} {w : World} (hc : slot a k = .bool false) (h : Q (.exit n) a w) : (Code.cond (.tmp k) .skip (.exit n)).wp P Q a w := wp_cond_false hc (wp_exit h)
/-- A test that fails, with nothing else to do. -/
theorem wpc_off {P : Program} {k : Nat} {x : Code} {Q : Exit → Act → World → Prop} {a : Act} {w : World} (hc : slot a k = .bool false) (h : Q .normal a w) : (Code.cond (.tmp k) x .skip).wp P Q a w := wp_cond_false hc (wp_skip h)
/-- How far a counter is from an end. -/
def muTo (n : Nat) : Value → Nat
  | .int _ x => n - x.toNat
  | _ => 0
theorem muTo_int (n : Nat) (k : IntKind) (x : Nat) : muTo n (.int k (x : Int)) = n - x := by simp [muTo]
/-- The region of that number. -/
def findR (n : Nat) : Code → Option Code
  | .region id ops d => if id = n then some (.region id ops d) else none
  | .seq a b => match findR n a with
    | some c => some c
    | none => findR n b
  | .cond _ a b => match findR n a with
    | some c => some c
    | none => findR n b
  | .rangeFunc _ _ a b => match findR n a with
    | some c => some c
    | none => findR n b
  | .block _ c => findR n c
  | .loop c => findR n c
  | .scope c => findR n c
  | _ => none
end Go.Proofs.YtlhfickniegooaaDoor
