/-
  What a datum of package api is, as a plain Lean tree, and how it lies in memory. No condition. Written by an AI agent.
-/
import Derived.WalkKit
import Derived.Below
import Derived.Deep.Draws
namespace Go.Proofs.YthdmmhiifkebeaaDoor
open Go.RowKit

/-- A datum but for its items. -/
structure Hd where
  kind : Int
  type : ByteArray
  n : Int
  f : Int
  s : ByteArray
  obj : Int
  frm : Int
  len : Int
  cap : Int
  path : List Int

/-- A row of data, each with its items. -/
inductive Fo where
  | nil
  | cons (h : Hd) (kids rest : Fo)

namespace Fo
def len : Fo → Nat
  | .nil => 0
  | .cons _ _ r => r.len + 1
def get : Fo → Nat → Option (Hd × Fo)
  | .nil, _ => none
  | .cons h k _, 0 => some (h, k)
  | .cons _ _ r, i + 1 => r.get i
def drop : Fo → Nat → Fo
  | f, 0 => f
  | .nil, _ + 1 => .nil
  | .cons _ _ r, i + 1 => r.drop i
@[simp] theorem drop_zero (f : Fo) : f.drop 0 = f := by cases f <;> rfl
@[simp] theorem drop_nil (i : Nat) : Fo.nil.drop i = .nil := by cases i <;> rfl
theorem len_nil : Fo.nil.len = 0 := rfl
theorem len_cons (h : Hd) (k r : Fo) : (Fo.cons h k r).len = r.len + 1 := rfl
theorem get_lt : ∀ (f : Fo) (i : Nat), i < f.len → ∃ h k, f.get i = some (h, k)
  | .nil, i, hi => absurd hi (by simp [len])
  | .cons h k r, 0, _ => ⟨h, k, rfl⟩
  | .cons _ _ r, i + 1, hi => get_lt r i (by simp [len] at hi; omega)
theorem drop_get : ∀ (f : Fo) (i : Nat) (h : Hd) (k : Fo), f.get i = some (h, k) → f.drop i = .cons h k (f.drop (i + 1))
  | .cons h k r, 0, h', k', e => by
    simp only [get, Option.some.injEq, Prod.mk.injEq] at e
    obtain ⟨rfl, rfl⟩ := e
    simp [drop]
  | .cons h k r, i + 1, h', k', e => by
    have := drop_get r i h' k' e
    simpa [drop] using this
theorem drop_len : ∀ (f : Fo) (i : Nat), f.len ≤ i → f.drop i = .nil
  | .nil, i, _ => by simp
  | .cons h k r, 0, hi => absurd hi (by simp [len])
  | .cons h k r, i + 1, hi => by simp only [drop]; exact drop_len r i (by simp [len] at hi; omega)
theorem len_eq_zero : ∀ (f : Fo), f.len = 0 → f = .nil
  | .nil, _ => rfl
  | .cons _ _ _, h => by simp [len] at h
theorem get_len : ∀ (f : Fo) (i : Nat) (x : Hd × Fo), f.get i = some x → i < f.len
  | .nil, _, _, h => by simp [get] at h
  | .cons _ _ r, 0, _, _ => by simp [len]
  | .cons _ _ r, i + 1, x, h => by have := get_len r i x h; simp only [len]; omega
end Fo

def okInt (n : Int) : Prop := -9223372036854775808 ≤ n ∧ n ≤ 9223372036854775807
/-- The numbers of a datum are numbers of their kinds; nothing is longer than what can be read. -/
structure Hd.ok (h : Hd) : Prop where
  kind : okInt h.kind
  n : okInt h.n
  f0 : 0 ≤ h.f
  f1 : h.f ≤ 18446744073709551615
  obj : okInt h.obj
  frm : okInt h.frm
  len : okInt h.len
  cap : okInt h.cap
  type : h.type.size ≤ 140737488351232
  s : h.s.size ≤ 140737488351232
  path : h.path.length ≤ 17592186043904
  each : ∀ (j : Nat) (x : Int), h.path[j]? = some x → okInt x
def Fo.ok : Fo → Prop
  | .nil => True
  | .cons h k r => h.ok ∧ k.ok ∧ r.ok ∧ k.len ≤ 1034834473170
theorem Fo.ok_get : ∀ (f : Fo) (i : Nat) (h : Hd) (k : Fo), f.ok → f.get i = some (h, k) → h.ok ∧ k.ok ∧ k.len ≤ 1034834473170
  | .cons h k r, 0, h', k', o, e => by
    simp only [get, Option.some.injEq, Prod.mk.injEq] at e
    obtain ⟨rfl, rfl⟩ := e
    exact ⟨o.1, o.2.1, o.2.2.2⟩
  | .cons h k r, i + 1, h', k', o, e => ok_get r i h' k' o.2.2.1 e

/-- The eleven cells of a datum. -/
def Hd.cells (h : Hd) (pa : Option Addr) (pc : Nat) (ia : Option Addr) (il ic : Nat) : Array Value :=
  #[.int .i64 h.kind, .string h.type, .int .i64 h.n, .int .u64 h.f, .string h.s, .int .i64 h.obj, .int .i64 h.frm, .int .i64 h.len, .int .i64 h.cap, .slice pa h.path.length pc, .slice ia il ic]

/-- A row of ints, read through a slice's address; S: the blocks that it may lie in. -/
def PathAt (w : World) (S : Nat → Prop) (pa : Option Addr) (l : List Int) : Prop :=
  l = [] ∨ ∃ b o, pa = some ⟨b, o, none⟩ ∧ S b ∧ ∀ (j : Nat) (x : Int), l[j]? = some x → w.cell? ⟨b, o + j, none⟩ = some (.int .i64 x)

def CellsAt (w : World) (b o : Nat) (vs : Array Value) : Prop := ∀ (j : Nat) (v : Value), vs[j]? = some v → w.cell? ⟨b, o + j, none⟩ = some v

/-- A row of data from cell o of block b on. -/
def FoAt (w : World) (S : Nat → Prop) : Nat → Nat → Fo → Prop
  | _, _, .nil => True
  | b, o, .cons h k r => (∃ pa pc ia ic, CellsAt w b o (h.cells pa pc ia k.len ic) ∧ PathAt w S pa h.path ∧ h.path.length ≤ pc ∧ pc ≤ 9223372036854775807 ∧ k.len ≤ ic ∧ ic ≤ 9223372036854775807 ∧
      (k.len = 0 ∨ ∃ b' o', ia = some ⟨b', o', none⟩ ∧ S b' ∧ FoAt w S b' o' k)) ∧ FoAt w S b (o + 11) r

/-- A row of data, read through a slice's address. -/
def SlAt (w : World) (S : Nat → Prop) (ia : Option Addr) (k : Fo) : Prop := k.len = 0 ∨ ∃ b o, ia = some ⟨b, o, none⟩ ∧ S b ∧ FoAt w S b o k

/-- What is known of a datum whose eleven cells are h's. -/
structure DatAt (w : World) (S : Nat → Prop) (h : Hd) (k : Fo) (pa : Option Addr) (pc : Nat) (ia : Option Addr) (ic : Nat) : Prop where
  path : PathAt w S pa h.path
  pcLe : h.path.length ≤ pc
  pcMax : pc ≤ 9223372036854775807
  kids : SlAt w S ia k
  icLe : k.len ≤ ic
  icMax : ic ≤ 9223372036854775807

theorem cell_lt {w : World} {b o : Nat} {v : Value} (h : w.cell? ⟨b, o, none⟩ = some v) : b < w.heap.size := by
  rcases Nat.lt_or_ge b w.heap.size with h1 | h1
  · exact h1
  · simp [World.cell?, Array.getElem?_eq_none h1] at h

theorem PathAt.keep {w w' : World} {S S' : Nat → Prop} {pa : Option Addr} {l : List Int} (h : PathAt w S pa l)
    (hk : ∀ b, S b → b < w.heap.size → w'.heap[b]? = w.heap[b]?) (hS : ∀ b, S b → b < w.heap.size → S' b) : PathAt w' S' pa l := by
  rcases h with h | ⟨b, o, h1, h2, h3⟩
  · exact .inl h
  · rcases l with _ | ⟨x, l⟩
    · exact .inl rfl
    · have hlt : b < w.heap.size := cell_lt (h3 0 x rfl)
      exact .inr ⟨b, o, h1, hS b h2 hlt, fun j y hy => (World.cell?_of_block (w := w) (hk b h2 hlt)).trans (h3 j y hy)⟩

theorem FoAt.keep {w w' : World} {S S' : Nat → Prop} (hk : ∀ b, S b → b < w.heap.size → w'.heap[b]? = w.heap[b]?) (hS : ∀ b, S b → b < w.heap.size → S' b) :
    ∀ (f : Fo) (b o : Nat), S b → FoAt w S b o f → FoAt w' S' b o f
  | .nil, _, _, _, _ => trivial
  | .cons h k r, b, o, hb, ⟨⟨pa, pc, ia, ic, h1, h2, h3, h3', h4, h4', h5⟩, h6⟩ => by
    have hlt : b < w.heap.size := cell_lt (h1 0 _ rfl)
    refine ⟨⟨pa, pc, ia, ic, fun j v hv => (World.cell?_of_block (w := w) (hk b hb hlt)).trans (h1 j v hv), h2.keep hk hS, h3, h3', h4, h4', ?_⟩, FoAt.keep hk hS r b (o + 11) hb h6⟩
    rcases h5 with h5 | ⟨b', o', e, hb', h5⟩
    · exact .inl h5
    · rcases k with _ | ⟨h', k', r'⟩
      · exact .inl rfl
      · obtain ⟨⟨_, _, _, _, h7, _⟩, _⟩ := id h5
        exact .inr ⟨b', o', e, hS b' hb' (cell_lt (h7 0 _ rfl)), FoAt.keep hk hS _ b' o' hb' h5⟩

theorem SlAt.keep {w w' : World} {S S' : Nat → Prop} {ia : Option Addr} {k : Fo} (h : SlAt w S ia k)
    (hk : ∀ b, S b → b < w.heap.size → w'.heap[b]? = w.heap[b]?) (hS : ∀ b, S b → b < w.heap.size → S' b) : SlAt w' S' ia k := by
  rcases h with h | ⟨b, o, e, hb, h⟩
  · exact .inl h
  · rcases k with _ | ⟨h', k', r'⟩
    · exact .inl rfl
    · obtain ⟨⟨_, _, _, _, h7, _⟩, _⟩ := id h
      exact .inr ⟨b, o, e, hS b hb (cell_lt (h7 0 _ rfl)), FoAt.keep hk hS _ b o hb h⟩

theorem DatAt.keep {w w' : World} {S S' : Nat → Prop} {h : Hd} {k : Fo} {pa : Option Addr} {pc : Nat} {ia : Option Addr} {ic : Nat} (d : DatAt w S h k pa pc ia ic)
    (hk : ∀ b, S b → b < w.heap.size → w'.heap[b]? = w.heap[b]?) (hS : ∀ b, S b → b < w.heap.size → S' b) : DatAt w' S' h k pa pc ia ic :=
  ⟨d.path.keep hk hS, d.pcLe, d.pcMax, d.kids.keep hk hS, d.icLe, d.icMax⟩

theorem DatAt.below {w w' : World} {S : Nat → Prop} {h : Hd} {k : Fo} {pa : Option Addr} {pc : Nat} {ia : Option Addr} {ic : Nat} (d : DatAt w S h k pa pc ia ic)
    {B : Nat} (hb : Below B w w') (hB : ∀ b, S b → b < w.heap.size → b < B) : DatAt w' S h k pa pc ia ic := d.keep (fun b h1 h2 => hb.block b (hB b h1 h2)) (fun _ h _ => h)
theorem DatAt.any {w : World} {S : Nat → Prop} {h : Hd} {k : Fo} {pa : Option Addr} {pc : Nat} {ia : Option Addr} {ic : Nat} (d : DatAt w S h k pa pc ia ic) :
    DatAt w (fun _ => True) h k pa pc ia ic := d.keep (fun _ _ _ => rfl) (fun _ _ _ => trivial)

/-- Item i of a row: its cells, and what is known of it. -/
theorem FoAt.get {w : World} {S : Nat → Prop} : ∀ (f : Fo) (b o i : Nat) (h : Hd) (k : Fo), FoAt w S b o f → f.get i = some (h, k) →
    ∃ pa pc ia ic, CellsAt w b (o + i * 11) (h.cells pa pc ia k.len ic) ∧ DatAt w S h k pa pc ia ic
  | .cons h k r, b, o, 0, h', k', ⟨⟨pa, pc, ia, ic, h1, h2, h3, h3', h4, h4', h5⟩, h6⟩, e => by
    simp only [Fo.get, Option.some.injEq, Prod.mk.injEq] at e
    obtain ⟨rfl, rfl⟩ := e
    exact ⟨pa, pc, ia, ic, by simpa using h1, h2, h3, h3', h5, h4, h4'⟩
  | .cons h k r, b, o, i + 1, h', k', ⟨_, h6⟩, e => by
    have := FoAt.get r b (o + 11) i h' k' h6 e
    rwa [show o + 11 + i * 11 = o + (i + 1) * 11 from by omega] at this
theorem SlAt.get {w : World} {S : Nat → Prop} {ia : Option Addr} {f : Fo} (hs : SlAt w S ia f) {i : Nat} {h : Hd} {k : Fo} (e : f.get i = some (h, k)) :
    ∃ b o, ia = some ⟨b, o, none⟩ ∧ S b ∧ ∃ pa pc ja jc, CellsAt w b (o + i * 11) (h.cells pa pc ja k.len jc) ∧ DatAt w S h k pa pc ja jc := by
  rcases hs with hs | ⟨b, o, h1, h2, h3⟩
  · have := Fo.get_len _ _ _ e; omega
  · exact ⟨b, o, h1, h2, FoAt.get f b o i h k h3 e⟩
/-- The eleven cells, one by one. -/
theorem CellsAt.eleven {w : World} {b o : Nat} {h : Hd} {pa : Option Addr} {pc : Nat} {ia : Option Addr} {il ic : Nat} (c : CellsAt w b o (h.cells pa pc ia il ic)) :
    w.cell? ⟨b, o, none⟩ = some (.int .i64 h.kind) ∧ w.cell? ⟨b, o + 1, none⟩ = some (.string h.type) ∧ w.cell? ⟨b, o + 2, none⟩ = some (.int .i64 h.n) ∧
    w.cell? ⟨b, o + 3, none⟩ = some (.int .u64 h.f) ∧ w.cell? ⟨b, o + 4, none⟩ = some (.string h.s) ∧ w.cell? ⟨b, o + 5, none⟩ = some (.int .i64 h.obj) ∧
    w.cell? ⟨b, o + 6, none⟩ = some (.int .i64 h.frm) ∧ w.cell? ⟨b, o + 7, none⟩ = some (.int .i64 h.len) ∧ w.cell? ⟨b, o + 8, none⟩ = some (.int .i64 h.cap) ∧
    w.cell? ⟨b, o + 9, none⟩ = some (.slice pa h.path.length pc) ∧ w.cell? ⟨b, o + 10, none⟩ = some (.slice ia il ic) :=
  ⟨c 0 _ rfl, c 1 _ rfl, c 2 _ rfl, c 3 _ rfl, c 4 _ rfl, c 5 _ rfl, c 6 _ rfl, c 7 _ rfl, c 8 _ rfl, c 9 _ rfl, c 10 _ rfl⟩
theorem PathAt.get {w : World} {S : Nat → Prop} {pa : Option Addr} {l : List Int} (h : PathAt w S pa l) {j : Nat} {x : Int} (e : l[j]? = some x) :
    ∃ b o, pa = some ⟨b, o, none⟩ ∧ S b ∧ w.cell? ⟨b, o + j, none⟩ = some (.int .i64 x) := by
  rcases h with rfl | ⟨b, o, h1, h2, h3⟩
  · simp at e
  · exact ⟨b, o, h1, h2, h3 j x e⟩

/-- Behind a call of which 'Below' is known: old cells and old marks. -/
theorem bcell {W w1 : World} (hb : Below W.heap.size W w1) : (∀ b o, b < W.heap.size → w1.cell? ⟨b, o, none⟩ = W.cell? ⟨b, o, none⟩) ∧ (∀ b o, b < W.heap.size → w1.frozen? ⟨b, o, none⟩ = W.frozen? ⟨b, o, none⟩) :=
  ⟨fun b o h => hb.cell (p := ⟨b, o, none⟩) h, fun b o h => hb.frozen (p := ⟨b, o, none⟩) h⟩
theorem below_drewN {B : Nat} {a w : World} (h : Below B a w) (n : Nat) : Below B a (w.drewN n) := ⟨h.os, h.tape, h.output, h.size, h.block⟩
end Go.Proofs.YthdmmhiifkebeaaDoor
