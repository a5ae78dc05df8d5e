/-
  Separate memory: a datum each of whose rows lies in a block of its own; and the law's spoil, which writes over it and over nothing else. Written by an AI agent.
-/
import Derived.Test.YthdmmhiifkebeaaDoorVal8
namespace Go.Proofs.YthdmmhiifkebeaaDoor
open Go.RowKit Go.Sort

/-- A block of cells. -/
def Cel (w : World) (g : Nat) : Prop := ∃ t cs, Blk w g t cs
theorem Cel.lt {w : World} {g : Nat} (h : Cel w g) : g < w.heap.size := by obtain ⟨t, cs, h⟩ := h; exact h.lt
theorem Cel.keep {w w' : World} {g : Nat} (h : Cel w g) (hk : w'.heap[g]? = w.heap[g]?) : Cel w' g := by obtain ⟨t, cs, h⟩ := h; exact ⟨t, cs, hk.trans h⟩
/-- A row of data from cell o of block b on; what its items lead to lies in blocks from lo to hi, of which no two share one. -/
def SepF (w : World) : Nat → Nat → Nat → Nat → Fo → Prop
  | _, _, _, _, .nil => True
  | lo, hi, b, o, .cons h k r => ∃ m pa pc ia ic, m ≤ hi ∧ CellsAt w b o (h.cells pa pc ia k.len ic) ∧
      (∃ q1 q2, lo ≤ q1 ∧ q1 ≤ q2 ∧ q2 ≤ m ∧ PathAt w (fun x => lo ≤ x ∧ x < m ∧ (x < q1 ∨ q2 ≤ x) ∧ Cel w x) pa h.path ∧
        (k.len = 0 ∨ ∃ b' o', ia = some ⟨b', o', none⟩ ∧ q1 ≤ b' ∧ b' < q2 ∧ Cel w b' ∧ SepF w (b' + 1) q2 b' o' k)) ∧ SepF w m hi b (o + 11) r
/-- What a datum leads to lies in blocks from lo to hi, of which no two rows share one. -/
def SepD (w : World) (lo hi : Nat) (h : Hd) (k : Fo) (pa ia : Option Addr) : Prop :=
  ∃ q1 q2, lo ≤ q1 ∧ q1 ≤ q2 ∧ q2 ≤ hi ∧ PathAt w (fun x => lo ≤ x ∧ x < hi ∧ (x < q1 ∨ q2 ≤ x) ∧ Cel w x) pa h.path ∧
    (k.len = 0 ∨ ∃ b o, ia = some ⟨b, o, none⟩ ∧ q1 ≤ b ∧ b < q2 ∧ Cel w b ∧ SepF w (b + 1) q2 b o k)
theorem SepF_cons {w : World} {lo hi b o : Nat} {h : Hd} {k r : Fo} : SepF w lo hi b o (.cons h k r) ↔ ∃ m pa pc ia ic, m ≤ hi ∧ CellsAt w b o (h.cells pa pc ia k.len ic) ∧ SepD w lo m h k pa ia ∧ SepF w m hi b (o + 11) r := Iff.rfl
theorem SepD.le {w : World} {lo hi : Nat} {h : Hd} {k : Fo} {pa ia : Option Addr} (d : SepD w lo hi h k pa ia) : lo ≤ hi := by
  obtain ⟨q1, q2, h1, h2, h3, _⟩ := d
  omega
theorem SepF.keep {w w' : World} : ∀ (f : Fo) (lo hi b o : Nat), SepF w lo hi b o f → (∀ x, lo ≤ x → x < hi → x < w.heap.size → w'.heap[x]? = w.heap[x]?) →
    (∀ n v, o ≤ n → w.cell? ⟨b, n, none⟩ = some v → w'.cell? ⟨b, n, none⟩ = some v) → SepF w' lo hi b o f
  | .nil, _, _, _, _, _, _, _ => trivial
  | .cons h k r, lo, hi, b, o, ⟨m, pa, pc, ia, ic, hm, hc, ⟨q1, q2, h1, h2, h3, h4, h5⟩, h6⟩, hk, hb => by
    refine ⟨m, pa, pc, ia, ic, hm, fun j v hv => hb _ _ (by omega) (hc j v hv), ⟨q1, q2, h1, h2, h3, h4.keep (fun x hx hlt => hk x hx.1 (by omega) hlt) (fun x hx hlt => ⟨hx.1, hx.2.1, hx.2.2.1, hx.2.2.2.keep (hk x hx.1 (by omega) hlt)⟩), ?_⟩,
      SepF.keep r m hi b (o + 11) h6 (fun x hx hy => hk x (by omega) hy) (fun n v hn => hb n v (by omega))⟩
    rcases h5 with h5 | ⟨b', o', e, g1, g2, g3, g4⟩
    · exact .inl h5
    · have hkb := hk b' (by omega) (by omega) g3.lt
      exact .inr ⟨b', o', e, g1, g2, g3.keep hkb, SepF.keep k (b' + 1) q2 b' o' g4 (fun x hx hy => hk x (by omega) (by omega)) (fun n v _ hn => (World.cell?_of_block (w := w) hkb).trans hn)⟩
theorem SepD.keep {w w' : World} {lo hi : Nat} {h : Hd} {k : Fo} {pa ia : Option Addr} (d : SepD w lo hi h k pa ia) (hk : ∀ x, lo ≤ x → x < hi → x < w.heap.size → w'.heap[x]? = w.heap[x]?) : SepD w' lo hi h k pa ia := by
  obtain ⟨q1, q2, h1, h2, h3, h4, h5⟩ := d
  refine ⟨q1, q2, h1, h2, h3, h4.keep (fun x hx hlt => hk x hx.1 hx.2.1 hlt) (fun x hx hlt => ⟨hx.1, hx.2.1, hx.2.2.1, hx.2.2.2.keep (hk x hx.1 hx.2.1 hlt)⟩), ?_⟩
  rcases h5 with h5 | ⟨b', o', e, g1, g2, g3, g4⟩
  · exact .inl h5
  · have hkb := hk b' (by omega) (by omega) g3.lt
    exact .inr ⟨b', o', e, g1, g2, g3.keep hkb, SepF.keep k (b' + 1) q2 b' o' g4 (fun x hx hy => hk x (by omega) (by omega)) (fun n v _ hn => (World.cell?_of_block (w := w) hkb).trans hn)⟩

/-- Nothing but what lies in blocks lo to hi is another. -/
structure Spo (lo hi : Nat) (w w' : World) : Prop where
  os : w'.os = w.os
  tape : w'.tape = w.tape
  output : w'.output = w.output
  size : w.heap.size ≤ w'.heap.size
  block : ∀ x, x < w.heap.size → x < lo ∨ hi ≤ x → w'.heap[x]? = w.heap[x]?
theorem Spo.of_below {lo hi : Nat} {w w' : World} (h : Below w.heap.size w w') : Spo lo hi w w' := ⟨h.os, h.tape, h.output, h.size, fun x hx _ => h.block x hx⟩
theorem Spo.trans {lo hi : Nat} {w w1 w2 : World} (h : Spo lo hi w w1) (g : Spo lo hi w1 w2) : Spo lo hi w w2 :=
  ⟨g.os.trans h.os, g.tape.trans h.tape, g.output.trans h.output, Nat.le_trans h.size g.size, fun x hx hy => (g.block x (Nat.lt_of_lt_of_le hx h.size) hy).trans (h.block x hx hy)⟩
theorem Spo.mono {lo hi lo' hi' : Nat} {w w' : World} (h : Spo lo hi w w') (h1 : lo' ≤ lo) (h2 : hi ≤ hi') : Spo lo' hi' w w' := ⟨h.os, h.tape, h.output, h.size, fun x hx hy => h.block x hx (by omega)⟩
theorem Spo.setCell {lo hi b o : Nat} (w : World) (v : Value) (h1 : lo ≤ b) (h2 : b < hi) : Spo lo hi w (w.setCell ⟨b, o, none⟩ v) :=
  ⟨rfl, rfl, rfl, by simp [World.setCell], fun x _ hy => Below.heap_setCell _ _ _ _ (by show x ≠ b; omega)⟩
theorem setCells_same (b : Nat) : ∀ (vs : List Value) (o : Nat) (w : World), (w.setCells b o vs).os = w.os ∧ (w.setCells b o vs).tape = w.tape ∧ (w.setCells b o vs).output = w.output
  | [], _, _ => ⟨rfl, rfl, rfl⟩
  | _ :: r, o, _ => setCells_same b r (o + 1) _
theorem Spo.setCells {lo hi b o : Nat} (w : World) (vs : List Value) (h1 : lo ≤ b) (h2 : b < hi) : Spo lo hi w (w.setCells b o vs) := by
  obtain ⟨e1, e2, e3⟩ := setCells_same b vs o w
  exact ⟨e1, e2, e3, Nat.le_of_eq (setCells_size b vs o w).symm, fun x _ hy => setCells_heap b vs o w x (by omega)⟩
theorem Spo.blk {lo hi : Nat} {w w' : World} {g : Nat} {t : TypeId} {cs : Array Value} (h : Spo lo hi w w') (hb : Blk w g t cs) (hg : g < lo ∨ hi ≤ g) : Blk w' g t cs := (h.block g hb.lt hg).trans hb
theorem Blk.size_of {w : World} {b : Nat} {t : TypeId} {cs : Array Value} (h : Blk w b t cs) {n : Nat} {v : Value} (hc : w.cell? ⟨b, n, none⟩ = some v) : n < cs.size := by
  rw [h.cell] at hc
  rcases Nat.lt_or_ge n cs.size with h1 | h1
  · exact h1
  · rw [Array.getElem?_eq_none h1] at hc; cases hc

/-- What the law writes over a datum. -/
def nineH : Hd := ⟨-9, ⟨#[]⟩, 0, 0, ⟨#[]⟩, 0, 0, 0, 0, []⟩
theorem run_build9 (w : World) : (Instr.build 28 #[(0, .int .i64 (-9))]).run Tryd.prog w = .ok (.agg (nineH.cells none 0 none 0 0)) w := by kernel_rfl
theorem wpList_build9 (w : World) {ops : Array Oper} {rest : List Oper} {o : Oper} {s : Act} {Q : Exit → Act → World → Prop} (hg : o.guard = none) (x : Operand) (hop : o.op = Op.build 28 #[(0, x)])
    (hx : s.eval x = .int .i64 (-9))
    (hK : wpList Tryd.prog ops Q rest (s.put o.dst (.agg (nineH.cells none 0 none 0 0))) w) : wpList Tryd.prog ops Q (o :: rest) s w := by
  refine wpList_plain hg fun K hK' => ?_
  unfold Oper.wp
  have hr := run_build9 w
  simp [execOp, hop, hx, hr, Result.andThen]
  exact hK' _ _ hK

def SpoilC (h : Hd) (k : Fo) : Prop := ∀ (w : World) (lo hi : Nat) (pa : Option Addr) (pc : Nat) (ia : Option Addr) (ic : Nat), hi ≤ w.heap.size → SepD w lo hi h k pa ia →
  Calls Tryd.prog 39 #[.agg (h.cells pa pc ia k.len ic)] w fun e w' => e = .returned (.tuple #[]) ∧ Spo lo hi w w'

set_option maxRecDepth 100000 in
set_option maxHeartbeats 4000000 in
theorem spoil_one (h : Hd) (k : Fo) (ho : h.ok) (hkl : k.len ≤ 1034834473170) (ih : ∀ i a b, k.get i = some (a, b) → SpoilC a b) : SpoilC h k := by
  intro w lo hi pa pc ia ic hsz ⟨q1, q2, e1, e2, e3, e4, e5⟩
  have hpl : h.path.length ≤ 9223372036854775807 := Nat.le_trans ho.path (by decide)
  have HP := Lib.hid e4
  have HK := Lib.hid e5
  have HI := Lib.hid ih
  clear e4 e5 ih
  unfold Hd.cells
  go_enter Tryd.func39, Tryd.ntmps39
  go_upto_region 0 with fail
  go_cut [0, 1] (fun _ t1 wx => t1 = .pointer (some ⟨w.heap.size, 0, none⟩) ∧ Blk wx w.heap.size 28 (h.cells pa pc ia k.len ic) ∧ Below w.heap.size w wx)
  case first =>
    go_wp2_with fail
    go_meet
    case rel => exact ⟨rfl, Blk.new _ _ _, by ((repeat' (first | exact Below.refl _ _ | assumption | (refine bl_alloc ?_ _) | (refine Below.drew ?_) | (refine below_drewN ?_ _) | (refine Below.setCell ?_ ?_ _) | (refine bl_trans ?_ (by assumption)))) <;> first | omega | (simp; done) | (simp; omega))⟩
  case rest =>
  obtain ⟨rfl, hA, hb0⟩ := hcut
  obtain ⟨w0, rfl⟩ : ∃ w0 : World, w0 = wc := ⟨_, rfl⟩
  go_wp2_with fail
  go_loopg [2] k.len (fun g i wr => ∃ j : Nat, j ≤ k.len ∧ i = .int .i64 j ∧ g = k.len - j ∧ Blk wr w.heap.size 28 (h.cells pa pc ia k.len ic) ∧ Spo q1 q2 w wr ∧
    (j = k.len ∨ ∃ b o l, ia = some ⟨b, o, none⟩ ∧ q1 ≤ b ∧ b < l ∧ l ≤ q2 ∧ Cel wr b ∧ SepF wr l q2 b (o + j * 11) (k.drop j)))
  case atStart =>
    refine ⟨0, by omega, rfl, by omega, hA, Spo.of_below hb0, ?_⟩
    rcases HK.out with h0 | ⟨b, o, g1, g2, g3, g4, g5⟩
    · exact .inl h0.symm
    · have hkb := hb0.block b (by omega)
      exact .inr ⟨b, o, b + 1, g1, g2, by omega, by omega, g4.keep hkb, by
        rw [Nat.zero_mul, Nat.add_zero, Fo.drop_zero]
        exact g5.keep _ _ _ _ _ (fun x hx hy _ => hb0.block x (by omega)) (fun n v _ hn => (World.cell?_of_block (w := w) hkb).trans hn)⟩
  case round =>
  obtain ⟨j, hj, rfl, rfl, hAr, hsp, hrow⟩ := hrel
  obtain ⟨c0, c1, c2, c3, c4, c5, c6, c7, c8, c9, c10⟩ := (CellsAt.of_blk hAr).box
  by_cases hlt : j < k.len
  · obtain ⟨a, d, hget⟩ := Fo.get_lt k j hlt
    rcases hrow with hrow | ⟨b, o, l, rfl, g1, g2, g3, g4, g5⟩
    · omega
    rw [Fo.drop_get k j a d hget, SepF_cons] at g5
    obtain ⟨m, pa', pc', ia', ic', gm, hcs, hsd, hrest⟩ := g5
    obtain ⟨d0, d1, d2, d3, d4, d5, d6, d7, d8, d9, d10⟩ := hcs.eleven
    have hwr := hsp.size
    have hle := hsd.le
    have hih := HI.out j a d hget wr l m pa' pc' ia' ic' (by omega) hsd
    unfold Hd.cells at hih
    have HIH := Lib.hid hih
    have HREST := Lib.hid hrest
    have HCS := Lib.hid hcs
    clear hih hrest hget hsd hcs hA hb0
    have hj0 : (0 : Int) ≤ (j : Int) := by omega
    have hj1 : (j : Int) < (k.len : Int) := by omega
    go_wp2_with fail
    refine HIH.out.mono ?_
    rintro e w2 ⟨rfl, hs2⟩
    have hA2 := hs2.blk hAr (by omega)
    obtain ⟨t, cur, hB⟩ := g4
    have hB2 := hs2.blk hB (by omega)
    have hz : o + j * 11 + 11 ≤ cur.size := by have := hB.size_of (HCS.out 10 _ rfl); omega
    have hst := run_store_cells hB2 (o + j * 11) nineH none 0 none 0 0 hz
    clear c0 c1 c2 c3 c4 c5 c6 c7 c8 c9 c10 d0 d1 d2 d3 d4 d5 d6 d7 d8 d9 d10
    obtain ⟨_, _, _, _, _, _, _, _, _, _, c10⟩ := (CellsAt.of_blk hA2).box
    go_wp2_with (refine wpList_build9 _ rfl (.const (.int .i64 (-9))) rfl rfl ?_)
    have hlen : (nineH.cells none 0 none 0 0).toList.length = 11 := rfl
    go_roundg (k.len - (j + 1))
    case measure => omega
    case rel =>
      have h2z := hs2.size
      refine ⟨j + 1, by omega, by go_num, rfl, (setCells_heap b _ _ _ _ (by omega)).trans hA2, hsp.trans ((hs2.mono (by omega) gm).trans (Spo.setCells _ _ g1 (by omega))), ?_⟩
      obtain ⟨cur', hB3, _⟩ := setCells_blk (b := b) (t := t) (nineH.cells none 0 none 0 0).toList (o + j * 11) w2 cur hB2
      refine .inr ⟨b, o, m, rfl, g1, by omega, gm, ⟨t, cur', hB3⟩, ?_⟩
      rw [show o + (j + 1) * 11 = o + j * 11 + 11 by omega]
      refine HREST.out.keep _ _ _ _ _ (fun x hx hy hz => (setCells_heap b _ _ _ x (by omega)).trans (hs2.block x hz (by omega))) (fun n v hn hv => ?_)
      rw [World.cell?_setCells_out b _ (o + j * 11) w2 ⟨b, n, none⟩ (fun _ _ => by rw [hlen]; show n < o + j * 11 ∨ o + j * 11 + 11 ≤ n; omega)]
      exact (World.cell?_of_block (w := wr) (hs2.block b hB.lt (by omega))).trans hv
  · have hjk : j = k.len := by omega
    subst hjk
    clear hrow
    have hs1 := hsp.mono e1 e3
    have hsz2 := hsp.size
    have hrw : h.path = [] ∨ ∃ p o, pa = some ⟨p, o, none⟩ ∧ lo ≤ p ∧ p < hi ∧ Cel wr p ∧ ∀ n, n < h.path.length → ∃ x, wr.cell? ⟨p, o + n, none⟩ = some (.int .i64 x) := by
      rcases HP.out with h0 | ⟨p, o, g1, ⟨g2, g3, g4, g5⟩, g6⟩
      · exact .inl h0
      · have hkp := hsp.block p (by omega) g4
        exact .inr ⟨p, o, g1, g2, g3, g5.keep hkp, fun n hn => ⟨_, (World.cell?_of_block (w := w) hkp).trans (g6 n _ (List.getElem?_eq_getElem hn))⟩⟩
    have HRW := Lib.hid hrw
    clear hsp hrw
    go_wp2_with fail
    clear c0 c1 c2 c3 c4 c5 c6 c7 c8 c9 c10
    go_loopg [3] h.path.length (fun g i wp => ∃ j : Nat, j ≤ h.path.length ∧ i = .int .i64 j ∧ g = h.path.length - j ∧ Blk wp w.heap.size 28 (h.cells pa pc ia k.len ic) ∧ Spo lo hi w wp ∧
      (h.path = [] ∨ ∃ p o, pa = some ⟨p, o, none⟩ ∧ lo ≤ p ∧ p < hi ∧ Cel wp p ∧ ∀ n, n < h.path.length → ∃ x, wp.cell? ⟨p, o + n, none⟩ = some (.int .i64 x)))
    case atStart => exact ⟨0, by omega, rfl, by omega, hAr, hs1, HRW.out⟩
    case round =>
    obtain ⟨j, hj, rfl, rfl, hAp, hsp, hrow⟩ := hrel
    obtain ⟨c0, c1, c2, c3, c4, c5, c6, c7, c8, c9, c10⟩ := (CellsAt.of_blk hAp).box
    clear hAr hs1
    by_cases hlt : j < h.path.length
    · rcases hrow with hrow | ⟨p, o, rfl, g1, g2, ⟨t, cur, hB⟩, g4⟩
      · rw [hrow] at hlt; cases hlt
      obtain ⟨x, hx⟩ := g4 j hlt
      have hfz := hB.frozen (o + j)
      have hj0 : (0 : Int) ≤ (j : Int) := by omega
      have hj1 : (j : Int) < (h.path.length : Int) := by omega
      have HG := Lib.hid g4
      clear g4
      go_wp2_with fail
      go_roundg (h.path.length - (j + 1))
      case measure => omega
      case rel =>
        refine ⟨j + 1, by omega, by go_num, rfl, hAp.far (by show w.heap.size ≠ p; omega) _, hsp.trans (Spo.setCell _ _ g1 g2), .inr ⟨p, o, rfl, g1, g2, ⟨t, _, hB.set_ _ _⟩, fun n hn => ?_⟩⟩
        by_cases hnj : n = j
        · subst hnj
          exact ⟨-9, World.cell?_setCell_same _ _ _ hx⟩
        · obtain ⟨y, hy⟩ := HG.out n hn
          exact ⟨y, (World.cell?_setCell_other _ _ _ _ (by intro e; injection e with _ e; omega)).trans hy⟩
    · have hjk : j = h.path.length := by omega
      go_wp2_with fail
      go_end0
      exact ⟨rfl, hsp⟩
theorem spoil_all : ∀ (f : Fo), f.ok → ∀ i h k, f.get i = some (h, k) → SpoilC h k
  | .nil, _, i, h, k, e => by simp [Fo.get] at e
  | .cons h' k' r, o, 0, h, k, e => by
    simp only [Fo.get, Option.some.injEq, Prod.mk.injEq] at e
    obtain ⟨rfl, rfl⟩ := e
    exact spoil_one _ _ o.1 o.2.2.2 (spoil_all k' o.2.1)
  | .cons h' k' r, o, i + 1, h, k, e => spoil_all r o.2.2.1 i h k e
theorem spoil_any (h : Hd) (k : Fo) (ho : h.ok) (hk : k.ok) (hl : k.len ≤ 1034834473170) : SpoilC h k := spoil_one h k ho hl (spoil_all k hk)
end Go.Proofs.YthdmmhiifkebeaaDoor
