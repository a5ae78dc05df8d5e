/-
  A lent datum: separate memory, with two marked places behind each row and each path. The regions of the law's lent, one by one. Contract of the law's lent: the datum in separate memory, with marked places behind each row and each path. Written by an AI agent.
-/
import Derived.Test.YthdmmhiifkebeaaDoorTw
import Derived.Test.YthdmmhiifkebeaaDoorFr
namespace Go.Proofs.YthdmmhiifkebeaaDoor
open Go.RowKit Go.Sort

/-- What one lent datum leads to, in blocks lo to m; its items' row: as R says. -/
def LDb (w : World) (lo m : Nat) (h : Hd) (n : Nat) (pa : Option Addr) (pc : Nat) (ia : Option Addr) (ic : Nat) (R : Nat → Nat → Prop) : Prop :=
  ∃ q1 q2, lo ≤ q1 ∧ q1 ≤ q2 ∧ q2 ≤ m ∧ PathAt w (fun x => lo ≤ x ∧ x < m ∧ (x < q1 ∨ q2 ≤ x) ∧ Cel w x) pa h.path ∧ h.path.length ≤ pc ∧ pc ≤ 9223372036854775807 ∧ n ≤ ic ∧ ic ≤ 9223372036854775807 ∧
    (pa = none ∨ ∃ p, pa = some ⟨p, 0, none⟩ ∧ lo ≤ p ∧ p < m ∧ (p < q1 ∨ q2 ≤ p) ∧ Cel w p ∧ h.path.length + 2 ≤ pc ∧ w.cell? ⟨p, h.path.length, none⟩ = some (.int .i64 (-71)) ∧ w.cell? ⟨p, h.path.length + 1, none⟩ = some (.int .i64 (-72))) ∧
    ((ia = none ∧ n = 0) ∨ ∃ b, ia = some ⟨b, 0, none⟩ ∧ q1 ≤ b ∧ b < q2 ∧ Cel w b ∧ n + 2 ≤ ic ∧ w.cell? ⟨b, n * 11, none⟩ = some (.int .i64 (-71)) ∧ w.cell? ⟨b, (n + 1) * 11, none⟩ = some (.int .i64 (-72)) ∧ R q2 b)
def LF (w : World) : Nat → Nat → Nat → Nat → Fo → Prop
  | _, _, _, _, .nil => True
  | lo, hi, b, o, .cons h k r => ∃ m pa pc ia ic, m ≤ hi ∧ CellsAt w b o (h.cells pa pc ia k.len ic) ∧ LDb w lo m h k.len pa pc ia ic (fun q2 b' => LF w (b' + 1) q2 b' 0 k) ∧ LF w m hi b (o + 11) r
def LD (w : World) (lo hi : Nat) (h : Hd) (k : Fo) (pa : Option Addr) (pc : Nat) (ia : Option Addr) (ic : Nat) : Prop := LDb w lo hi h k.len pa pc ia ic (fun q2 b' => LF w (b' + 1) q2 b' 0 k)
theorem LF_cons {w : World} {lo hi b o : Nat} {h : Hd} {k r : Fo} : LF w lo hi b o (.cons h k r) ↔ ∃ m pa pc ia ic, m ≤ hi ∧ CellsAt w b o (h.cells pa pc ia k.len ic) ∧ LD w lo m h k pa pc ia ic ∧ LF w m hi b (o + 11) r := Iff.rfl
theorem LDb.keep {w w' : World} {lo m : Nat} {h : Hd} {n : Nat} {pa : Option Addr} {pc : Nat} {ia : Option Addr} {ic : Nat} {R R' : Nat → Nat → Prop} (d : LDb w lo m h n pa pc ia ic R) (hk : ∀ x, lo ≤ x → x < m → x < w.heap.size → w'.heap[x]? = w.heap[x]?)
    (hR : ∀ q2 b, lo ≤ b → b < q2 → q2 ≤ m → Cel w b → R q2 b → R' q2 b) : LDb w' lo m h n pa pc ia ic R' := by
  obtain ⟨q1, q2, h1, h2, h3, h4, g1, g2, g3, g4, h5, h6⟩ := d
  refine ⟨q1, q2, h1, h2, h3, h4.keep (fun x hx hlt => hk x hx.1 hx.2.1 hlt) (fun x hx hlt => ⟨hx.1, hx.2.1, hx.2.2.1, hx.2.2.2.keep (hk x hx.1 hx.2.1 hlt)⟩), g1, g2, g3, g4, ?_, ?_⟩
  · rcases h5 with h5 | ⟨p, e, p1, p2, p3, p4, p5, p6, p7⟩
    · exact .inl h5
    · have hp := hk p p1 p2 p4.lt
      exact .inr ⟨p, e, p1, p2, p3, p4.keep hp, p5, (World.cell?_of_block (w := w) hp).trans p6, (World.cell?_of_block (w := w) hp).trans p7⟩
  · rcases h6 with h6 | ⟨b, e, p1, p2, p4, p5, p6, p7, p8⟩
    · exact .inl h6
    · have hp := hk b (by omega) (by omega) p4.lt
      exact .inr ⟨b, e, p1, p2, p4.keep hp, p5, (World.cell?_of_block (w := w) hp).trans p6, (World.cell?_of_block (w := w) hp).trans p7, hR q2 b (by omega) p2 h3 p4 p8⟩
theorem LF.keep {w w' : World} : ∀ (f : Fo) (lo hi b o : Nat), LF w lo hi b o f → (∀ x, lo ≤ x → x < hi → x < w.heap.size → w'.heap[x]? = w.heap[x]?) →
    (∀ n v, o ≤ n → w.cell? ⟨b, n, none⟩ = some v → w'.cell? ⟨b, n, none⟩ = some v) → LF w' lo hi b o f
  | .nil, _, _, _, _, _, _, _ => trivial
  | .cons h k r, lo, hi, b, o, ⟨m, pa, pc, ia, ic, hm, hc, hd, h6⟩, hk, hb => by
    have hlm : lo ≤ m := by obtain ⟨q1, q2, h1, h2, h3, _⟩ := hd; omega
    refine ⟨m, pa, pc, ia, ic, hm, fun j v hv => hb _ _ (by omega) (hc j v hv), hd.keep (fun x h1 h2 h3 => hk x h1 (by omega) h3) (fun q2 b' h1 h2 h3 h4 h5 => ?_),
      LF.keep r m hi b (o + 11) h6 (fun x hx hy => hk x (by omega) hy) (fun n v hn => hb n v (by omega))⟩
    have hkb := hk b' h1 (by omega) h4.lt
    exact LF.keep k (b' + 1) q2 b' 0 h5 (fun x hx hy => hk x (by omega) (by omega)) (fun n v _ hn => (World.cell?_of_block (w := w) hkb).trans hn)
theorem LD.keep {w w' : World} {lo hi : Nat} {h : Hd} {k : Fo} {pa : Option Addr} {pc : Nat} {ia : Option Addr} {ic : Nat} (d : LD w lo hi h k pa pc ia ic) (hk : ∀ x, lo ≤ x → x < hi → x < w.heap.size → w'.heap[x]? = w.heap[x]?) : LD w' lo hi h k pa pc ia ic :=
  LDb.keep d hk fun q2 b' h1 h2 h3 h4 h5 => by
    have hkb := hk b' h1 (by omega) h4.lt
    exact LF.keep k (b' + 1) q2 b' 0 h5 (fun x hx hy => hk x (by omega) (by omega)) (fun n v _ hn => (World.cell?_of_block (w := w) hkb).trans hn)
theorem LD.mono {w : World} {lo hi lo' hi' : Nat} {h : Hd} {k : Fo} {pa : Option Addr} {pc : Nat} {ia : Option Addr} {ic : Nat} (d : LD w lo hi h k pa pc ia ic) (h1 : lo' ≤ lo) (h2 : hi ≤ hi') : LD w lo' hi' h k pa pc ia ic := by
  obtain ⟨q1, q2, g1, g2, g3, g4, a1, a2, a3, a4, g5, g6⟩ := d
  refine ⟨q1, q2, by omega, g2, by omega, g4.wider (fun b hb => ⟨by omega, by omega, hb.2.2.1, hb.2.2.2⟩), a1, a2, a3, a4, ?_, g6⟩
  rcases g5 with g5 | ⟨p, e, p1, p2, p3⟩
  · exact .inl g5
  · exact .inr ⟨p, e, by omega, by omega, p3⟩
theorem LF.of_get {w : World} : ∀ (f : Fo) (b o hi : Nat) (ms : Nat → Nat), (∀ i a d, f.get i = some (a, d) → ms (i + 1) ≤ hi ∧ ∃ pa pc ia ic, CellsAt w b (o + i * 11) (a.cells pa pc ia d.len ic) ∧ LD w (ms i) (ms (i + 1)) a d pa pc ia ic) → LF w (ms 0) hi b o f
  | .nil, _, _, _, _, _ => trivial
  | .cons h k r, b, o, hi, ms, hg => by
    obtain ⟨h0, pa, pc, ia, ic, h1, h2⟩ := hg 0 h k rfl
    rw [LF_cons]
    refine ⟨ms 1, pa, pc, ia, ic, h0, by simpa using h1, h2, LF.of_get r b (o + 11) hi (fun i => ms (i + 1)) fun i a d e => ?_⟩
    have := hg (i + 1) a d e
    rwa [show o + (i + 1) * 11 = o + 11 + i * 11 by omega] at this
/-- A lent datum lies in separate memory. -/
theorem LF.sep {w : World} : ∀ (f : Fo) (lo hi b o : Nat), LF w lo hi b o f → SepF w lo hi b o f
  | .nil, _, _, _, _, _ => trivial
  | .cons h k r, lo, hi, b, o, ⟨m, pa, pc, ia, ic, hm, hc, ⟨q1, q2, h1, h2, h3, h4, _, _, _, _, _, h6⟩, h7⟩ => by
    refine ⟨m, pa, pc, ia, ic, hm, hc, ⟨q1, q2, h1, h2, h3, h4, ?_⟩, LF.sep r m hi b (o + 11) h7⟩
    rcases h6 with h6 | ⟨b', e, p1, p2, p4, _, _, _, p8⟩
    · exact .inl h6.2
    · exact .inr ⟨b', 0, e, p1, p2, p4, LF.sep k (b' + 1) q2 b' 0 p8⟩
theorem LD.sep {w : World} {lo hi : Nat} {h : Hd} {k : Fo} {pa : Option Addr} {pc : Nat} {ia : Option Addr} {ic : Nat} (d : LD w lo hi h k pa pc ia ic) : SepD w lo hi h k pa ia := by
  obtain ⟨q1, q2, h1, h2, h3, h4, _, _, _, _, _, h6⟩ := d
  refine ⟨q1, q2, h1, h2, h3, h4, ?_⟩
  rcases h6 with h6 | ⟨b', e, p1, p2, p4, _, _, _, p8⟩
  · exact .inl h6.2
  · exact .inr ⟨b', 0, e, p1, p2, p4, LF.sep k (b' + 1) q2 b' 0 p8⟩
/-- A lent datum reads as a datum. -/
theorem LF.fo {w : World} : ∀ (f : Fo) (B lo hi b o : Nat), B ≤ lo → LF w lo hi b o f → FoAt w (fun x => B ≤ x ∧ x < hi) b o f
  | .nil, _, _, _, _, _, _, _ => trivial
  | .cons h k r, B, lo, hi, b, o, hB, ⟨m, pa, pc, ia, ic, hm, hc, ⟨q1, q2, h1, h2, h3, h4, g1, g2, g3, g4, _, h6⟩, h7⟩ => by
    refine ⟨⟨pa, pc, ia, ic, hc, h4.wider (fun x hx => ⟨by omega, by omega⟩), g1, g2, g3, g4, ?_⟩, LF.fo r B m hi b (o + 11) (by omega) h7⟩
    rcases h6 with h6 | ⟨b', e, p1, p2, p4, _, _, _, p8⟩
    · exact .inl h6.2
    · exact .inr ⟨b', 0, e, ⟨by omega, by omega⟩, FoAt.keep (fun _ _ _ => rfl) (fun x hx _ => ⟨hx.1, by omega⟩) k b' 0 ⟨by omega, p2⟩ (LF.fo k B (b' + 1) q2 b' 0 (by omega) p8)⟩
theorem LD.dat {w : World} {lo hi : Nat} {h : Hd} {k : Fo} {pa : Option Addr} {pc : Nat} {ia : Option Addr} {ic : Nat} (d : LD w lo hi h k pa pc ia ic) : DatAt w (fun x => lo ≤ x ∧ x < hi) h k pa pc ia ic := by
  obtain ⟨q1, q2, h1, h2, h3, h4, g1, g2, g3, g4, _, h6⟩ := d
  refine ⟨h4.wider (fun x hx => ⟨hx.1, hx.2.1⟩), g1, g2, ?_, g3, g4⟩
  rcases h6 with h6 | ⟨b', e, p1, p2, p4, _, _, _, p8⟩
  · exact .inl h6.2
  · exact .inr ⟨b', 0, e, ⟨by omega, by omega⟩, FoAt.keep (fun _ _ _ => rfl) (fun x hx _ => ⟨hx.1, by omega⟩) k b' 0 ⟨by omega, p2⟩ (LF.fo k lo (b' + 1) q2 b' 0 (by omega) p8)⟩

/-- The first j elements of the row at block g are lent. -/
def HalfL (w : World) (k : Fo) (g j : Nat) : Prop := ∃ ms : Nat → Nat, ms 0 = g + 1 ∧ (∀ i, i ≤ j → g < ms i ∧ ms i ≤ w.heap.size) ∧
  ∀ i a b, i < j → k.get i = some (a, b) → ∃ pa pc ia ic, CellsAt w g (i * 11) (a.cells pa pc ia b.len ic) ∧ LD w (ms i) (ms (i + 1)) a b pa pc ia ic
theorem HalfL.zero {w : World} {k : Fo} {g : Nat} (h : g < w.heap.size) : HalfL w k g 0 := ⟨fun _ => g + 1, rfl, fun _ _ => ⟨Nat.lt_succ_self _, h⟩, fun _ _ _ h => absurd h (Nat.not_lt_zero _)⟩
theorem HalfL.step {wr w6 : World} {k : Fo} {g j : Nat} {a : Hd} {b : Fo} {cu : Array Value} {t : TypeId} {qa : Option Addr} {qc : Nat} {ja : Option Addr} {jc : Nat} (gH : HalfL wr k g j) (hlt : g < wr.heap.size)
    (hb6 : Below wr.heap.size wr w6) (hget : k.get j = some (a, b)) (hB : Blk w6 g t cu) (hsz : j * 11 + 11 ≤ cu.size) (hs : LD w6 wr.heap.size w6.heap.size a b qa qc ja jc) :
    HalfL (w6.setCells g (j * 11) (a.cells qa qc ja b.len jc).toList) k g (j + 1) := by
  obtain ⟨ms, m0, m1, m2⟩ := gH
  have hz := hb6.size
  have hlen : (a.cells qa qc ja b.len jc).toList.length = 11 := by simp [Hd.cells]
  refine ⟨fun i => if i ≤ j then ms i else w6.heap.size, by simpa using m0, fun i hi => ?_, fun i c d hi e => ?_⟩
  · rw [setCells_size]
    show g < (if i ≤ j then ms i else w6.heap.size) ∧ (if i ≤ j then ms i else w6.heap.size) ≤ w6.heap.size
    by_cases hij : i ≤ j
    · rw [if_pos hij]; have := m1 i hij; omega
    · rw [if_neg hij]; omega
  · show ∃ pa pc ia ic, _ ∧ LD _ (if i ≤ j then ms i else w6.heap.size) (if i + 1 ≤ j then ms (i + 1) else w6.heap.size) c d pa pc ia ic
    by_cases hij : i = j
    · subst hij
      rw [hget] at e
      injection e with e
      injection e with e1 e2
      subst e1 e2
      have hj := m1 i (Nat.le_refl _)
      refine ⟨qa, qc, ja, jc, fun n v hv => World.rangeAt_setCells_same w6 g (i * 11) _ (there_blk hB (by rw [hlen]; exact hsz)) n v (by simpa using hv), ?_⟩
      rw [if_pos (Nat.le_refl _), if_neg (by omega)]
      exact (hs.mono hj.2 (Nat.le_refl _)).keep (fun x h1 _ _ => setCells_heap g _ _ _ x (by omega))
    · obtain ⟨pa, pc, ia, ic, h1, h2⟩ := m2 i c d (by omega) e
      have hi1 := m1 i (by omega)
      refine ⟨pa, pc, ia, ic, fun n v hv => ?_, ?_⟩
      · have hn : n < 11 := by
          have : n < (c.cells pa pc ia d.len ic).size := by
            rcases Nat.lt_or_ge n (c.cells pa pc ia d.len ic).size with h | h
            · exact h
            · rw [Array.getElem?_eq_none h] at hv; cases hv
          simpa [Hd.cells] using this
        rw [World.cell?_setCells_out g _ (j * 11) w6 ⟨g, i * 11 + n, none⟩ (fun _ _ => by rw [hlen]; show i * 11 + n < j * 11 ∨ j * 11 + 11 ≤ i * 11 + n; omega)]
        exact (hb6.cell (p := ⟨g, i * 11 + n, none⟩) hlt).trans (h1 n v hv)
      · rw [if_pos (by omega), if_pos (by omega)]
        exact h2.keep (fun x h1 _ h3 => (setCells_heap g _ _ _ x (by omega)).trans (hb6.block x h3))
/-- A whole row of lent data, kept in another world. -/
theorem HalfL.row {w w' : World} {k : Fo} {g : Nat} (gH : HalfL w k g k.len) (hk : ∀ x, g < x → x < w.heap.size → w'.heap[x]? = w.heap[x]?) (hc : ∀ n v, n < k.len * 11 → w.cell? ⟨g, n, none⟩ = some v → w'.cell? ⟨g, n, none⟩ = some v) : LF w' (g + 1) w.heap.size g 0 k := by
  obtain ⟨ms, m0, m1, m2⟩ := gH
  rw [← m0]
  refine LF.of_get k g 0 _ ms fun i c d e => ?_
  have hi := Fo.get_len _ _ _ e
  obtain ⟨pa, pc, ia, ic, h1, h2⟩ := m2 i c d hi e
  have hi1 := m1 i (by omega)
  refine ⟨(m1 (i + 1) (by omega)).2, pa, pc, ia, ic, fun n v hv => ?_, h2.keep (fun x h3 _ h4 => hk x (by omega) h4)⟩
  have hn : n < 11 := by
    have : n < (c.cells pa pc ia d.len ic).size := by
      rcases Nat.lt_or_ge n (c.cells pa pc ia d.len ic).size with h | h
      · exact h
      · rw [Array.getElem?_eq_none h] at hv; cases hv
    simpa [Hd.cells] using this
  rw [Nat.zero_add]
  exact hc _ _ (by omega) (h1 n v hv)
end Go.Proofs.YthdmmhiifkebeaaDoor

namespace Go.Proofs.YthdmmhiifkebeaaDoor
open Go.RowKit Go.Sort
set_option maxRecDepth 100000
theorem letters_lt (a : Act) (h1 : a.tmps.size = 86) (h2 : a.defers = []) : ∃ f : Nat → Value, a = ⟨(List.toArray (f 0 :: f 1 :: f 2 :: f 3 :: f 4 :: f 5 :: f 6 :: f 7 :: f 8 :: f 9 :: f 10 :: f 11 :: f 12 :: f 13 :: f 14 :: f 15 :: f 16 :: f 17 :: f 18 :: f 19 :: f 20 :: f 21 :: f 22 :: f 23 :: f 24 :: f 25 :: f 26 :: f 27 :: f 28 :: f 29 :: f 30 :: f 31 :: f 32 :: f 33 :: f 34 :: f 35 :: f 36 :: f 37 :: f 38 :: f 39 :: f 40 :: f 41 :: f 42 :: f 43 :: f 44 :: f 45 :: f 46 :: f 47 :: f 48 :: f 49 :: f 50 :: f 51 :: f 52 :: f 53 :: f 54 :: f 55 :: f 56 :: f 57 :: f 58 :: f 59 :: f 60 :: f 61 :: f 62 :: f 63 :: f 64 :: f 65 :: f 66 :: f 67 :: f 68 :: f 69 :: f 70 :: f 71 :: f 72 :: f 73 :: f 74 :: f 75 :: f 76 :: f 77 :: f 78 :: f 79 :: f 80 :: f 81 :: f 82 :: f 83 :: f 84 :: f 85 :: [])), []⟩ ∧ ∀ k, slot a k = f k :=
  ⟨slot a, (spread a 86 h1 h2).trans (by kernel_rfl), fun _ => rfl⟩
noncomputable def r_lt (n : Nat) : Code := ((Tryd.f37.body.bind (findR n)).getD .skip)
/-- What a call of lent hands back, whatever more is known of it. -/
def LentR (PO : World → Option Addr → Nat → Option Addr → Nat → Prop) (x : Hd) (m : Nat) (w : World) (e : Ending) (w' : World) : Prop := ∃ qa' qc' ja' jc', e = .returned (.agg (x.cells qa' qc' ja' m jc')) ∧ PO w' qa' qc' ja' jc' ∧ Below w.heap.size w w'
def zdCells : Array Value := #[.int .i64 0, .string ⟨#[]⟩, .int .i64 0, .int .u64 0, .string ⟨#[]⟩, .int .i64 0, .int .i64 0, .int .i64 0, .int .i64 0, .slice none 0 0, .slice none 0 0]
theorem make_dat (n : Nat) (hn : n ≤ 1034834473170) (W : World) : (Instr.makeSlice 26 (.int .i64 ((n : Int) + 2)) (.int .i64 ((n : Int) + 2))).run Tryd.prog W =
    .ok (.slice (some ⟨W.heap.size, 0, none⟩) (n + 2) (n + 2)) (W.alloc (.cells (madeCells zdCells ((n + 2) * 11)) 28)) := by
  obtain ⟨i, hi, hz0, hz1, hz2⟩ := info_parts info_dat
  have h := run_make (P := Tryd.prog) W 26 28 i _ Tryd.underlying26 hi hz0 .i64 .i64 ((n : Int) + 2) ((n : Int) + 2) (by omega) (by omega) (by rw [hz2]; omega) (by omega)
  rw [show (((n : Int) + 2).toNat) = n + 2 by omega, hz1] at h
  exact h
theorem info_int' : (Tryd.prog.info? 3).map (fun i => (i.zero, i.size, i.bytes)) = some (some (.int .i64 0), 1, 8) := by kernel_rfl
theorem make_int (n : Nat) (hn : n ≤ 17592186043904) (W : World) : (Instr.makeSlice 23 (.int .i64 ((n : Int) + 2)) (.int .i64 ((n : Int) + 2))).run Tryd.prog W =
    .ok (.slice (some ⟨W.heap.size, 0, none⟩) (n + 2) (n + 2)) (W.alloc (.cells (madeCells #[.int .i64 0] (n + 2)) 3)) := by
  obtain ⟨i, hi, hz0, hz1, hz2⟩ := info_parts info_int'
  have h := run_make (P := Tryd.prog) W 23 3 i _ Tryd.underlying23 hi hz0 .i64 .i64 ((n : Int) + 2) ((n : Int) + 2) (by omega) (by omega) (by rw [hz2]; omega) (by omega)
  rw [show (((n : Int) + 2).toNat) = n + 2 by omega, hz1, Nat.mul_one] at h
  exact h
set_option maxHeartbeats 4000000 in
theorem lt_r0 (a : Act) (w : World) (N : Act → World → Prop) (Q : Exit → Act → World → Prop) (l : List (Nat × Value)) (hs : Sl 86 a l) (hl : (l.map Prod.fst).all (fun k => [].contains k) = true)
    (h : Hd) (pa : Option Addr) (pc : Nat) (ia : Option Addr) (n ic : Nat) (h0 : slot a 0 = .agg (h.cells pa pc ia n ic))
    (hN : ∀ a' w', Sl 86 a' ((2, .pointer (some ⟨w.heap.size + 1, 0, none⟩)) :: ((1, .pointer (some ⟨w.heap.size, 0, none⟩)) :: l)) → Blk w' w.heap.size 28 (h.cells pa pc ia n ic) → (∃ cs, cs.size = 11 ∧ Blk w' (w.heap.size + 1) 28 cs) → Below w.heap.size w w' → w'.heap.size = w.heap.size + 2 → N a' w') : (r_lt 0).wp Tryd.prog (Exit.then N Q) a w := by
  have HN := Lib.hid hN
  have HL := Lib.hid hl
  have e0 := h0
  obtain ⟨f, ea, hf⟩ : ∃ f : Nat → Value, a = ⟨(List.toArray (f 0 :: f 1 :: f 2 :: f 3 :: f 4 :: f 5 :: f 6 :: f 7 :: f 8 :: f 9 :: f 10 :: f 11 :: f 12 :: f 13 :: f 14 :: f 15 :: f 16 :: f 17 :: f 18 :: f 19 :: f 20 :: f 21 :: f 22 :: f 23 :: f 24 :: f 25 :: f 26 :: f 27 :: f 28 :: f 29 :: f 30 :: f 31 :: f 32 :: f 33 :: f 34 :: f 35 :: f 36 :: f 37 :: f 38 :: f 39 :: f 40 :: f 41 :: f 42 :: f 43 :: f 44 :: f 45 :: f 46 :: f 47 :: f 48 :: f 49 :: f 50 :: f 51 :: f 52 :: f 53 :: f 54 :: f 55 :: f 56 :: f 57 :: f 58 :: f 59 :: f 60 :: f 61 :: f 62 :: f 63 :: f 64 :: f 65 :: f 66 :: f 67 :: f 68 :: f 69 :: f 70 :: f 71 :: f 72 :: f 73 :: f 74 :: f 75 :: f 76 :: f 77 :: f 78 :: f 79 :: f 80 :: f 81 :: f 82 :: f 83 :: f 84 :: f 85 :: [])), []⟩ ∧ ∀ k, slot a k = f k := letters_lt a hs.size hs.defers
  rw [hf] at e0
  rw [ea, e0]
  have HS := Lib.hid hs
  have HF := Lib.hid hf
  have E0 := Lib.hid e0
  clear hs ea hf hN hl h0 e0
  unfold Hd.cells
  conv => arg 2; whnf
  go_wp2_with fail
  refine HN.out _ _ ?_ ((Blk.new _ _ _).alloc _) (⟨_, by rfl, Blk.new1 _ _ _ _⟩) (by ((repeat' (first | exact Below.refl _ _ | assumption | (refine bl_alloc ?_ _) | (refine Below.drew ?_) | (refine below_drewN ?_ _) | (refine Below.setCell ?_ ?_ _) | (refine bl_trans ?_ (by assumption)))) <;> first | omega | (simp; done) | (simp; omega))) (by simp)
  exact Sl.add (Sl.add (Sl.stay [] HS.out HF.out (by kernel_rfl) rfl trivial HL.out) (by kernel_rfl)) (by kernel_rfl)
set_option maxHeartbeats 4000000 in
theorem lt_r1 (a : Act) (w : World) (N : Act → World → Prop) (Q : Exit → Act → World → Prop) (l : List (Nat × Value)) (hs : Sl 86 a l) (hl : (l.map Prod.fst).all (fun k => [1, 2].contains k) = true)
    (h : Hd) (pa : Option Addr) (pc : Nat) (ia : Option Addr) (n ic A : Nat) (hA : Blk w A 28 (h.cells pa pc ia n ic)) (h1 : l.lookup 1 = some (.pointer (some ⟨A, 0, none⟩)))
    (hN : ∀ a', Sl 86 a' ((8, .bool ia.isSome) :: l) → N a' (w)) : (r_lt 1).wp Tryd.prog (Exit.then N Q) a w := by
  have HN := Lib.hid hN
  have HL := Lib.hid hl
  have e1 := hs.look 1 h1
  obtain ⟨f, ea, hf⟩ : ∃ f : Nat → Value, a = ⟨(List.toArray (f 0 :: f 1 :: f 2 :: f 3 :: f 4 :: f 5 :: f 6 :: f 7 :: f 8 :: f 9 :: f 10 :: f 11 :: f 12 :: f 13 :: f 14 :: f 15 :: f 16 :: f 17 :: f 18 :: f 19 :: f 20 :: f 21 :: f 22 :: f 23 :: f 24 :: f 25 :: f 26 :: f 27 :: f 28 :: f 29 :: f 30 :: f 31 :: f 32 :: f 33 :: f 34 :: f 35 :: f 36 :: f 37 :: f 38 :: f 39 :: f 40 :: f 41 :: f 42 :: f 43 :: f 44 :: f 45 :: f 46 :: f 47 :: f 48 :: f 49 :: f 50 :: f 51 :: f 52 :: f 53 :: f 54 :: f 55 :: f 56 :: f 57 :: f 58 :: f 59 :: f 60 :: f 61 :: f 62 :: f 63 :: f 64 :: f 65 :: f 66 :: f 67 :: f 68 :: f 69 :: f 70 :: f 71 :: f 72 :: f 73 :: f 74 :: f 75 :: f 76 :: f 77 :: f 78 :: f 79 :: f 80 :: f 81 :: f 82 :: f 83 :: f 84 :: f 85 :: [])), []⟩ ∧ ∀ k, slot a k = f k := letters_lt a hs.size hs.defers
  rw [hf] at e1
  rw [ea, e1]
  have HS := Lib.hid hs
  have HF := Lib.hid hf
  have E1 := Lib.hid e1
  clear hs ea hf hN hl h1 e1
  have hnn := fun W => run_neq_slice_nil (P := Tryd.prog) W 26 28 ia n ic Tryd.underlying26
  obtain ⟨c0, c1, c2, c3, c4, c5, c6, c7, c8, c9, c10⟩ := (CellsAt.of_blk hA).box
  clear hA
  conv => arg 2; whnf
  go_wp2_with fail
  refine HN.out _ ?_
  exact Sl.add (Sl.stay [1, 2] HS.out HF.out (by kernel_rfl) rfl ⟨Eq.trans (by kernel_rfl) E1.out.symm, by kernel_rfl, trivial⟩ HL.out) (by kernel_rfl)
set_option maxHeartbeats 4000000 in
theorem lt_r2 (a : Act) (w : World) (N : Act → World → Prop) (Q : Exit → Act → World → Prop) (l : List (Nat × Value)) (hs : Sl 86 a l) (hl : (l.map Prod.fst).all (fun k => [1, 2].contains k) = true)
    (h : Hd) (pa : Option Addr) (pc : Nat) (ia : Option Addr) (n ic A : Nat) (hA : Blk w A 28 (h.cells pa pc ia n ic)) (hn : n ≤ 1034834473170) (h1 : l.lookup 1 = some (.pointer (some ⟨A, 0, none⟩)))
    (hN : ∀ a', Sl 86 a' ((3, .slice (some ⟨w.heap.size, 0, none⟩) (n + 2) (n + 2)) :: l) → N a' (w.alloc (.cells (madeCells zdCells ((n + 2) * 11)) 28))) : (r_lt 2).wp Tryd.prog (Exit.then N Q) a w := by
  have HN := Lib.hid hN
  have HL := Lib.hid hl
  have e1 := hs.look 1 h1
  obtain ⟨f, ea, hf⟩ : ∃ f : Nat → Value, a = ⟨(List.toArray (f 0 :: f 1 :: f 2 :: f 3 :: f 4 :: f 5 :: f 6 :: f 7 :: f 8 :: f 9 :: f 10 :: f 11 :: f 12 :: f 13 :: f 14 :: f 15 :: f 16 :: f 17 :: f 18 :: f 19 :: f 20 :: f 21 :: f 22 :: f 23 :: f 24 :: f 25 :: f 26 :: f 27 :: f 28 :: f 29 :: f 30 :: f 31 :: f 32 :: f 33 :: f 34 :: f 35 :: f 36 :: f 37 :: f 38 :: f 39 :: f 40 :: f 41 :: f 42 :: f 43 :: f 44 :: f 45 :: f 46 :: f 47 :: f 48 :: f 49 :: f 50 :: f 51 :: f 52 :: f 53 :: f 54 :: f 55 :: f 56 :: f 57 :: f 58 :: f 59 :: f 60 :: f 61 :: f 62 :: f 63 :: f 64 :: f 65 :: f 66 :: f 67 :: f 68 :: f 69 :: f 70 :: f 71 :: f 72 :: f 73 :: f 74 :: f 75 :: f 76 :: f 77 :: f 78 :: f 79 :: f 80 :: f 81 :: f 82 :: f 83 :: f 84 :: f 85 :: [])), []⟩ ∧ ∀ k, slot a k = f k := letters_lt a hs.size hs.defers
  rw [hf] at e1
  rw [ea, e1]
  have HS := Lib.hid hs
  have HF := Lib.hid hf
  have E1 := Lib.hid e1
  clear hs ea hf hN hl h1 e1
  have hmk := make_dat n hn
  obtain ⟨c0, c1, c2, c3, c4, c5, c6, c7, c8, c9, c10⟩ := (CellsAt.of_blk hA).box
  clear hA
  conv => arg 2; whnf
  go_wp2_with fail
  refine HN.out _ ?_
  exact Sl.add (Sl.stay [1, 2] HS.out HF.out (by kernel_rfl) rfl ⟨Eq.trans (by kernel_rfl) E1.out.symm, by kernel_rfl, trivial⟩ HL.out) (by kernel_rfl)
set_option maxHeartbeats 4000000 in
theorem lt_r3 (a : Act) (w : World) (N : Act → World → Prop) (Q : Exit → Act → World → Prop) (l : List (Nat × Value)) (hs : Sl 86 a l) (hl : (l.map Prod.fst).all (fun k => [1, 2, 3].contains k) = true)
     
    (hN : ∀ a', Sl 86 a' ((4, .int .i64 0) :: l) → N a' (w)) : (r_lt 3).wp Tryd.prog (Exit.then N Q) a w := by
  have HN := Lib.hid hN
  have HL := Lib.hid hl
  obtain ⟨f, ea, hf⟩ : ∃ f : Nat → Value, a = ⟨(List.toArray (f 0 :: f 1 :: f 2 :: f 3 :: f 4 :: f 5 :: f 6 :: f 7 :: f 8 :: f 9 :: f 10 :: f 11 :: f 12 :: f 13 :: f 14 :: f 15 :: f 16 :: f 17 :: f 18 :: f 19 :: f 20 :: f 21 :: f 22 :: f 23 :: f 24 :: f 25 :: f 26 :: f 27 :: f 28 :: f 29 :: f 30 :: f 31 :: f 32 :: f 33 :: f 34 :: f 35 :: f 36 :: f 37 :: f 38 :: f 39 :: f 40 :: f 41 :: f 42 :: f 43 :: f 44 :: f 45 :: f 46 :: f 47 :: f 48 :: f 49 :: f 50 :: f 51 :: f 52 :: f 53 :: f 54 :: f 55 :: f 56 :: f 57 :: f 58 :: f 59 :: f 60 :: f 61 :: f 62 :: f 63 :: f 64 :: f 65 :: f 66 :: f 67 :: f 68 :: f 69 :: f 70 :: f 71 :: f 72 :: f 73 :: f 74 :: f 75 :: f 76 :: f 77 :: f 78 :: f 79 :: f 80 :: f 81 :: f 82 :: f 83 :: f 84 :: f 85 :: [])), []⟩ ∧ ∀ k, slot a k = f k := letters_lt a hs.size hs.defers
  rw [ea]
  have HS := Lib.hid hs
  have HF := Lib.hid hf
  clear hs ea hf hN hl 
  conv => arg 2; whnf
  go_wp2_with fail
  refine HN.out _ ?_
  exact Sl.add (Sl.stay [1, 2, 3] HS.out HF.out (by kernel_rfl) rfl ⟨by kernel_rfl, by kernel_rfl, by kernel_rfl, trivial⟩ HL.out) (by kernel_rfl)
set_option maxHeartbeats 4000000 in
theorem lt_r4T (a : Act) (w : World) (N : Act → World → Prop) (Q : Exit → Act → World → Prop) (l : List (Nat × Value)) (hs : Sl 86 a l) (hl : (l.map Prod.fst).all (fun k => [1, 2, 3, 4].contains k) = true)
    (h : Hd) (pa : Option Addr) (pc : Nat) (ia : Option Addr) (n ic A : Nat) (hA : Blk w A 28 (h.cells pa pc ia n ic)) (_hn : n ≤ 1034834473170) (j : Nat) (hj : j < n) (h1 : l.lookup 1 = some (.pointer (some ⟨A, 0, none⟩))) (h4 : l.lookup 4 = some (.int .i64 (j : Nat)))
    (hN : ∀ a', Sl 86 a' ((18, .bool true) :: l) → N a' (w)) : (r_lt 4).wp Tryd.prog (Exit.then N Q) a w := by
  have HN := Lib.hid hN
  have HL := Lib.hid hl
  have e1 := hs.look 1 h1
  have e4 := hs.look 4 h4
  obtain ⟨f, ea, hf⟩ : ∃ f : Nat → Value, a = ⟨(List.toArray (f 0 :: f 1 :: f 2 :: f 3 :: f 4 :: f 5 :: f 6 :: f 7 :: f 8 :: f 9 :: f 10 :: f 11 :: f 12 :: f 13 :: f 14 :: f 15 :: f 16 :: f 17 :: f 18 :: f 19 :: f 20 :: f 21 :: f 22 :: f 23 :: f 24 :: f 25 :: f 26 :: f 27 :: f 28 :: f 29 :: f 30 :: f 31 :: f 32 :: f 33 :: f 34 :: f 35 :: f 36 :: f 37 :: f 38 :: f 39 :: f 40 :: f 41 :: f 42 :: f 43 :: f 44 :: f 45 :: f 46 :: f 47 :: f 48 :: f 49 :: f 50 :: f 51 :: f 52 :: f 53 :: f 54 :: f 55 :: f 56 :: f 57 :: f 58 :: f 59 :: f 60 :: f 61 :: f 62 :: f 63 :: f 64 :: f 65 :: f 66 :: f 67 :: f 68 :: f 69 :: f 70 :: f 71 :: f 72 :: f 73 :: f 74 :: f 75 :: f 76 :: f 77 :: f 78 :: f 79 :: f 80 :: f 81 :: f 82 :: f 83 :: f 84 :: f 85 :: [])), []⟩ ∧ ∀ k, slot a k = f k := letters_lt a hs.size hs.defers
  rw [hf] at e1 e4
  rw [ea, e1, e4]
  have HS := Lib.hid hs
  have HF := Lib.hid hf
  have E1 := Lib.hid e1
  have E4 := Lib.hid e4
  clear hs ea hf hN hl h1 e1 h4 e4
  have hj1 : (j : Int) < (n : Int) := by omega
  obtain ⟨c0, c1, c2, c3, c4, c5, c6, c7, c8, c9, c10⟩ := (CellsAt.of_blk hA).box
  clear hA
  conv => arg 2; whnf
  go_wp2_with fail
  refine HN.out _ ?_
  exact Sl.add (Sl.stay [1, 2, 3, 4] HS.out HF.out (by kernel_rfl) rfl ⟨Eq.trans (by kernel_rfl) E1.out.symm, by kernel_rfl, by kernel_rfl, Eq.trans (by kernel_rfl) E4.out.symm, trivial⟩ HL.out) (by kernel_rfl)
set_option maxHeartbeats 4000000 in
theorem lt_r4F (a : Act) (w : World) (N : Act → World → Prop) (Q : Exit → Act → World → Prop) (l : List (Nat × Value)) (hs : Sl 86 a l) (hl : (l.map Prod.fst).all (fun k => [1, 2, 3, 4].contains k) = true)
    (h : Hd) (pa : Option Addr) (pc : Nat) (ia : Option Addr) (n ic A : Nat) (hA : Blk w A 28 (h.cells pa pc ia n ic)) (_hn : n ≤ 1034834473170) (h1 : l.lookup 1 = some (.pointer (some ⟨A, 0, none⟩))) (h4 : l.lookup 4 = some (.int .i64 (n : Nat)))
    (hN : ∀ a', Sl 86 a' ((18, .bool false) :: l) → N a' (w)) : (r_lt 4).wp Tryd.prog (Exit.then N Q) a w := by
  have HN := Lib.hid hN
  have HL := Lib.hid hl
  have e1 := hs.look 1 h1
  have e4 := hs.look 4 h4
  obtain ⟨f, ea, hf⟩ : ∃ f : Nat → Value, a = ⟨(List.toArray (f 0 :: f 1 :: f 2 :: f 3 :: f 4 :: f 5 :: f 6 :: f 7 :: f 8 :: f 9 :: f 10 :: f 11 :: f 12 :: f 13 :: f 14 :: f 15 :: f 16 :: f 17 :: f 18 :: f 19 :: f 20 :: f 21 :: f 22 :: f 23 :: f 24 :: f 25 :: f 26 :: f 27 :: f 28 :: f 29 :: f 30 :: f 31 :: f 32 :: f 33 :: f 34 :: f 35 :: f 36 :: f 37 :: f 38 :: f 39 :: f 40 :: f 41 :: f 42 :: f 43 :: f 44 :: f 45 :: f 46 :: f 47 :: f 48 :: f 49 :: f 50 :: f 51 :: f 52 :: f 53 :: f 54 :: f 55 :: f 56 :: f 57 :: f 58 :: f 59 :: f 60 :: f 61 :: f 62 :: f 63 :: f 64 :: f 65 :: f 66 :: f 67 :: f 68 :: f 69 :: f 70 :: f 71 :: f 72 :: f 73 :: f 74 :: f 75 :: f 76 :: f 77 :: f 78 :: f 79 :: f 80 :: f 81 :: f 82 :: f 83 :: f 84 :: f 85 :: [])), []⟩ ∧ ∀ k, slot a k = f k := letters_lt a hs.size hs.defers
  rw [hf] at e1 e4
  rw [ea, e1, e4]
  have HS := Lib.hid hs
  have HF := Lib.hid hf
  have E1 := Lib.hid e1
  have E4 := Lib.hid e4
  clear hs ea hf hN hl h1 e1 h4 e4
  obtain ⟨c0, c1, c2, c3, c4, c5, c6, c7, c8, c9, c10⟩ := (CellsAt.of_blk hA).box
  clear hA
  conv => arg 2; whnf
  go_wp2_with fail
  refine HN.out _ ?_
  exact Sl.add (Sl.stay [1, 2, 3, 4] HS.out HF.out (by kernel_rfl) rfl ⟨Eq.trans (by kernel_rfl) E1.out.symm, by kernel_rfl, by kernel_rfl, Eq.trans (by kernel_rfl) E4.out.symm, trivial⟩ HL.out) (by kernel_rfl)
set_option maxHeartbeats 4000000 in
theorem lt_r5 (a : Act) (w : World) (N : Act → World → Prop) (Q : Exit → Act → World → Prop) (l : List (Nat × Value)) (hs : Sl 86 a l) (hl : (l.map Prod.fst).all (fun k => [1, 2, 3].contains k) = true)
    (j : Nat) (hj : j < 1034834473170) (h4 : slot a 4 = .int .i64 (j : Nat))
    (hN : ∀ a', Sl 86 a' ((4, .int .i64 (j + 1 : Nat)) :: l) → N a' (w)) : (r_lt 5).wp Tryd.prog (Exit.then N Q) a w := by
  have HN := Lib.hid hN
  have HL := Lib.hid hl
  have e4 := h4
  obtain ⟨f, ea, hf⟩ : ∃ f : Nat → Value, a = ⟨(List.toArray (f 0 :: f 1 :: f 2 :: f 3 :: f 4 :: f 5 :: f 6 :: f 7 :: f 8 :: f 9 :: f 10 :: f 11 :: f 12 :: f 13 :: f 14 :: f 15 :: f 16 :: f 17 :: f 18 :: f 19 :: f 20 :: f 21 :: f 22 :: f 23 :: f 24 :: f 25 :: f 26 :: f 27 :: f 28 :: f 29 :: f 30 :: f 31 :: f 32 :: f 33 :: f 34 :: f 35 :: f 36 :: f 37 :: f 38 :: f 39 :: f 40 :: f 41 :: f 42 :: f 43 :: f 44 :: f 45 :: f 46 :: f 47 :: f 48 :: f 49 :: f 50 :: f 51 :: f 52 :: f 53 :: f 54 :: f 55 :: f 56 :: f 57 :: f 58 :: f 59 :: f 60 :: f 61 :: f 62 :: f 63 :: f 64 :: f 65 :: f 66 :: f 67 :: f 68 :: f 69 :: f 70 :: f 71 :: f 72 :: f 73 :: f 74 :: f 75 :: f 76 :: f 77 :: f 78 :: f 79 :: f 80 :: f 81 :: f 82 :: f 83 :: f 84 :: f 85 :: [])), []⟩ ∧ ∀ k, slot a k = f k := letters_lt a hs.size hs.defers
  rw [hf] at e4
  rw [ea, e4]
  have HS := Lib.hid hs
  have HF := Lib.hid hf
  have E4 := Lib.hid e4
  clear hs ea hf hN hl h4 e4
  conv => arg 2; whnf
  go_wp2_with fail
  refine HN.out _ ?_
  exact Sl.add (Sl.stay [1, 2, 3] HS.out HF.out (by kernel_rfl) rfl ⟨by kernel_rfl, by kernel_rfl, by kernel_rfl, trivial⟩ HL.out) (Eq.trans (b := .int .i64 ((j : Int) + 1)) (by kernel_rfl) (by go_num))
set_option maxHeartbeats 4000000 in
theorem lt_r6 (a : Act) (w : World) (N : Act → World → Prop) (Q : Exit → Act → World → Prop) (l : List (Nat × Value)) (hs : Sl 86 a l) (hl : (l.map Prod.fst).all (fun k => [1, 2, 3, 4].contains k) = true)
    (h : Hd) (pa : Option Addr) (pc : Nat) (b o n ic A : Nat) (hA : Blk w A 28 (h.cells pa pc (some ⟨b, o, none⟩) n ic)) (_hn : n ≤ 1034834473170) (j : Nat) (hj : j < n) (g : Nat) (cu : Array Value) (hB : Blk w g 28 cu) (hsz : j * 11 + 11 ≤ cu.size) (x : Hd) (qa : Option Addr) (qc : Nat) (ja : Option Addr) (m jc : Nat) (hc : CellsAt w b (o + j * 11) (x.cells qa qc ja m jc)) (PO : World → Option Addr → Nat → Option Addr → Nat → Prop) (HC : Calls Tryd.prog 37 #[.agg (x.cells qa qc ja m jc)] w (LentR PO x m w)) (h1 : l.lookup 1 = some (.pointer (some ⟨A, 0, none⟩))) (h3 : l.lookup 3 = some (.slice (some ⟨g, 0, none⟩) (n + 2) (n + 2))) (h4 : l.lookup 4 = some (.int .i64 (j : Nat)))
    (hN : ∀ a' w' qa' qc' ja' jc', Sl 86 a' l → PO w' qa' qc' ja' jc' → Below w.heap.size w w' → N a' (w'.setCells g (j * 11) (x.cells qa' qc' ja' m jc').toList)) : (r_lt 6).wp Tryd.prog (Exit.then N Q) a w := by
  have HN := Lib.hid hN
  have HL := Lib.hid hl
  have e1 := hs.look 1 h1
  have e3 := hs.look 3 h3
  have e4 := hs.look 4 h4
  obtain ⟨f, ea, hf⟩ : ∃ f : Nat → Value, a = ⟨(List.toArray (f 0 :: f 1 :: f 2 :: f 3 :: f 4 :: f 5 :: f 6 :: f 7 :: f 8 :: f 9 :: f 10 :: f 11 :: f 12 :: f 13 :: f 14 :: f 15 :: f 16 :: f 17 :: f 18 :: f 19 :: f 20 :: f 21 :: f 22 :: f 23 :: f 24 :: f 25 :: f 26 :: f 27 :: f 28 :: f 29 :: f 30 :: f 31 :: f 32 :: f 33 :: f 34 :: f 35 :: f 36 :: f 37 :: f 38 :: f 39 :: f 40 :: f 41 :: f 42 :: f 43 :: f 44 :: f 45 :: f 46 :: f 47 :: f 48 :: f 49 :: f 50 :: f 51 :: f 52 :: f 53 :: f 54 :: f 55 :: f 56 :: f 57 :: f 58 :: f 59 :: f 60 :: f 61 :: f 62 :: f 63 :: f 64 :: f 65 :: f 66 :: f 67 :: f 68 :: f 69 :: f 70 :: f 71 :: f 72 :: f 73 :: f 74 :: f 75 :: f 76 :: f 77 :: f 78 :: f 79 :: f 80 :: f 81 :: f 82 :: f 83 :: f 84 :: f 85 :: [])), []⟩ ∧ ∀ k, slot a k = f k := letters_lt a hs.size hs.defers
  rw [hf] at e1 e3 e4
  rw [ea, e1, e3, e4]
  have HS := Lib.hid hs
  have HF := Lib.hid hf
  have E1 := Lib.hid e1
  have E3 := Lib.hid e3
  have E4 := Lib.hid e4
  clear hs ea hf hN hl h1 e1 h3 e3 h4 e4
  have hj0 : (0 : Int) ≤ (j : Int) := by omega
  have hj1 : (j : Int) < (n : Int) := by omega
  have hj2 : (j : Int) < (n : Int) + 2 := by omega
  have hltG := hB.lt
  obtain ⟨d0, d1, d2, d3, d4, d5, d6, d7, d8, d9, d10⟩ := hc.eleven
  clear hc
  obtain ⟨c0, c1, c2, c3, c4, c5, c6, c7, c8, c9, c10⟩ := (CellsAt.of_blk hA).box
  clear hA
  have HC := Lib.hid HC
  have HB := Lib.hid hB
  have HZ := Lib.hid hsz
  clear hB hsz
  unfold Hd.cells at HC
  conv => arg 2; whnf
  go_wp2_with fail
  refine HC.out.mono ?_
  rintro e w6 ⟨qa', qc', ja', jc', rfl, hpo, hb6⟩
  have hst := run_store_cells (HB.out.below hb6 hltG) (j * 11) x qa' qc' ja' m jc' HZ.out
  go_wp2_with fail
  refine HN.out _ _ _ _ _ _ ?_ hpo hb6
  exact Sl.stay [1, 2, 3, 4] HS.out HF.out (by kernel_rfl) rfl ⟨Eq.trans (by kernel_rfl) E1.out.symm, by kernel_rfl, Eq.trans (by kernel_rfl) E3.out.symm, Eq.trans (by kernel_rfl) E4.out.symm, trivial⟩ HL.out
set_option maxHeartbeats 4000000 in
theorem lt_r7 (a : Act) (w : World) (N : Act → World → Prop) (Q : Exit → Act → World → Prop) (l : List (Nat × Value)) (hs : Sl 86 a l) (hl : (l.map Prod.fst).all (fun k => [1, 2, 3].contains k) = true)
    (h : Hd) (pa : Option Addr) (pc : Nat) (ia : Option Addr) (n ic A : Nat) (hA : Blk w A 28 (h.cells pa pc ia n ic)) (_hn : n ≤ 1034834473170) (g : Nat) (cu : Array Value) (hB : Blk w g 28 cu) (hsz : cu.size = (n + 2) * 11) (h1 : l.lookup 1 = some (.pointer (some ⟨A, 0, none⟩))) (h3 : l.lookup 3 = some (.slice (some ⟨g, 0, none⟩) (n + 2) (n + 2)))
    (hN : ∀ a', Sl 86 a' l → N a' (w.setCell ⟨g, n * 11, none⟩ (.int .i64 (-71)))) : (r_lt 7).wp Tryd.prog (Exit.then N Q) a w := by
  have HN := Lib.hid hN
  have HL := Lib.hid hl
  have e1 := hs.look 1 h1
  have e3 := hs.look 3 h3
  obtain ⟨f, ea, hf⟩ : ∃ f : Nat → Value, a = ⟨(List.toArray (f 0 :: f 1 :: f 2 :: f 3 :: f 4 :: f 5 :: f 6 :: f 7 :: f 8 :: f 9 :: f 10 :: f 11 :: f 12 :: f 13 :: f 14 :: f 15 :: f 16 :: f 17 :: f 18 :: f 19 :: f 20 :: f 21 :: f 22 :: f 23 :: f 24 :: f 25 :: f 26 :: f 27 :: f 28 :: f 29 :: f 30 :: f 31 :: f 32 :: f 33 :: f 34 :: f 35 :: f 36 :: f 37 :: f 38 :: f 39 :: f 40 :: f 41 :: f 42 :: f 43 :: f 44 :: f 45 :: f 46 :: f 47 :: f 48 :: f 49 :: f 50 :: f 51 :: f 52 :: f 53 :: f 54 :: f 55 :: f 56 :: f 57 :: f 58 :: f 59 :: f 60 :: f 61 :: f 62 :: f 63 :: f 64 :: f 65 :: f 66 :: f 67 :: f 68 :: f 69 :: f 70 :: f 71 :: f 72 :: f 73 :: f 74 :: f 75 :: f 76 :: f 77 :: f 78 :: f 79 :: f 80 :: f 81 :: f 82 :: f 83 :: f 84 :: f 85 :: [])), []⟩ ∧ ∀ k, slot a k = f k := letters_lt a hs.size hs.defers
  rw [hf] at e1 e3
  rw [ea, e1, e3]
  have HS := Lib.hid hs
  have HF := Lib.hid hf
  have E1 := Lib.hid e1
  have E3 := Lib.hid e3
  clear hs ea hf hN hl h1 e1 h3 e3
  have hn2 : (n : Int) < (n : Int) + 2 := by omega
  have hn3 : (n : Int) + 1 < (n : Int) + 2 := by omega
  have hcx : w.cell? ⟨g, n * 11, none⟩ = some (cu[n * 11]'(by omega)) := by rw [hB.cell, Array.getElem?_eq_getElem]
  have hfz := hB.frozen (n * 11)
  clear hB
  obtain ⟨c0, c1, c2, c3, c4, c5, c6, c7, c8, c9, c10⟩ := (CellsAt.of_blk hA).box
  clear hA
  conv => arg 2; whnf
  go_wp2_with fail
  refine HN.out _ ?_
  exact Sl.stay [1, 2, 3] HS.out HF.out (by kernel_rfl) rfl ⟨Eq.trans (by kernel_rfl) E1.out.symm, by kernel_rfl, Eq.trans (by kernel_rfl) E3.out.symm, trivial⟩ HL.out
set_option maxHeartbeats 4000000 in
theorem lt_r8 (a : Act) (w : World) (N : Act → World → Prop) (Q : Exit → Act → World → Prop) (l : List (Nat × Value)) (hs : Sl 86 a l) (hl : (l.map Prod.fst).all (fun k => [1, 2, 3].contains k) = true)
    (h : Hd) (pa : Option Addr) (pc : Nat) (ia : Option Addr) (n ic A : Nat) (hA : Blk w A 28 (h.cells pa pc ia n ic)) (hn : n ≤ 1034834473170) (g : Nat) (cu : Array Value) (hB : Blk w g 28 cu) (hsz : cu.size = (n + 2) * 11) (h1 : l.lookup 1 = some (.pointer (some ⟨A, 0, none⟩))) (h3 : l.lookup 3 = some (.slice (some ⟨g, 0, none⟩) (n + 2) (n + 2)))
    (hN : ∀ a', Sl 86 a' l → N a' (w.setCell ⟨g, (n + 1) * 11, none⟩ (.int .i64 (-72)))) : (r_lt 8).wp Tryd.prog (Exit.then N Q) a w := by
  have HN := Lib.hid hN
  have HL := Lib.hid hl
  have e1 := hs.look 1 h1
  have e3 := hs.look 3 h3
  obtain ⟨f, ea, hf⟩ : ∃ f : Nat → Value, a = ⟨(List.toArray (f 0 :: f 1 :: f 2 :: f 3 :: f 4 :: f 5 :: f 6 :: f 7 :: f 8 :: f 9 :: f 10 :: f 11 :: f 12 :: f 13 :: f 14 :: f 15 :: f 16 :: f 17 :: f 18 :: f 19 :: f 20 :: f 21 :: f 22 :: f 23 :: f 24 :: f 25 :: f 26 :: f 27 :: f 28 :: f 29 :: f 30 :: f 31 :: f 32 :: f 33 :: f 34 :: f 35 :: f 36 :: f 37 :: f 38 :: f 39 :: f 40 :: f 41 :: f 42 :: f 43 :: f 44 :: f 45 :: f 46 :: f 47 :: f 48 :: f 49 :: f 50 :: f 51 :: f 52 :: f 53 :: f 54 :: f 55 :: f 56 :: f 57 :: f 58 :: f 59 :: f 60 :: f 61 :: f 62 :: f 63 :: f 64 :: f 65 :: f 66 :: f 67 :: f 68 :: f 69 :: f 70 :: f 71 :: f 72 :: f 73 :: f 74 :: f 75 :: f 76 :: f 77 :: f 78 :: f 79 :: f 80 :: f 81 :: f 82 :: f 83 :: f 84 :: f 85 :: [])), []⟩ ∧ ∀ k, slot a k = f k := letters_lt a hs.size hs.defers
  rw [hf] at e1 e3
  rw [ea, e1, e3]
  have HS := Lib.hid hs
  have HF := Lib.hid hf
  have E1 := Lib.hid e1
  have E3 := Lib.hid e3
  clear hs ea hf hN hl h1 e1 h3 e3
  have hn2 : (n : Int) < (n : Int) + 2 := by omega
  have hn3 : (n : Int) + 1 < (n : Int) + 2 := by omega
  have hcx : w.cell? ⟨g, (n + 1) * 11, none⟩ = some (cu[(n + 1) * 11]'(by omega)) := by rw [hB.cell, Array.getElem?_eq_getElem]
  have hfz := hB.frozen ((n + 1) * 11)
  clear hB
  obtain ⟨c0, c1, c2, c3, c4, c5, c6, c7, c8, c9, c10⟩ := (CellsAt.of_blk hA).box
  clear hA
  conv => arg 2; whnf
  go_wp2_with fail
  refine HN.out _ ?_
  exact Sl.stay [1, 2, 3] HS.out HF.out (by kernel_rfl) rfl ⟨Eq.trans (by kernel_rfl) E1.out.symm, by kernel_rfl, Eq.trans (by kernel_rfl) E3.out.symm, trivial⟩ HL.out
set_option maxHeartbeats 4000000 in
theorem lt_r9 (a : Act) (w : World) (N : Act → World → Prop) (Q : Exit → Act → World → Prop) (l : List (Nat × Value)) (hs : Sl 86 a l) (hl : (l.map Prod.fst).all (fun k => [1, 2].contains k) = true)
    (h : Hd) (pa : Option Addr) (pc : Nat) (ia : Option Addr) (n ic A : Nat) (hA : Blk w A 28 (h.cells pa pc ia n ic)) (_hn : n ≤ 1034834473170) (g : Nat) (h1 : l.lookup 1 = some (.pointer (some ⟨A, 0, none⟩))) (h3 : slot a 3 = .slice (some ⟨g, 0, none⟩) (n + 2) (n + 2))
    (hN : ∀ a', Sl 86 a' l → N a' (w.setCell ⟨A, 10, none⟩ (.slice (some ⟨g, 0, none⟩) n (n + 2)))) : (r_lt 9).wp Tryd.prog (Exit.then N Q) a w := by
  have HN := Lib.hid hN
  have HL := Lib.hid hl
  have e1 := hs.look 1 h1
  have e3 := h3
  obtain ⟨f, ea, hf⟩ : ∃ f : Nat → Value, a = ⟨(List.toArray (f 0 :: f 1 :: f 2 :: f 3 :: f 4 :: f 5 :: f 6 :: f 7 :: f 8 :: f 9 :: f 10 :: f 11 :: f 12 :: f 13 :: f 14 :: f 15 :: f 16 :: f 17 :: f 18 :: f 19 :: f 20 :: f 21 :: f 22 :: f 23 :: f 24 :: f 25 :: f 26 :: f 27 :: f 28 :: f 29 :: f 30 :: f 31 :: f 32 :: f 33 :: f 34 :: f 35 :: f 36 :: f 37 :: f 38 :: f 39 :: f 40 :: f 41 :: f 42 :: f 43 :: f 44 :: f 45 :: f 46 :: f 47 :: f 48 :: f 49 :: f 50 :: f 51 :: f 52 :: f 53 :: f 54 :: f 55 :: f 56 :: f 57 :: f 58 :: f 59 :: f 60 :: f 61 :: f 62 :: f 63 :: f 64 :: f 65 :: f 66 :: f 67 :: f 68 :: f 69 :: f 70 :: f 71 :: f 72 :: f 73 :: f 74 :: f 75 :: f 76 :: f 77 :: f 78 :: f 79 :: f 80 :: f 81 :: f 82 :: f 83 :: f 84 :: f 85 :: [])), []⟩ ∧ ∀ k, slot a k = f k := letters_lt a hs.size hs.defers
  rw [hf] at e1 e3
  rw [ea, e1, e3]
  have HS := Lib.hid hs
  have HF := Lib.hid hf
  have E1 := Lib.hid e1
  have E3 := Lib.hid e3
  clear hs ea hf hN hl h1 e1 h3 e3
  have hn2 : (n : Int) ≤ (n : Int) + 2 := by omega
  have hfz := hA.frozen 10
  obtain ⟨c0, c1, c2, c3, c4, c5, c6, c7, c8, c9, c10⟩ := (CellsAt.of_blk hA).box
  clear hA
  conv => arg 2; whnf
  go_wp2_with fail
  refine HN.out _ ?_
  exact Sl.stay [1, 2] HS.out HF.out (by kernel_rfl) rfl ⟨Eq.trans (by kernel_rfl) E1.out.symm, by kernel_rfl, trivial⟩ HL.out
set_option maxHeartbeats 4000000 in
theorem lt_r10 (a : Act) (w : World) (N : Act → World → Prop) (Q : Exit → Act → World → Prop) (l : List (Nat × Value)) (hs : Sl 86 a l) (hl : (l.map Prod.fst).all (fun k => [1, 2].contains k) = true)
    (h : Hd) (pa : Option Addr) (pc : Nat) (ia : Option Addr) (n ic A : Nat) (hA : Blk w A 28 (h.cells pa pc ia n ic)) (h1 : l.lookup 1 = some (.pointer (some ⟨A, 0, none⟩)))
    (hN : ∀ a', Sl 86 a' ((52, .bool pa.isSome) :: l) → N a' (w)) : (r_lt 10).wp Tryd.prog (Exit.then N Q) a w := by
  have HN := Lib.hid hN
  have HL := Lib.hid hl
  have e1 := hs.look 1 h1
  obtain ⟨f, ea, hf⟩ : ∃ f : Nat → Value, a = ⟨(List.toArray (f 0 :: f 1 :: f 2 :: f 3 :: f 4 :: f 5 :: f 6 :: f 7 :: f 8 :: f 9 :: f 10 :: f 11 :: f 12 :: f 13 :: f 14 :: f 15 :: f 16 :: f 17 :: f 18 :: f 19 :: f 20 :: f 21 :: f 22 :: f 23 :: f 24 :: f 25 :: f 26 :: f 27 :: f 28 :: f 29 :: f 30 :: f 31 :: f 32 :: f 33 :: f 34 :: f 35 :: f 36 :: f 37 :: f 38 :: f 39 :: f 40 :: f 41 :: f 42 :: f 43 :: f 44 :: f 45 :: f 46 :: f 47 :: f 48 :: f 49 :: f 50 :: f 51 :: f 52 :: f 53 :: f 54 :: f 55 :: f 56 :: f 57 :: f 58 :: f 59 :: f 60 :: f 61 :: f 62 :: f 63 :: f 64 :: f 65 :: f 66 :: f 67 :: f 68 :: f 69 :: f 70 :: f 71 :: f 72 :: f 73 :: f 74 :: f 75 :: f 76 :: f 77 :: f 78 :: f 79 :: f 80 :: f 81 :: f 82 :: f 83 :: f 84 :: f 85 :: [])), []⟩ ∧ ∀ k, slot a k = f k := letters_lt a hs.size hs.defers
  rw [hf] at e1
  rw [ea, e1]
  have HS := Lib.hid hs
  have HF := Lib.hid hf
  have E1 := Lib.hid e1
  clear hs ea hf hN hl h1 e1
  have hnn := fun W => run_neq_slice_nil (P := Tryd.prog) W 23 3 pa h.path.length pc Tryd.underlying23
  obtain ⟨c0, c1, c2, c3, c4, c5, c6, c7, c8, c9, c10⟩ := (CellsAt.of_blk hA).box
  clear hA
  conv => arg 2; whnf
  go_wp2_with fail
  refine HN.out _ ?_
  exact Sl.add (Sl.stay [1, 2] HS.out HF.out (by kernel_rfl) rfl ⟨Eq.trans (by kernel_rfl) E1.out.symm, by kernel_rfl, trivial⟩ HL.out) (by kernel_rfl)
set_option maxHeartbeats 4000000 in
theorem lt_r11 (a : Act) (w : World) (N : Act → World → Prop) (Q : Exit → Act → World → Prop) (l : List (Nat × Value)) (hs : Sl 86 a l) (hl : (l.map Prod.fst).all (fun k => [1, 2].contains k) = true)
    (h : Hd) (pa : Option Addr) (pc : Nat) (ia : Option Addr) (n ic A : Nat) (hA : Blk w A 28 (h.cells pa pc ia n ic)) (hn : h.path.length ≤ 17592186043904) (h1 : l.lookup 1 = some (.pointer (some ⟨A, 0, none⟩)))
    (hN : ∀ a', Sl 86 a' ((5, .slice (some ⟨w.heap.size, 0, none⟩) (h.path.length + 2) (h.path.length + 2)) :: l) → N a' (w.alloc (.cells (madeCells #[.int .i64 0] (h.path.length + 2)) 3))) : (r_lt 11).wp Tryd.prog (Exit.then N Q) a w := by
  have HN := Lib.hid hN
  have HL := Lib.hid hl
  have e1 := hs.look 1 h1
  obtain ⟨f, ea, hf⟩ : ∃ f : Nat → Value, a = ⟨(List.toArray (f 0 :: f 1 :: f 2 :: f 3 :: f 4 :: f 5 :: f 6 :: f 7 :: f 8 :: f 9 :: f 10 :: f 11 :: f 12 :: f 13 :: f 14 :: f 15 :: f 16 :: f 17 :: f 18 :: f 19 :: f 20 :: f 21 :: f 22 :: f 23 :: f 24 :: f 25 :: f 26 :: f 27 :: f 28 :: f 29 :: f 30 :: f 31 :: f 32 :: f 33 :: f 34 :: f 35 :: f 36 :: f 37 :: f 38 :: f 39 :: f 40 :: f 41 :: f 42 :: f 43 :: f 44 :: f 45 :: f 46 :: f 47 :: f 48 :: f 49 :: f 50 :: f 51 :: f 52 :: f 53 :: f 54 :: f 55 :: f 56 :: f 57 :: f 58 :: f 59 :: f 60 :: f 61 :: f 62 :: f 63 :: f 64 :: f 65 :: f 66 :: f 67 :: f 68 :: f 69 :: f 70 :: f 71 :: f 72 :: f 73 :: f 74 :: f 75 :: f 76 :: f 77 :: f 78 :: f 79 :: f 80 :: f 81 :: f 82 :: f 83 :: f 84 :: f 85 :: [])), []⟩ ∧ ∀ k, slot a k = f k := letters_lt a hs.size hs.defers
  rw [hf] at e1
  rw [ea, e1]
  have HS := Lib.hid hs
  have HF := Lib.hid hf
  have E1 := Lib.hid e1
  clear hs ea hf hN hl h1 e1
  have hmk := make_int h.path.length hn
  obtain ⟨c0, c1, c2, c3, c4, c5, c6, c7, c8, c9, c10⟩ := (CellsAt.of_blk hA).box
  clear hA
  conv => arg 2; whnf
  go_wp2_with fail
  refine HN.out _ ?_
  exact Sl.add (Sl.stay [1, 2] HS.out HF.out (by kernel_rfl) rfl ⟨Eq.trans (by kernel_rfl) E1.out.symm, by kernel_rfl, trivial⟩ HL.out) (by kernel_rfl)
set_option maxHeartbeats 4000000 in
theorem lt_r12 (a : Act) (w : World) (N : Act → World → Prop) (Q : Exit → Act → World → Prop) (l : List (Nat × Value)) (hs : Sl 86 a l) (hl : (l.map Prod.fst).all (fun k => [1, 2, 5].contains k) = true)
    (h : Hd) (pa : Option Addr) (pc : Nat) (ia : Option Addr) (n ic A : Nat) (hA : Blk w A 28 (h.cells pa pc ia n ic)) (g : Nat) (W2 : World) (hcp : (Builtin.copy_ #[23, 23] 3 #[.slice (some ⟨g, 0, none⟩) (h.path.length + 2) (h.path.length + 2), .slice pa h.path.length pc]).run Tryd.prog w = .ok (goInt h.path.length) W2) (h1 : l.lookup 1 = some (.pointer (some ⟨A, 0, none⟩))) (h5 : l.lookup 5 = some (.slice (some ⟨g, 0, none⟩) (h.path.length + 2) (h.path.length + 2)))
    (hN : ∀ a', Sl 86 a' l → N a' (W2)) : (r_lt 12).wp Tryd.prog (Exit.then N Q) a w := by
  have HN := Lib.hid hN
  have HL := Lib.hid hl
  have e1 := hs.look 1 h1
  have e5 := hs.look 5 h5
  obtain ⟨f, ea, hf⟩ : ∃ f : Nat → Value, a = ⟨(List.toArray (f 0 :: f 1 :: f 2 :: f 3 :: f 4 :: f 5 :: f 6 :: f 7 :: f 8 :: f 9 :: f 10 :: f 11 :: f 12 :: f 13 :: f 14 :: f 15 :: f 16 :: f 17 :: f 18 :: f 19 :: f 20 :: f 21 :: f 22 :: f 23 :: f 24 :: f 25 :: f 26 :: f 27 :: f 28 :: f 29 :: f 30 :: f 31 :: f 32 :: f 33 :: f 34 :: f 35 :: f 36 :: f 37 :: f 38 :: f 39 :: f 40 :: f 41 :: f 42 :: f 43 :: f 44 :: f 45 :: f 46 :: f 47 :: f 48 :: f 49 :: f 50 :: f 51 :: f 52 :: f 53 :: f 54 :: f 55 :: f 56 :: f 57 :: f 58 :: f 59 :: f 60 :: f 61 :: f 62 :: f 63 :: f 64 :: f 65 :: f 66 :: f 67 :: f 68 :: f 69 :: f 70 :: f 71 :: f 72 :: f 73 :: f 74 :: f 75 :: f 76 :: f 77 :: f 78 :: f 79 :: f 80 :: f 81 :: f 82 :: f 83 :: f 84 :: f 85 :: [])), []⟩ ∧ ∀ k, slot a k = f k := letters_lt a hs.size hs.defers
  rw [hf] at e1 e5
  rw [ea, e1, e5]
  have HS := Lib.hid hs
  have HF := Lib.hid hf
  have E1 := Lib.hid e1
  have E5 := Lib.hid e5
  clear hs ea hf hN hl h1 e1 h5 e5
  obtain ⟨c0, c1, c2, c3, c4, c5, c6, c7, c8, c9, c10⟩ := (CellsAt.of_blk hA).box
  clear hA
  conv => arg 2; whnf
  go_wp2_with fail
  refine HN.out _ ?_
  exact Sl.stay [1, 2, 5] HS.out HF.out (by kernel_rfl) rfl ⟨Eq.trans (by kernel_rfl) E1.out.symm, by kernel_rfl, Eq.trans (by kernel_rfl) E5.out.symm, trivial⟩ HL.out
set_option maxHeartbeats 4000000 in
theorem lt_r13 (a : Act) (w : World) (N : Act → World → Prop) (Q : Exit → Act → World → Prop) (l : List (Nat × Value)) (hs : Sl 86 a l) (hl : (l.map Prod.fst).all (fun k => [1, 2, 5].contains k) = true)
    (h : Hd) (pa : Option Addr) (pc : Nat) (ia : Option Addr) (n ic A : Nat) (hA : Blk w A 28 (h.cells pa pc ia n ic)) (_hn : h.path.length ≤ 17592186043904) (g : Nat) (cu : Array Value) (hB : Blk w g 3 cu) (hsz : cu.size = h.path.length + 2) (h1 : l.lookup 1 = some (.pointer (some ⟨A, 0, none⟩))) (h5 : l.lookup 5 = some (.slice (some ⟨g, 0, none⟩) (h.path.length + 2) (h.path.length + 2)))
    (hN : ∀ a', Sl 86 a' l → N a' (w.setCell ⟨g, h.path.length, none⟩ (.int .i64 (-71)))) : (r_lt 13).wp Tryd.prog (Exit.then N Q) a w := by
  have HN := Lib.hid hN
  have HL := Lib.hid hl
  have e1 := hs.look 1 h1
  have e5 := hs.look 5 h5
  obtain ⟨f, ea, hf⟩ : ∃ f : Nat → Value, a = ⟨(List.toArray (f 0 :: f 1 :: f 2 :: f 3 :: f 4 :: f 5 :: f 6 :: f 7 :: f 8 :: f 9 :: f 10 :: f 11 :: f 12 :: f 13 :: f 14 :: f 15 :: f 16 :: f 17 :: f 18 :: f 19 :: f 20 :: f 21 :: f 22 :: f 23 :: f 24 :: f 25 :: f 26 :: f 27 :: f 28 :: f 29 :: f 30 :: f 31 :: f 32 :: f 33 :: f 34 :: f 35 :: f 36 :: f 37 :: f 38 :: f 39 :: f 40 :: f 41 :: f 42 :: f 43 :: f 44 :: f 45 :: f 46 :: f 47 :: f 48 :: f 49 :: f 50 :: f 51 :: f 52 :: f 53 :: f 54 :: f 55 :: f 56 :: f 57 :: f 58 :: f 59 :: f 60 :: f 61 :: f 62 :: f 63 :: f 64 :: f 65 :: f 66 :: f 67 :: f 68 :: f 69 :: f 70 :: f 71 :: f 72 :: f 73 :: f 74 :: f 75 :: f 76 :: f 77 :: f 78 :: f 79 :: f 80 :: f 81 :: f 82 :: f 83 :: f 84 :: f 85 :: [])), []⟩ ∧ ∀ k, slot a k = f k := letters_lt a hs.size hs.defers
  rw [hf] at e1 e5
  rw [ea, e1, e5]
  have HS := Lib.hid hs
  have HF := Lib.hid hf
  have E1 := Lib.hid e1
  have E5 := Lib.hid e5
  clear hs ea hf hN hl h1 e1 h5 e5
  have hn2 : (h.path.length : Int) < (h.path.length : Int) + 2 := by omega
  have hn3 : (h.path.length : Int) + 1 < (h.path.length : Int) + 2 := by omega
  have hcx : w.cell? ⟨g, h.path.length, none⟩ = some (cu[h.path.length]'(by omega)) := by rw [hB.cell, Array.getElem?_eq_getElem]
  have hfz := hB.frozen h.path.length
  clear hB
  obtain ⟨c0, c1, c2, c3, c4, c5, c6, c7, c8, c9, c10⟩ := (CellsAt.of_blk hA).box
  clear hA
  conv => arg 2; whnf
  go_wp2_with fail
  refine HN.out _ ?_
  exact Sl.stay [1, 2, 5] HS.out HF.out (by kernel_rfl) rfl ⟨Eq.trans (by kernel_rfl) E1.out.symm, by kernel_rfl, Eq.trans (by kernel_rfl) E5.out.symm, trivial⟩ HL.out
set_option maxHeartbeats 4000000 in
theorem lt_r14 (a : Act) (w : World) (N : Act → World → Prop) (Q : Exit → Act → World → Prop) (l : List (Nat × Value)) (hs : Sl 86 a l) (hl : (l.map Prod.fst).all (fun k => [1, 2, 5].contains k) = true)
    (h : Hd) (pa : Option Addr) (pc : Nat) (ia : Option Addr) (n ic A : Nat) (hA : Blk w A 28 (h.cells pa pc ia n ic)) (hn : h.path.length ≤ 17592186043904) (g : Nat) (cu : Array Value) (hB : Blk w g 3 cu) (hsz : cu.size = h.path.length + 2) (h1 : l.lookup 1 = some (.pointer (some ⟨A, 0, none⟩))) (h5 : l.lookup 5 = some (.slice (some ⟨g, 0, none⟩) (h.path.length + 2) (h.path.length + 2)))
    (hN : ∀ a', Sl 86 a' l → N a' (w.setCell ⟨g, (h.path.length + 1), none⟩ (.int .i64 (-72)))) : (r_lt 14).wp Tryd.prog (Exit.then N Q) a w := by
  have HN := Lib.hid hN
  have HL := Lib.hid hl
  have e1 := hs.look 1 h1
  have e5 := hs.look 5 h5
  obtain ⟨f, ea, hf⟩ : ∃ f : Nat → Value, a = ⟨(List.toArray (f 0 :: f 1 :: f 2 :: f 3 :: f 4 :: f 5 :: f 6 :: f 7 :: f 8 :: f 9 :: f 10 :: f 11 :: f 12 :: f 13 :: f 14 :: f 15 :: f 16 :: f 17 :: f 18 :: f 19 :: f 20 :: f 21 :: f 22 :: f 23 :: f 24 :: f 25 :: f 26 :: f 27 :: f 28 :: f 29 :: f 30 :: f 31 :: f 32 :: f 33 :: f 34 :: f 35 :: f 36 :: f 37 :: f 38 :: f 39 :: f 40 :: f 41 :: f 42 :: f 43 :: f 44 :: f 45 :: f 46 :: f 47 :: f 48 :: f 49 :: f 50 :: f 51 :: f 52 :: f 53 :: f 54 :: f 55 :: f 56 :: f 57 :: f 58 :: f 59 :: f 60 :: f 61 :: f 62 :: f 63 :: f 64 :: f 65 :: f 66 :: f 67 :: f 68 :: f 69 :: f 70 :: f 71 :: f 72 :: f 73 :: f 74 :: f 75 :: f 76 :: f 77 :: f 78 :: f 79 :: f 80 :: f 81 :: f 82 :: f 83 :: f 84 :: f 85 :: [])), []⟩ ∧ ∀ k, slot a k = f k := letters_lt a hs.size hs.defers
  rw [hf] at e1 e5
  rw [ea, e1, e5]
  have HS := Lib.hid hs
  have HF := Lib.hid hf
  have E1 := Lib.hid e1
  have E5 := Lib.hid e5
  clear hs ea hf hN hl h1 e1 h5 e5
  have hn2 : (h.path.length : Int) < (h.path.length : Int) + 2 := by omega
  have hn3 : (h.path.length : Int) + 1 < (h.path.length : Int) + 2 := by omega
  have hcx : w.cell? ⟨g, (h.path.length + 1), none⟩ = some (cu[(h.path.length + 1)]'(by omega)) := by rw [hB.cell, Array.getElem?_eq_getElem]
  have hfz := hB.frozen (h.path.length + 1)
  clear hB
  obtain ⟨c0, c1, c2, c3, c4, c5, c6, c7, c8, c9, c10⟩ := (CellsAt.of_blk hA).box
  clear hA
  conv => arg 2; whnf
  go_wp2_with fail
  refine HN.out _ ?_
  exact Sl.stay [1, 2, 5] HS.out HF.out (by kernel_rfl) rfl ⟨Eq.trans (by kernel_rfl) E1.out.symm, by kernel_rfl, Eq.trans (by kernel_rfl) E5.out.symm, trivial⟩ HL.out
set_option maxHeartbeats 4000000 in
theorem lt_r15 (a : Act) (w : World) (N : Act → World → Prop) (Q : Exit → Act → World → Prop) (l : List (Nat × Value)) (hs : Sl 86 a l) (hl : (l.map Prod.fst).all (fun k => [1, 2].contains k) = true)
    (h : Hd) (pa : Option Addr) (pc : Nat) (ia : Option Addr) (n ic A : Nat) (hA : Blk w A 28 (h.cells pa pc ia n ic)) (_hn : h.path.length ≤ 17592186043904) (g : Nat) (h1 : l.lookup 1 = some (.pointer (some ⟨A, 0, none⟩))) (h5 : slot a 5 = .slice (some ⟨g, 0, none⟩) (h.path.length + 2) (h.path.length + 2))
    (hN : ∀ a', Sl 86 a' l → N a' (w.setCell ⟨A, 9, none⟩ (.slice (some ⟨g, 0, none⟩) h.path.length (h.path.length + 2)))) : (r_lt 15).wp Tryd.prog (Exit.then N Q) a w := by
  have HN := Lib.hid hN
  have HL := Lib.hid hl
  have e1 := hs.look 1 h1
  have e5 := h5
  obtain ⟨f, ea, hf⟩ : ∃ f : Nat → Value, a = ⟨(List.toArray (f 0 :: f 1 :: f 2 :: f 3 :: f 4 :: f 5 :: f 6 :: f 7 :: f 8 :: f 9 :: f 10 :: f 11 :: f 12 :: f 13 :: f 14 :: f 15 :: f 16 :: f 17 :: f 18 :: f 19 :: f 20 :: f 21 :: f 22 :: f 23 :: f 24 :: f 25 :: f 26 :: f 27 :: f 28 :: f 29 :: f 30 :: f 31 :: f 32 :: f 33 :: f 34 :: f 35 :: f 36 :: f 37 :: f 38 :: f 39 :: f 40 :: f 41 :: f 42 :: f 43 :: f 44 :: f 45 :: f 46 :: f 47 :: f 48 :: f 49 :: f 50 :: f 51 :: f 52 :: f 53 :: f 54 :: f 55 :: f 56 :: f 57 :: f 58 :: f 59 :: f 60 :: f 61 :: f 62 :: f 63 :: f 64 :: f 65 :: f 66 :: f 67 :: f 68 :: f 69 :: f 70 :: f 71 :: f 72 :: f 73 :: f 74 :: f 75 :: f 76 :: f 77 :: f 78 :: f 79 :: f 80 :: f 81 :: f 82 :: f 83 :: f 84 :: f 85 :: [])), []⟩ ∧ ∀ k, slot a k = f k := letters_lt a hs.size hs.defers
  rw [hf] at e1 e5
  rw [ea, e1, e5]
  have HS := Lib.hid hs
  have HF := Lib.hid hf
  have E1 := Lib.hid e1
  have E5 := Lib.hid e5
  clear hs ea hf hN hl h1 e1 h5 e5
  have hn2 : (h.path.length : Int) ≤ (h.path.length : Int) + 2 := by omega
  have hfz := hA.frozen 9
  obtain ⟨c0, c1, c2, c3, c4, c5, c6, c7, c8, c9, c10⟩ := (CellsAt.of_blk hA).box
  clear hA
  conv => arg 2; whnf
  go_wp2_with fail
  refine HN.out _ ?_
  exact Sl.stay [1, 2] HS.out HF.out (by kernel_rfl) rfl ⟨Eq.trans (by kernel_rfl) E1.out.symm, by kernel_rfl, trivial⟩ HL.out
set_option maxHeartbeats 4000000 in
theorem lt_r16 (a : Act) (w : World) (N : Act → World → Prop) (Q : Exit → Act → World → Prop) (l : List (Nat × Value)) (hs : Sl 86 a l) (hl : (l.map Prod.fst).all (fun k => [1, 2].contains k) = true)
    (h : Hd) (pa : Option Addr) (pc : Nat) (ia : Option Addr) (n ic A : Nat) (hA : Blk w A 28 (h.cells pa pc ia n ic)) (R : Nat) (cs : Array Value) (hR : Blk w R 28 cs) (hcs : cs.size = 11) (h1 : l.lookup 1 = some (.pointer (some ⟨A, 0, none⟩))) (h2 : l.lookup 2 = some (.pointer (some ⟨R, 0, none⟩)))
    (hN : ∀ a', Sl 86 a' l → N a' (w.setCells R 0 (h.cells pa pc ia n ic).toList)) : (r_lt 16).wp Tryd.prog (Exit.then N Q) a w := by
  have HN := Lib.hid hN
  have HL := Lib.hid hl
  have e1 := hs.look 1 h1
  have e2 := hs.look 2 h2
  obtain ⟨f, ea, hf⟩ : ∃ f : Nat → Value, a = ⟨(List.toArray (f 0 :: f 1 :: f 2 :: f 3 :: f 4 :: f 5 :: f 6 :: f 7 :: f 8 :: f 9 :: f 10 :: f 11 :: f 12 :: f 13 :: f 14 :: f 15 :: f 16 :: f 17 :: f 18 :: f 19 :: f 20 :: f 21 :: f 22 :: f 23 :: f 24 :: f 25 :: f 26 :: f 27 :: f 28 :: f 29 :: f 30 :: f 31 :: f 32 :: f 33 :: f 34 :: f 35 :: f 36 :: f 37 :: f 38 :: f 39 :: f 40 :: f 41 :: f 42 :: f 43 :: f 44 :: f 45 :: f 46 :: f 47 :: f 48 :: f 49 :: f 50 :: f 51 :: f 52 :: f 53 :: f 54 :: f 55 :: f 56 :: f 57 :: f 58 :: f 59 :: f 60 :: f 61 :: f 62 :: f 63 :: f 64 :: f 65 :: f 66 :: f 67 :: f 68 :: f 69 :: f 70 :: f 71 :: f 72 :: f 73 :: f 74 :: f 75 :: f 76 :: f 77 :: f 78 :: f 79 :: f 80 :: f 81 :: f 82 :: f 83 :: f 84 :: f 85 :: [])), []⟩ ∧ ∀ k, slot a k = f k := letters_lt a hs.size hs.defers
  rw [hf] at e1 e2
  rw [ea, e1, e2]
  have HS := Lib.hid hs
  have HF := Lib.hid hf
  have E1 := Lib.hid e1
  have E2 := Lib.hid e2
  clear hs ea hf hN hl h1 e1 h2 e2
  have hfr := fun j => hR.frozen j
  obtain ⟨v0, v1, v2, v3, v4, v5, v6, v7, v8, v9, v10, q0, q1, q2, q3, q4, q5, q6, q7, q8, q9, q10⟩ := hR.eleven hcs
  obtain ⟨c0, c1, c2, c3, c4, c5, c6, c7, c8, c9, c10⟩ := (CellsAt.of_blk hA).box
  clear hA hR
  conv => arg 2; whnf
  go_wp2_with fail
  refine HN.out _ ?_
  exact Sl.stay [1, 2] HS.out HF.out (by kernel_rfl) rfl ⟨Eq.trans (by kernel_rfl) E1.out.symm, Eq.trans (by kernel_rfl) E2.out.symm, trivial⟩ HL.out
end Go.Proofs.YthdmmhiifkebeaaDoor

namespace Go.Proofs.YthdmmhiifkebeaaDoor
open Go.RowKit Go.Sort
set_option maxRecDepth 100000

noncomputable def ltLoop : Code := .seq (.seq (r_lt 4) (.cond (.tmp 18) .skip (.exit 0))) (.seq (.block 1 (r_lt 6)) (r_lt 5))
noncomputable def ltRest : Code := .seq (.seq (r_lt 10) (.cond (.tmp 52) (.seq (r_lt 11) (.seq (r_lt 12) (.seq (r_lt 13) (.seq (r_lt 14) (r_lt 15))))) .skip)) (.seq (r_lt 16) .ret)
noncomputable def ltBody : Code := .seq (r_lt 0) (.seq (.seq (r_lt 1) (.cond (.tmp 8) (.seq (r_lt 2) (.seq (.seq (r_lt 3) (.block 0 (.loop ltLoop))) (.seq (r_lt 7) (.seq (r_lt 8) (r_lt 9))))) .skip)) ltRest)
theorem lt_body : Tryd.f37.body = some ltBody := by kernel_rfl
theorem then_exit {id : Nat} {K : Act → World → Prop} {Q : Exit → Act → World → Prop} {a : Act} {w : World} (h : Q (.exit id) a w) : Exit.then K Q (.exit id) a w := h
theorem in_block' {id : Nat} {Q : Exit → Act → World → Prop} {a : Act} {w : World} (h : Q .normal a w) : Exit.inBlock id Q (.exit id) a w := by simpa [Exit.inBlock] using h

/-- What lent hands back. -/
def LentPost (h : Hd) (k : Fo) (w : World) (e : Ending) (w' : World) : Prop :=
  ∃ pa pc ia ic, e = .returned (.agg (h.cells pa pc ia k.len ic)) ∧ LD w' w.heap.size w'.heap.size h k pa pc ia ic ∧ Below w.heap.size w w'
def LentC (h : Hd) (k : Fo) : Prop := ∀ (w : World) (S : Nat → Prop) (pa : Option Addr) (pc : Nat) (ia : Option Addr) (ic : Nat), DatAt w S h k pa pc ia ic →
  Calls Tryd.prog 37 #[.agg (h.cells pa pc ia k.len ic)] w (LentPost h k w)

theorem res_dat {fn : Func} {t : Nat} (hf : fn.results = #[.cell t 28]) (tmps : Array Value) (W : World) (R : Nat) (ht : tmps.getD t undef = .pointer (some ⟨R, 0, none⟩)) (h : Hd) (pa : Option Addr) (pc : Nat) (ia : Option Addr) (n ic : Nat)
    (hc : CellsAt W R 0 (h.cells pa pc ia n ic)) : (results fn tmps).run Tryd.prog W = .ok (.agg (h.cells pa pc ia n ic)) W := by
  obtain ⟨q0, q1, q2, q3, q4, q5, q6, q7, q8, q9, q10⟩ := hc.eleven
  simp only [Nat.zero_add] at q0 q1 q2 q3 q4 q5 q6 q7 q8 q9 q10
  have ht' : (tmps[t]?).getD undef = .pointer (some ⟨R, 0, none⟩) := by simpa [Array.getD_eq_getD_getElem?] using ht
  simp [results, hf, go_sem, ht', q0, q1, q2, q3, q4, q5, q6, q7, q8, q9, q10, Hd.cells]

theorem lt_fin (h : Hd) (k : Fo) (w w5 : World) (a : Act) (pa : Option Addr) (pc : Nat) (ia : Option Addr) (ic : Nat) (hs : Sl 86 a [(2, .pointer (some ⟨w.heap.size + 1, 0, none⟩)), (1, .pointer (some ⟨w.heap.size, 0, none⟩))])
    (hA : Blk w5 w.heap.size 28 (h.cells pa pc ia k.len ic)) (hR : ∃ cs, cs.size = 11 ∧ Blk w5 (w.heap.size + 1) 28 cs) (hb : Below w.heap.size w w5) (hL : LD w5 (w.heap.size + 2) w5.heap.size h k pa pc ia ic) :
    (Code.seq (r_lt 16) .ret).wp Tryd.prog (bodyPost Tryd.prog Tryd.f37 (LentPost h k w)) a w5 := by
  obtain ⟨cs, hcs, hR⟩ := hR
  refine wp_seq (lt_r16 a w5 _ _ _ hs rfl h pa pc ia k.len ic w.heap.size hA (w.heap.size + 1) cs hR hcs rfl rfl fun a6 h6 => wp_ret ?_)
  have hc8 : CellsAt (w5.setCells (w.heap.size + 1) 0 (h.cells pa pc ia k.len ic).toList) (w.heap.size + 1) 0 (h.cells pa pc ia k.len ic) := fun n v hv => World.rangeAt_setCells_same w5 (w.heap.size + 1) 0 _ (there_blk hR (by rw [hcs]; simp [Hd.cells])) n v (by simpa using hv)
  refine bodyPost_ret (v := .agg (h.cells pa pc ia k.len ic)) (res_dat rfl _ _ (w.heap.size + 1) (h6.look 2 rfl) h pa pc ia k.len ic hc8) h6.defers ⟨pa, pc, ia, ic, rfl, ?_, setCells_below _ _ _ hb (by omega)⟩
  rw [setCells_size]
  exact (hL.keep fun x h1 _ _ => setCells_heap _ _ _ _ x (by omega)).mono (by omega) (Nat.le_refl _)

theorem Sl.swap {n : Nat} {a : Act} {p q : Nat × Value} {l : List (Nat × Value)} (h : Sl n a (p :: q :: l)) : Sl n a (q :: p :: l) := h.sub fun x hx => by
  simp only [List.mem_cons] at hx ⊢
  rcases hx with h | h | h
  · exact .inr (.inl h)
  · exact .inl h
  · exact .inr (.inr h)
/-- The items' part of a lent datum. -/
def LIt (w : World) (lo hi : Nat) (k : Fo) (ia : Option Addr) (ic : Nat) : Prop := k.len ≤ ic ∧ ic ≤ 9223372036854775807 ∧ ((ia = none ∧ k.len = 0) ∨ ∃ b q2, ia = some ⟨b, 0, none⟩ ∧ lo ≤ b ∧ b < q2 ∧ q2 ≤ hi ∧ Cel w b ∧ k.len + 2 ≤ ic ∧
  w.cell? ⟨b, k.len * 11, none⟩ = some (.int .i64 (-71)) ∧ w.cell? ⟨b, (k.len + 1) * 11, none⟩ = some (.int .i64 (-72)) ∧ LF w (b + 1) q2 b 0 k)
theorem LIt.keep {w w' : World} {lo hi : Nat} {k : Fo} {ia : Option Addr} {ic : Nat} (h : LIt w lo hi k ia ic) (hk : ∀ x, lo ≤ x → x < hi → x < w.heap.size → w'.heap[x]? = w.heap[x]?) : LIt w' lo hi k ia ic := by
  obtain ⟨h1, h2, h3⟩ := h
  refine ⟨h1, h2, ?_⟩
  rcases h3 with h3 | ⟨b, q2, e, g1, g2, g3, g4, g5, g6, g7, g8⟩
  · exact .inl h3
  · have hkb := hk b g1 (by omega) g4.lt
    exact .inr ⟨b, q2, e, g1, g2, by omega, g4.keep hkb, g5, (World.cell?_of_block (w := w) hkb).trans g6, (World.cell?_of_block (w := w) hkb).trans g7,
      LF.keep k (b + 1) q2 b 0 g8 (fun x hx hy hz => hk x (by omega) (by omega) hz) (fun n v _ hn => (World.cell?_of_block (w := w) hkb).trans hn)⟩
/-- The items, and no path: a lent datum. -/
theorem LIt.none {w : World} {lo hi : Nat} {h : Hd} {k : Fo} {ia : Option Addr} {ic pc : Nat} (d : LIt w lo hi k ia ic) (hlo : lo ≤ hi) (hhi : hi ≤ w.heap.size) (hp : h.path = []) (hpc : h.path.length ≤ pc) (hpm : pc ≤ 9223372036854775807) : LD w lo w.heap.size h k Option.none pc ia ic := by
  obtain ⟨h1, h2, h3⟩ := d
  rcases h3 with h3 | ⟨b, q2, e, g1, g2, g3, g4, g5, g6, g7, g8⟩
  · exact ⟨lo, lo, Nat.le_refl _, Nat.le_refl _, by omega, .inl hp, hpc, hpm, h1, h2, .inl rfl, .inl h3⟩
  · exact ⟨b, q2, g1, by omega, by omega, .inl hp, hpc, hpm, h1, h2, .inl rfl, .inr ⟨b, e, Nat.le_refl _, g2, g4, g5, g6, g7, g8⟩⟩
/-- The items, and a path behind them: a lent datum. -/
theorem LIt.some {w : World} {lo hi : Nat} {h : Hd} {k : Fo} {ia : Option Addr} {ic pc p : Nat} (d : LIt w lo hi k ia ic) (hlo : lo ≤ hi) (hhp : hi ≤ p) (hp : p < w.heap.size) (hc : Cel w p)
    (hpl : h.path.length + 2 ≤ pc) (hpm : pc ≤ 9223372036854775807) (hpath : ∀ (j : Nat) (x : Int), h.path[j]? = Option.some x → w.cell? ⟨p, j, Option.none⟩ = Option.some (.int .i64 x))
    (h71 : w.cell? ⟨p, h.path.length, Option.none⟩ = Option.some (.int .i64 (-71))) (h72 : w.cell? ⟨p, h.path.length + 1, Option.none⟩ = Option.some (.int .i64 (-72))) : LD w lo w.heap.size h k (Option.some ⟨p, 0, Option.none⟩) pc ia ic := by
  obtain ⟨h1, h2, h3⟩ := d
  rcases h3 with h3 | ⟨b, q2, e, g1, g2, g3, g4, g5, g6, g7, g8⟩
  · exact ⟨lo, lo, Nat.le_refl _, Nat.le_refl _, by omega, .inr ⟨p, 0, rfl, ⟨by omega, hp, .inr (by omega), hc⟩, fun j x hx => by rw [Nat.zero_add]; exact hpath j x hx⟩, by omega, hpm, h1, h2, .inr ⟨p, rfl, by omega, hp, .inr (by omega), hc, hpl, h71, h72⟩, .inl h3⟩
  · exact ⟨b, q2, g1, by omega, by omega, .inr ⟨p, 0, rfl, ⟨by omega, hp, .inr (by omega), hc⟩, fun j x hx => by rw [Nat.zero_add]; exact hpath j x hx⟩, by omega, hpm, h1, h2, .inr ⟨p, rfl, by omega, hp, .inr (by omega), hc, hpl, h71, h72⟩, .inr ⟨b, e, Nat.le_refl _, g2, g4, g5, g6, g7, g8⟩⟩

theorem path_news0 {w : World} {S : Nat → Prop} {pa : Option Addr} {l : List Int} (hp : PathAt w S pa l) {ad : Addr} (e : pa = some ad) : ∀ (j : Nat) (v : Value), (l.map (Value.int .i64))[j]? = some v → w.cell? (ad.add j) = some v := by
  subst e
  exact path_news hp

theorem lt_rest (h : Hd) (k : Fo) (ho : h.ok) (w w2 : World) (S : Nat → Prop) (a : Act) (pa : Option Addr) (pc : Nat) (ia : Option Addr) (ic : Nat) (hp : PathAt w2 S pa h.path) (hpc : h.path.length ≤ pc) (hpm : pc ≤ 9223372036854775807)
    (hs : Sl 86 a [(2, .pointer (some ⟨w.heap.size + 1, 0, none⟩)), (1, .pointer (some ⟨w.heap.size, 0, none⟩))])
    (hA : Blk w2 w.heap.size 28 (h.cells pa pc ia k.len ic)) (hR : ∃ cs, cs.size = 11 ∧ Blk w2 (w.heap.size + 1) 28 cs) (hb : Below w.heap.size w w2) (hL : LIt w2 (w.heap.size + 2) w2.heap.size k ia ic) :
    ltRest.wp Tryd.prog (bodyPost Tryd.prog Tryd.f37 (LentPost h k w)) a w2 := by
  have hpl := ho.path
  have hltA := hA.lt
  have hltR : w.heap.size + 1 < w2.heap.size := by obtain ⟨cs, _, hR⟩ := hR; exact hR.lt
  unfold ltRest
  refine wp_seq (wp_seq (lt_r10 a w2 _ _ _ hs rfl h pa pc ia k.len ic w.heap.size hA rfl fun a1 h1 => ?_))
  cases pa with
  | none =>
    have hpe : h.path = [] := by
      rcases hp with hp | ⟨b, o, e, _⟩
      · exact hp
      · cases e
    refine wpc_off (h1.look 52 rfl) ?_
    exact lt_fin h k w w2 a1 none pc ia ic h1.tl hA hR hb (hL.none (by omega) (Nat.le_refl _) hpe hpc hpm)
  | some ad =>
    refine wp_cond_true (h1.look 52 rfl) ?_
    refine wp_seq (lt_r11 a1 w2 _ _ _ h1.tl rfl h (some ad) pc ia k.len ic w.heap.size hA hpl rfl fun a2 h2 => ?_)
    have hB3 : Blk (w2.alloc (.cells (madeCells #[.int .i64 0] (h.path.length + 2)) 3)) w2.heap.size 3 (madeCells #[.int .i64 0] (h.path.length + 2)) := Blk.new _ _ _
    have hb3 : Below w2.heap.size w2 (w2.alloc (.cells (madeCells #[.int .i64 0] (h.path.length + 2)) 3)) := (Below.refl _ _).alloc (Nat.le_refl _) _
    have hz3 : (w2.alloc (.cells (madeCells #[.int .i64 0] (h.path.length + 2)) 3)).heap.size = w2.heap.size + 1 := by simp
    generalize w2.alloc (.cells (madeCells #[.int .i64 0] (h.path.length + 2)) 3) = w3 at hB3 hb3 hz3 ⊢
    have hp3 := path_news0 (hp.keep (fun b _ hb' => hb3.block b hb') (fun _ h _ => h)) rfl
    have hcur : (madeCells #[.int .i64 0] (h.path.length + 2)).size = h.path.length + 2 := size_madeCells _ _
    generalize madeCells #[.int .i64 0] (h.path.length + 2) = cu at hB3 hcur
    have hlm : (h.path.map (Value.int .i64)).length = h.path.length := by simp
    have hcp := run_copy_cells (P := Tryd.prog) w3 23 23 3 3 w2.heap.size 0 (h.path.length + 2) (h.path.length + 2) ad h.path.length pc (h.path.map (Value.int .i64)) Tryd.underlying23 (by kernel_rfl)
      (by rw [hlm]; exact (Nat.min_eq_left (by omega)).symm) hp3 (fun j hj => by rw [Nat.zero_add, hB3.cell, Array.getElem?_eq_getElem (by omega)]; rfl) (fun j _ => hB3.frozen _) (fun v hv => by obtain ⟨x, _, rfl⟩ := List.mem_map.1 hv; rfl)
    rw [hlm] at hcp
    have hA3 := hA.below hb3 hltA
    have hR3 : ∃ cs, cs.size = 11 ∧ Blk w3 (w.heap.size + 1) 28 cs := by obtain ⟨cs, e, hR⟩ := hR; exact ⟨cs, e, hR.below hb3 hltR⟩
    have hL3 : LIt w3 (w.heap.size + 2) w2.heap.size k ia ic := hL.keep fun x _ h2 _ => hb3.block x h2
    have hb03 := hb.trans (hb3.mono (Nat.le_of_lt hltA))
    clear hA hR hL hb hp hp3
    refine wp_seq (lt_r12 a2 w3 _ _ _ ((h2.none.add (h2.look 1 rfl)).add (h2.look 2 rfl) |>.add (h2.look 5 rfl)) rfl h (some ad) pc ia k.len ic w.heap.size hA3 w2.heap.size _ hcp rfl rfl fun a3 h3 => ?_)
    have hA4 : Blk (w3.setCells w2.heap.size 0 (h.path.map (Value.int .i64))) w.heap.size 28 (h.cells (some ad) pc ia k.len ic) := (setCells_heap _ _ _ _ _ (by omega)).trans hA3
    have hR4 : ∃ cs, cs.size = 11 ∧ Blk (w3.setCells w2.heap.size 0 (h.path.map (Value.int .i64))) (w.heap.size + 1) 28 cs := by obtain ⟨cs, e, hR⟩ := hR3; exact ⟨cs, e, (setCells_heap _ _ _ _ _ (by omega)).trans hR⟩
    have hL4 : LIt (w3.setCells w2.heap.size 0 (h.path.map (Value.int .i64))) (w.heap.size + 2) w2.heap.size k ia ic := hL3.keep fun x _ h2 _ => setCells_heap _ _ _ _ x (by omega)
    have hb4 := setCells_below (b := w2.heap.size) (h.path.map (Value.int .i64)) 0 _ hb03 (by omega)
    have hz4 := setCells_size w2.heap.size (h.path.map (Value.int .i64)) 0 w3
    have hP4 : ∀ (j : Nat) (x : Int), h.path[j]? = some x → (w3.setCells w2.heap.size 0 (h.path.map (Value.int .i64))).cell? ⟨w2.heap.size, j, none⟩ = some (.int .i64 x) := fun j x hx => by
      have := World.rangeAt_setCells_same w3 w2.heap.size 0 (h.path.map (Value.int .i64)) (there_blk hB3 (by rw [hlm]; omega)) j (.int .i64 x) (by simp [hx])
      rwa [Nat.zero_add] at this
    obtain ⟨cu4, hB4, hcu4⟩ := setCells_blk (h.path.map (Value.int .i64)) 0 _ _ hB3
    rw [hcur] at hcu4
    rw [hz3] at hz4
    generalize w3.setCells w2.heap.size 0 (h.path.map (Value.int .i64)) = w4 at hA4 hR4 hL4 hb4 hz4 hP4 hB4 ⊢
    clear hA3 hR3 hL3 hb03 hB3 hcp hb3 hz3 hcur
    refine wp_seq (lt_r13 a3 w4 _ _ _ h3 rfl h (some ad) pc ia k.len ic w.heap.size hA4 hpl w2.heap.size cu4 hB4 hcu4 rfl rfl fun a4 h4 => ?_)
    have hB5 := hB4.set_ h.path.length (.int .i64 (-71))
    have hA5 := hA4.far (p := ⟨w2.heap.size, h.path.length, none⟩) (by show w.heap.size ≠ w2.heap.size; omega) (.int .i64 (-71))
    have h715 : (w4.setCell ⟨w2.heap.size, h.path.length, none⟩ (.int .i64 (-71))).cell? ⟨w2.heap.size, h.path.length, none⟩ = some (.int .i64 (-71)) := by rw [hB5.cell, Array.getElem?_setIfInBounds_self_of_lt (by omega)]
    have hP5 : ∀ (j : Nat) (x : Int), h.path[j]? = some x → (w4.setCell ⟨w2.heap.size, h.path.length, none⟩ (.int .i64 (-71))).cell? ⟨w2.heap.size, j, none⟩ = some (.int .i64 x) := fun j x hx => by
      have hj : j < h.path.length := by
        rcases Nat.lt_or_ge j h.path.length with h1 | h1
        · exact h1
        · rw [List.getElem?_eq_none h1] at hx; cases hx
      exact (World.cell?_setCell_other _ _ _ _ (by intro e; injection e with _ e; omega)).trans (hP4 j x hx)
    have hk5 : ∀ x, x ≠ w2.heap.size → (w4.setCell ⟨w2.heap.size, h.path.length, none⟩ (.int .i64 (-71))).heap[x]? = w4.heap[x]? := fun x hx => Below.heap_setCell _ _ _ _ hx
    have hz5 : (w4.setCell ⟨w2.heap.size, h.path.length, none⟩ (.int .i64 (-71))).heap.size = w4.heap.size := by simp [World.setCell]
    have hb5 : Below w.heap.size w (w4.setCell ⟨w2.heap.size, h.path.length, none⟩ (.int .i64 (-71))) := hb4.setCell (p := ⟨w2.heap.size, h.path.length, none⟩) (by show w.heap.size ≤ w2.heap.size; omega) _
    generalize w4.setCell ⟨w2.heap.size, h.path.length, none⟩ (.int .i64 (-71)) = w5 at hB5 hA5 h715 hP5 hk5 hz5 hb5 ⊢
    refine wp_seq (lt_r14 a4 w5 _ _ _ h4 rfl h (some ad) pc ia k.len ic w.heap.size hA5 hpl w2.heap.size _ hB5 (by simpa using hcu4) rfl rfl fun a5 h5 => ?_)
    have hB6 := hB5.set_ (h.path.length + 1) (.int .i64 (-72))
    have hA6 := hA5.far (p := ⟨w2.heap.size, h.path.length + 1, none⟩) (by show w.heap.size ≠ w2.heap.size; omega) (.int .i64 (-72))
    have h726 : (w5.setCell ⟨w2.heap.size, h.path.length + 1, none⟩ (.int .i64 (-72))).cell? ⟨w2.heap.size, h.path.length + 1, none⟩ = some (.int .i64 (-72)) := by rw [hB6.cell, Array.getElem?_setIfInBounds_self_of_lt (by simp; omega)]
    have h716 : (w5.setCell ⟨w2.heap.size, h.path.length + 1, none⟩ (.int .i64 (-72))).cell? ⟨w2.heap.size, h.path.length, none⟩ = some (.int .i64 (-71)) := (World.cell?_setCell_other _ _ _ _ (by intro e; injection e with _ e; omega)).trans h715
    have hP6 : ∀ (j : Nat) (x : Int), h.path[j]? = some x → (w5.setCell ⟨w2.heap.size, h.path.length + 1, none⟩ (.int .i64 (-72))).cell? ⟨w2.heap.size, j, none⟩ = some (.int .i64 x) := fun j x hx => by
      have hj : j < h.path.length := by
        rcases Nat.lt_or_ge j h.path.length with h1 | h1
        · exact h1
        · rw [List.getElem?_eq_none h1] at hx; cases hx
      exact (World.cell?_setCell_other _ _ _ _ (by intro e; injection e with _ e; omega)).trans (hP5 j x hx)
    have hk6 : ∀ x, x ≠ w2.heap.size → (w5.setCell ⟨w2.heap.size, h.path.length + 1, none⟩ (.int .i64 (-72))).heap[x]? = w5.heap[x]? := fun x hx => Below.heap_setCell _ _ _ _ hx
    have hz6 : (w5.setCell ⟨w2.heap.size, h.path.length + 1, none⟩ (.int .i64 (-72))).heap.size = w5.heap.size := by simp [World.setCell]
    have hb6 : Below w.heap.size w (w5.setCell ⟨w2.heap.size, h.path.length + 1, none⟩ (.int .i64 (-72))) := hb5.setCell (p := ⟨w2.heap.size, h.path.length + 1, none⟩) (by show w.heap.size ≤ w2.heap.size; omega) _
    generalize w5.setCell ⟨w2.heap.size, h.path.length + 1, none⟩ (.int .i64 (-72)) = w6 at hB6 hA6 h726 h716 hP6 hk6 hz6 hb6 ⊢
    refine lt_r15 a5 w6 _ _ _ (h5.none.add (h5.look 1 rfl) |>.add (h5.look 2 rfl)) rfl h (some ad) pc ia k.len ic w.heap.size hA6 hpl w2.heap.size rfl (h5.look 5 rfl) fun a6 h6 => ?_
    have hA7 : Blk (w6.setCell ⟨w.heap.size, 9, none⟩ (.slice (some ⟨w2.heap.size, 0, none⟩) h.path.length (h.path.length + 2))) w.heap.size 28 (h.cells (some ⟨w2.heap.size, 0, none⟩) (h.path.length + 2) ia k.len ic) := hA6.set_ 9 _
    have hk7 : ∀ x, x ≠ w.heap.size → (w6.setCell ⟨w.heap.size, 9, none⟩ (.slice (some ⟨w2.heap.size, 0, none⟩) h.path.length (h.path.length + 2))).heap[x]? = w6.heap[x]? := fun x hx => Below.heap_setCell _ _ _ _ hx
    have hz7 : (w6.setCell ⟨w.heap.size, 9, none⟩ (.slice (some ⟨w2.heap.size, 0, none⟩) h.path.length (h.path.length + 2))).heap.size = w6.heap.size := by simp [World.setCell]
    have hb7 : Below w.heap.size w (w6.setCell ⟨w.heap.size, 9, none⟩ (.slice (some ⟨w2.heap.size, 0, none⟩) h.path.length (h.path.length + 2))) := hb6.setCell (p := ⟨w.heap.size, 9, none⟩) (Nat.le_refl _) _
    generalize w6.setCell ⟨w.heap.size, 9, none⟩ (.slice (some ⟨w2.heap.size, 0, none⟩) h.path.length (h.path.length + 2)) = w7 at hA7 hk7 hz7 hb7 ⊢
    have hkc : w7.heap[w2.heap.size]? = w6.heap[w2.heap.size]? := hk7 _ (by omega)
    have hk47 : ∀ x, x ≠ w2.heap.size → x ≠ w.heap.size → w7.heap[x]? = w4.heap[x]? := fun x h1 h2 => (hk7 x h2).trans ((hk6 x h1).trans (hk5 x h1))
    have hR7 : ∃ cs, cs.size = 11 ∧ Blk w7 (w.heap.size + 1) 28 cs := by obtain ⟨cs, e, hR⟩ := hR4; exact ⟨cs, e, (hk47 _ (by omega) (by omega)).trans hR⟩
    have hL7 : LIt w7 (w.heap.size + 2) w2.heap.size k ia ic := hL4.keep fun x h1 h2 _ => hk47 x (by omega) (by omega)
    refine lt_fin h k w w7 a6 (some ⟨w2.heap.size, 0, none⟩) (h.path.length + 2) ia ic h6 hA7 hR7 hb7 ?_
    exact hL7.some (by omega) (Nat.le_refl _) (by omega) ⟨_, _, hkc.trans hB6⟩ (Nat.le_refl _) (by omega) (fun j x hx => (World.cell?_of_block (w := w6) hkc).trans (hP6 j x hx)) ((World.cell?_of_block (w := w6) hkc).trans h716) ((World.cell?_of_block (w := w6) hkc).trans h726)

theorem wp_then {P : Program} {c : Code} {Q : Exit → Act → World → Prop} {a : Act} {w : World} (h : c.wp P (Exit.then (Q .normal) Q) a w) : c.wp P Q a w := by
  have e : Exit.then (Q .normal) Q = Q := by
    funext e a w
    cases e <;> rfl
  rwa [e] at h

theorem lent_one (h : Hd) (k : Fo) (ho : h.ok) (hkl : k.len ≤ 1034834473170) (ih : ∀ i a b, k.get i = some (a, b) → LentC a b) : LentC h k := by
  intro w S pa pc ia ic hd
  replace hd : DatAt w (fun b => b < w.heap.size) h k pa pc ia ic := hd.keep (fun _ _ _ => rfl) (fun b _ h => h)
  refine calls_of_wp Tryd.func37 lt_body ?_
  have h0 : Sl 86 { tmps := #[Value.agg (h.cells pa pc ia k.len ic)] ++ Array.replicate (Tryd.f37.ntmps - #[Value.agg (h.cells pa pc ia k.len ic)].size) undef, defers := [] } [(0, .agg (h.cells pa pc ia k.len ic))] :=
    ⟨by simp [Tryd.ntmps37], rfl, fun p hp => by
      simp only [List.mem_cons, List.not_mem_nil, or_false] at hp
      subst hp
      simp [slot]⟩
  generalize { tmps := #[Value.agg (h.cells pa pc ia k.len ic)] ++ Array.replicate (Tryd.f37.ntmps - #[Value.agg (h.cells pa pc ia k.len ic)].size) undef, defers := [] : Act } = a0 at h0 ⊢
  unfold ltBody
  refine wp_seq (lt_r0 a0 w _ _ _ h0.none rfl h pa pc ia k.len ic (h0.look 0 rfl) fun a1 w1 h1 hA hR hb hz => ?_)
  have hd1 := hd.below hb (fun b _ h => h)
  refine wp_seq (wp_seq (lt_r1 a1 w1 _ _ _ h1 rfl h pa pc ia k.len ic w.heap.size hA rfl fun a2 h2 => ?_))
  cases ia with
  | none =>
    have hk0 : k.len = 0 := by
      rcases hd.kids with e | ⟨b, o, e, _⟩
      · exact e
      · cases e
    refine wpc_off (h2.look 8 rfl) ?_
    exact lt_rest h k ho w w1 _ a2 pa pc none ic hd1.path hd.pcLe hd.pcMax h2.tl hA hR hb ⟨hd.icLe, hd.icMax, .inl ⟨rfl, hk0⟩⟩
  | some ad =>
    refine wp_cond_true (h2.look 8 rfl) ?_
    refine wp_seq (lt_r2 a2 w1 _ _ _ h2.tl rfl h pa pc (some ad) k.len ic w.heap.size hA hkl rfl fun a3 h3 => ?_)
    have hB3 : Blk (w1.alloc (.cells (madeCells zdCells ((k.len + 2) * 11)) 28)) w1.heap.size 28 (madeCells zdCells ((k.len + 2) * 11)) := Blk.new _ _ _
    have hb3 : Below w1.heap.size w1 (w1.alloc (.cells (madeCells zdCells ((k.len + 2) * 11)) 28)) := (Below.refl _ _).alloc (Nat.le_refl _) _
    have hz3 : (w1.alloc (.cells (madeCells zdCells ((k.len + 2) * 11)) 28)).heap.size = w1.heap.size + 1 := by simp
    generalize w1.alloc (.cells (madeCells zdCells ((k.len + 2) * 11)) 28) = w3 at hB3 hb3 hz3 ⊢
    have hcur : (madeCells zdCells ((k.len + 2) * 11)).size = (k.len + 2) * 11 := size_madeCells _ _
    generalize madeCells zdCells ((k.len + 2) * 11) = cu at hB3 hcur
    have hA3 := hA.below hb3 hA.lt
    have hR3 : ∃ cs, cs.size = 11 ∧ Blk w3 (w.heap.size + 1) 28 cs := by obtain ⟨cs, e, hR⟩ := hR; exact ⟨cs, e, hR.below hb3 hR.lt⟩
    have hb03 := hb.trans (hb3.mono (by omega))
    have hbz := hb.size
    clear hA hR hb3
    refine wp_seq (wp_seq (lt_r3 a3 w3 _ _ _ h3 rfl fun a4 h4 => ?_))
    refine wp_block ?_
    refine wp_loop (fun a' wr => ∃ j : Nat, j ≤ k.len ∧ Sl 86 a' [(4, .int .i64 (j : Nat)), (3, .slice (some ⟨w1.heap.size, 0, none⟩) (k.len + 2) (k.len + 2)), (2, .pointer (some ⟨w.heap.size + 1, 0, none⟩)), (1, .pointer (some ⟨w.heap.size, 0, none⟩))] ∧
      Blk wr w.heap.size 28 (h.cells pa pc (some ad) k.len ic) ∧ (∃ cs, cs.size = 11 ∧ Blk wr (w.heap.size + 1) 28 cs) ∧ (∃ cu, Blk wr w1.heap.size 28 cu ∧ cu.size = (k.len + 2) * 11) ∧ HalfL wr k w1.heap.size j ∧ Below w.heap.size w wr)
      (fun a' _ => muTo k.len (slot a' 4)) ⟨0, by omega, h4, hA3, hR3, ⟨cu, hB3, hcur⟩, HalfL.zero (by omega), hb03⟩ ?_
    clear hA3 hR3 hB3 hcur hb03 hz3
    rintro a5 wr ⟨j, hj, h5, gA, gR, gC, gH, gb⟩
    rw [h5.look 4 rfl, muTo_int]
    unfold ltLoop
    obtain ⟨cu2, gC1, gC2⟩ := gC
    have hltG := gC1.lt
    have hltA := gA.lt
    have hltR : w.heap.size + 1 < wr.heap.size := by omega
    refine wp_seq (wp_seq ?_)
    by_cases hlt : j < k.len
    · refine lt_r4T a5 wr _ _ _ h5 rfl h pa pc (some ad) k.len ic w.heap.size gA hkl j hlt rfl rfl fun a6 h6 => ?_
      refine wpc_on (h6.look 18 rfl) ?_
      refine wp_seq (wp_block (wp_then ?_))
      obtain ⟨a, b, hget⟩ := Fo.get_lt k j hlt
      have hdr := hd.below gb (fun b _ h => h)
      obtain ⟨bb, oo, e, hS, qa, qc, ja, jc, hcs, hda⟩ := hdr.kids.get hget
      injection e with e
      subst e
      refine lt_r6 a6 wr _ _ _ h6.tl rfl h pa pc bb oo k.len ic w.heap.size gA hkl j hlt w1.heap.size cu2 gC1 (by omega) a qa qc ja b.len jc hcs (fun w' qa' qc' ja' jc' => LD w' wr.heap.size w'.heap.size a b qa' qc' ja' jc') (ih j a b hget wr _ qa qc ja jc hda) rfl rfl rfl fun a7 w6 qa' qc' ja' jc' h7 hL6 hb6 => ?_
      show Code.wp _ (r_lt 5) _ a7 _
      have hB6 := gC1.below hb6 hltG
      have hH := gH.step (qc := qc') (jc := jc') hltG hb6 hget hB6 (by omega) hL6
      have gA7 : Blk (w6.setCells w1.heap.size (j * 11) (a.cells qa' qc' ja' b.len jc').toList) w.heap.size 28 (h.cells pa pc (some ⟨bb, oo, none⟩) k.len ic) := (setCells_heap _ _ _ _ _ (by omega)).trans (gA.below hb6 hltA)
      have gR7 : ∃ cs, cs.size = 11 ∧ Blk (w6.setCells w1.heap.size (j * 11) (a.cells qa' qc' ja' b.len jc').toList) (w.heap.size + 1) 28 cs := by obtain ⟨cs, e, hR⟩ := gR; exact ⟨cs, e, (setCells_heap _ _ _ _ _ (by omega)).trans (hR.below hb6 hltR)⟩
      have gC7 : ∃ cu, Blk (w6.setCells w1.heap.size (j * 11) (a.cells qa' qc' ja' b.len jc').toList) w1.heap.size 28 cu ∧ cu.size = (k.len + 2) * 11 := by
        obtain ⟨cur', h1, h2⟩ := setCells_blk (a.cells qa' qc' ja' b.len jc').toList (j * 11) _ _ hB6
        exact ⟨cur', h1, by rw [h2, gC2]⟩
      have gb7 : Below w.heap.size w (w6.setCells w1.heap.size (j * 11) (a.cells qa' qc' ja' b.len jc').toList) := setCells_below _ _ _ (bl_trans gb hb6) (by omega)
      refine lt_r5 a7 _ _ _ _ h7.tl rfl j (by omega) (h7.look 4 rfl) fun a8 h8 => ⟨⟨j + 1, by omega, h8, gA7, gR7, gC7, hH, gb7⟩, ?_⟩
      rw [h8.look 4 rfl, muTo_int]
      omega
    · have hjk : j = k.len := by omega
      subst hjk
      refine lt_r4F a5 wr _ _ _ h5 rfl h pa pc (some ad) k.len ic w.heap.size gA hkl rfl rfl fun a6 h6 => ?_
      refine wpc_exit (h6.look 18 rfl) ?_
      refine then_exit (then_exit (in_block' ?_))
      show Code.wp _ (Code.seq (r_lt 7) (.seq (r_lt 8) (r_lt 9))) _ a6 wr
      have h6 := h6.tl.tl
      refine wp_seq (lt_r7 a6 wr _ _ _ h6 rfl h pa pc (some ad) k.len ic w.heap.size gA hkl w1.heap.size cu2 gC1 gC2 rfl rfl fun a7 h7 => ?_)
      have hB5 := gC1.set_ (k.len * 11) (.int .i64 (-71))
      have hA5 := gA.far (p := ⟨w1.heap.size, k.len * 11, none⟩) (by show w.heap.size ≠ w1.heap.size; omega) (.int .i64 (-71))
      have h715 : (wr.setCell ⟨w1.heap.size, k.len * 11, none⟩ (.int .i64 (-71))).cell? ⟨w1.heap.size, k.len * 11, none⟩ = some (.int .i64 (-71)) := by rw [hB5.cell, Array.getElem?_setIfInBounds_self_of_lt (by omega)]
      have hc5 : ∀ n v, n < k.len * 11 → wr.cell? ⟨w1.heap.size, n, none⟩ = some v → (wr.setCell ⟨w1.heap.size, k.len * 11, none⟩ (.int .i64 (-71))).cell? ⟨w1.heap.size, n, none⟩ = some v := fun n v hn hv =>
        (World.cell?_setCell_other _ _ _ _ (by intro e; injection e with _ e; omega)).trans hv
      have hk5 : ∀ x, x ≠ w1.heap.size → (wr.setCell ⟨w1.heap.size, k.len * 11, none⟩ (.int .i64 (-71))).heap[x]? = wr.heap[x]? := fun x hx => Below.heap_setCell _ _ _ _ hx
      have hz5 : (wr.setCell ⟨w1.heap.size, k.len * 11, none⟩ (.int .i64 (-71))).heap.size = wr.heap.size := by simp [World.setCell]
      have hb5 : Below w.heap.size w (wr.setCell ⟨w1.heap.size, k.len * 11, none⟩ (.int .i64 (-71))) := gb.setCell (p := ⟨w1.heap.size, k.len * 11, none⟩) (by show w.heap.size ≤ w1.heap.size; omega) _
      generalize wr.setCell ⟨w1.heap.size, k.len * 11, none⟩ (.int .i64 (-71)) = w5 at hB5 hA5 h715 hc5 hk5 hz5 hb5 ⊢
      refine wp_seq (lt_r8 a7 w5 _ _ _ h7 rfl h pa pc (some ad) k.len ic w.heap.size hA5 hkl w1.heap.size _ hB5 (by simpa using gC2) rfl rfl fun a8 h8 => ?_)
      have hB6 := hB5.set_ ((k.len + 1) * 11) (.int .i64 (-72))
      have hA6 := hA5.far (p := ⟨w1.heap.size, (k.len + 1) * 11, none⟩) (by show w.heap.size ≠ w1.heap.size; omega) (.int .i64 (-72))
      have h726 : (w5.setCell ⟨w1.heap.size, (k.len + 1) * 11, none⟩ (.int .i64 (-72))).cell? ⟨w1.heap.size, (k.len + 1) * 11, none⟩ = some (.int .i64 (-72)) := by rw [hB6.cell, Array.getElem?_setIfInBounds_self_of_lt (by simp; omega)]
      have h716 : (w5.setCell ⟨w1.heap.size, (k.len + 1) * 11, none⟩ (.int .i64 (-72))).cell? ⟨w1.heap.size, k.len * 11, none⟩ = some (.int .i64 (-71)) := (World.cell?_setCell_other _ _ _ _ (by intro e; injection e with _ e; omega)).trans h715
      have hc6 : ∀ n v, n < k.len * 11 → wr.cell? ⟨w1.heap.size, n, none⟩ = some v → (w5.setCell ⟨w1.heap.size, (k.len + 1) * 11, none⟩ (.int .i64 (-72))).cell? ⟨w1.heap.size, n, none⟩ = some v := fun n v hn hv =>
        (World.cell?_setCell_other _ _ _ _ (by intro e; injection e with _ e; omega)).trans (hc5 n v hn hv)
      have hk6 : ∀ x, x ≠ w1.heap.size → (w5.setCell ⟨w1.heap.size, (k.len + 1) * 11, none⟩ (.int .i64 (-72))).heap[x]? = w5.heap[x]? := fun x hx => Below.heap_setCell _ _ _ _ hx
      have hz6 : (w5.setCell ⟨w1.heap.size, (k.len + 1) * 11, none⟩ (.int .i64 (-72))).heap.size = w5.heap.size := by simp [World.setCell]
      have hb6 : Below w.heap.size w (w5.setCell ⟨w1.heap.size, (k.len + 1) * 11, none⟩ (.int .i64 (-72))) := hb5.setCell (p := ⟨w1.heap.size, (k.len + 1) * 11, none⟩) (by show w.heap.size ≤ w1.heap.size; omega) _
      generalize w5.setCell ⟨w1.heap.size, (k.len + 1) * 11, none⟩ (.int .i64 (-72)) = w6 at hB6 hA6 h726 h716 hc6 hk6 hz6 hb6 ⊢
      refine lt_r9 a8 w6 _ _ _ (h8.none.add (h8.look 1 rfl) |>.add (h8.look 2 rfl)) rfl h pa pc (some ad) k.len ic w.heap.size hA6 hkl w1.heap.size rfl (h8.look 3 rfl) fun a9 h9 => ?_
      have hA7 : Blk (w6.setCell ⟨w.heap.size, 10, none⟩ (.slice (some ⟨w1.heap.size, 0, none⟩) k.len (k.len + 2))) w.heap.size 28 (h.cells pa pc (some ⟨w1.heap.size, 0, none⟩) k.len (k.len + 2)) := hA6.set_ 10 _
      have hk7 : ∀ x, x ≠ w.heap.size → (w6.setCell ⟨w.heap.size, 10, none⟩ (.slice (some ⟨w1.heap.size, 0, none⟩) k.len (k.len + 2))).heap[x]? = w6.heap[x]? := fun x hx => Below.heap_setCell _ _ _ _ hx
      have hz7 : (w6.setCell ⟨w.heap.size, 10, none⟩ (.slice (some ⟨w1.heap.size, 0, none⟩) k.len (k.len + 2))).heap.size = w6.heap.size := by simp [World.setCell]
      have hb7 : Below w.heap.size w (w6.setCell ⟨w.heap.size, 10, none⟩ (.slice (some ⟨w1.heap.size, 0, none⟩) k.len (k.len + 2))) := hb6.setCell (p := ⟨w.heap.size, 10, none⟩) (Nat.le_refl _) _
      generalize w6.setCell ⟨w.heap.size, 10, none⟩ (.slice (some ⟨w1.heap.size, 0, none⟩) k.len (k.len + 2)) = w7 at hA7 hk7 hz7 hb7 ⊢
      have hkc : w7.heap[w1.heap.size]? = w6.heap[w1.heap.size]? := hk7 _ (by omega)
      have hk47 : ∀ x, x ≠ w1.heap.size → x ≠ w.heap.size → w7.heap[x]? = wr.heap[x]? := fun x h1 h2 => (hk7 x h2).trans ((hk6 x h1).trans (hk5 x h1))
      have hR7 : ∃ cs, cs.size = 11 ∧ Blk w7 (w.heap.size + 1) 28 cs := by obtain ⟨cs, e, hR⟩ := gR; exact ⟨cs, e, (hk47 _ (by omega) (by omega)).trans hR⟩
      have hrow : LF w7 (w1.heap.size + 1) wr.heap.size w1.heap.size 0 k := gH.row (fun x h1 _ => hk47 x (by omega) (by omega)) (fun n v hn hv => (World.cell?_of_block (w := w6) hkc).trans (hc6 n v hn hv))
      have hd7 := hd.below hb7 (fun b _ h => h)
      show Code.wp _ ltRest _ a9 w7
      refine lt_rest h k ho w w7 _ a9 pa pc (some ⟨w1.heap.size, 0, none⟩) (k.len + 2) hd7.path hd.pcLe hd.pcMax h9 hA7 hR7 hb7 ⟨by omega, by omega, .inr ⟨w1.heap.size, wr.heap.size, rfl, by omega, hltG, by omega, ⟨_, _, hkc.trans hB6⟩, Nat.le_refl _, (World.cell?_of_block (w := w6) hkc).trans h716, (World.cell?_of_block (w := w6) hkc).trans h726, hrow⟩⟩
theorem lent_all : ∀ (f : Fo), f.ok → ∀ (i : Nat) (a : Hd) (b : Fo), f.get i = some (a, b) → LentC a b
  | .nil, _, i, a, b, e => by simp [Fo.get] at e
  | .cons h k r, o, 0, a, b, e => by
    simp only [Fo.get, Option.some.injEq, Prod.mk.injEq] at e
    obtain ⟨rfl, rfl⟩ := e
    exact lent_one _ _ o.1 o.2.2.2 (fun i c d e => lent_all k o.2.1 i c d e)
  | .cons h k r, o, i + 1, a, b, e => lent_all r o.2.2.1 i a b e
theorem lent_any (h : Hd) (k : Fo) (ho : h.ok) (hk : k.ok) (hl : k.len ≤ 1034834473170) : LentC h k := lent_one h k ho hl (lent_all k hk)
end Go.Proofs.YthdmmhiifkebeaaDoor
