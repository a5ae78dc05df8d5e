/-
  Words for the making of data: a datum that is being filled in a block of its own; one number appended to its path. Written by an AI agent.
-/
import Derived.Test.YthdmmhiifkebeaaDoorMk3
import Derived.Test.YthdmmhiifkebeaaDoorQE
import Derived.Test.YthdmmhiifkebeaaDoorVal7
import Derived.Test.YthdmmhiifkebeaaDoorLaw1
import Derived.Maps.AppendAt
namespace Go.Proofs.YthdmmhiifkebeaaDoor
open Go.RowKit Go.Sort

theorem grown_far {w w1 : World} {g D o : Nat} (v : Value) (h : w.grownBy w1 (some g)) (hD : w.heap.size ≤ D) : w.grownBy (w1.setCell ⟨D, o, none⟩ v) (some g) :=
  ⟨h.os, h.tape, h.output, by simpa [World.setCell] using h.size, fun k hk hne => (Below.heap_setCell _ _ _ _ (by show k ≠ D; omega)).trans (h.block k hk hne)⟩
theorem grown_self (w : World) (g : Nat) : w.grownBy w (some g) := ⟨rfl, rfl, rfl, Nat.le_refl _, fun _ _ _ => rfl⟩
theorem grown_of_none {w w1 : World} {g : Nat} (h : w.grownBy w1 none) : w.grownBy w1 (some g) := ⟨h.os, h.tape, h.output, h.size, fun k hk _ => h.block k hk (by simp)⟩
/-- The row that append has written to is not the Maker's. -/
theorem Mk.grown_own {w w1 : World} {g B : Nat} {a : Int} {v : Value} (hm : Mk w g B a) (h : w.grownBy w1 v.ownBlock) (hv : ∀ x, v.ownBlock = some x → g < x) : Mk w1 g B a := by
  obtain ⟨ra, l, rc, h1, h2, h3, h4, h5, h6⟩ := hm
  refine ⟨ra, l, rc, h1.grown h (fun e => ?_), h2.keep (fun b hb hlt => h.block b hlt (fun e => ?_)) (fun _ h _ => h), h3, h4, h5, h6⟩
  · have := hv g e.symm; omega
  · have := hv b e.symm; have hb : b < B := hb; omega
theorem grown_own {w w1 w2 : World} {g : Nat} {v : Value} (h0 : w.grownBy w1 (some g)) (h : w1.grownBy w2 v.ownBlock) (hv : ∀ x, v.ownBlock = some x → w.heap.size ≤ x) : w.grownBy w2 (some g) :=
  ⟨h.os.trans h0.os, h.tape.trans h0.tape, h.output.trans h0.output, Nat.le_trans h0.size h.size, fun k hk hne => (h.block k (Nat.lt_of_lt_of_le hk h0.size) (fun e => by have := hv k e.symm; omega)).trans (h0.block k hk hne)⟩
theorem run_build1 (c : Int) (w : World) : (Instr.buildSlice 23 1 #[(0, .int .i64 c)]).run Tryd.prog w = .ok (.slice (some ⟨w.heap.size, 0, none⟩) 1 1) (w.alloc (.cells #[.int .i64 c] 3)) := by kernel_rfl
theorem wpList_build1 (w : World) {ops : Array Oper} {rest : List Oper} {o : Oper} {s : Act} {Q : Exit → Act → World → Prop} (hg : o.guard = none) (x : Operand) (hop : o.op = Op.buildSlice 23 1 #[(0, x)]) (c : Int) (hx : s.eval x = .int .i64 c)
    (hK : wpList Tryd.prog ops Q rest (s.put o.dst (.slice (some ⟨w.heap.size, 0, none⟩) 1 1)) (w.alloc (.cells #[.int .i64 c] 3))) : wpList Tryd.prog ops Q (o :: rest) s w := by
  refine wpList_plain hg fun K hK' => ?_
  unfold Oper.wp
  have hr := run_build1 c w
  simp [execOp, hop, hx, hr, Result.andThen]
  exact hK' _ _ hK

theorem wpList_bs {P : Program} (w : World) {ops : Array Oper} {rest : List Oper} {o : Oper} {s : Act} {Q : Exit → Act → World → Prop} (hg : o.guard = none) (t : TypeId) (n : Nat) (ps : Array (Nat × Operand)) (hop : o.op = Op.buildSlice t n ps) (cells : Array Value) (e : TypeId)
    (hr : ∀ W, (Instr.buildSlice t n (ps.map fun (i, x) => (i, s.eval x))).run P W = .ok (.slice (some ⟨W.heap.size, 0, none⟩) n n) (W.alloc (.cells cells e)))
    (hK : ∀ W, W = w.alloc (.cells cells e) → wpList P ops Q rest (s.put o.dst (.slice (some ⟨w.heap.size, 0, none⟩) n n)) W) : wpList P ops Q (o :: rest) s w := by
  refine wpList_plain hg fun K hK' => ?_
  unfold Oper.wp
  simp only [execOp, hop]
  have h := hr w
  simp only [Sem.run_bind, Sem.run_pure, Result.andThen, h]
  exact hK' _ _ (hK _ rfl)

/-- A datum h without items is being filled at block D, its path p being the call's own; R waits for it. -/
structure SD (w wx : World) (g B D : Nat) (a : Int) (h : Hd) (p : Value) (pa : Option Addr) (pc : Nat) : Prop where
  pis : p = .slice pa h.path.length pc
  dat : Blk wx D 28 (h.cells pa pc none 0 0)
  own : wx.ownsRow (w.heap.size + 1) 3 1 p h.path.length (h.path.map (Value.int .i64))
  far : ∀ x, p.ownBlock = some x → D < x
  maker : Mk wx g B a
  res : ∃ cs, cs.size = 11 ∧ Blk wx w.heap.size 28 cs
  grown : w.grownBy wx (some g)
  gw : g < w.heap.size
  dw : w.heap.size < D
theorem owns_keep {w w' : World} {base : Nat} {e : TypeId} {size : Nat} {v : Value} {n : Nat} {xs : List Value} (h : w.ownsRow base e size v n xs) (hk : ∀ x, v.ownBlock = some x → w'.heap[x]? = w.heap[x]?) : w'.ownsRow base e size v n xs := by
  refine ⟨h.1, ?_⟩
  rcases h.2 with h2 | ⟨x, cap, cur, rfl, h3, h4, h5⟩
  · exact .inl h2
  · exact .inr ⟨x, cap, cur, rfl, h3, (hk x rfl).trans h4, h5⟩
theorem own_lt {w : World} {base : Nat} {e : TypeId} {size : Nat} {v : Value} {n : Nat} {xs : List Value} (h : w.ownsRow base e size v n xs) : ∀ x, v.ownBlock = some x → x < w.heap.size := by
  intro x hx
  rcases h.2 with ⟨rfl, _⟩ | ⟨y, cap, cur, rfl, h3, h4, h5⟩
  · simp [Value.ownBlock] at hx
  · simp [Value.ownBlock] at hx
    subst hx
    rcases Nat.lt_or_ge y w.heap.size with h | h
    · exact h
    · rw [Array.getElem?_eq_none h] at h4; cases h4
section
variable {w wx w2 : World} {g B D : Nat} {a a2 : Int} {h : Hd} {p : Value} {pa : Option Addr} {pc : Nat}
/-- Behind a call that has moved the Maker on. -/
theorem SD.step (s : SD w wx g B D a h p pa pc) (hm : Mk w2 g B a2) (hg : wx.grownBy w2 (some g)) : SD w w2 g B D a2 h p pa pc := by
  have hgw := s.gw
  have hdw := s.dw
  refine ⟨s.pis, s.dat.grown hg (by simp; omega), owns_keep s.own (fun x hx => hg.block x (own_lt s.own x hx) (by have := s.far x hx; simp; omega)), s.far, hm, ?_, grown_trans s.grown hg, hgw, hdw⟩
  obtain ⟨cs, h1, h2⟩ := s.res
  exact ⟨cs, h1, h2.grown hg (by simp; omega)⟩
/-- Behind an allocation. -/
theorem SD.alloc (s : SD w wx g B D a h p pa pc) (o : Obj) : SD w (wx.alloc o) g B D a h p pa pc :=
  s.step (s.maker.below (bl_alloc (Below.refl _ _) o)) (grown_alloc (grown_self wx g) o)
/-- A field has been written. -/
theorem SD.set (s : SD w wx g B D a h p pa pc) (o : Nat) (v : Value) {h' : Hd} (e : (h.cells pa pc none 0 0).setIfInBounds o v = h'.cells pa pc none 0 0) (hp : h'.path = h.path) : SD w (wx.setCell ⟨D, o, none⟩ v) g B D a h' p pa pc := by
  have hgw := s.gw
  have hdw := s.dw
  refine ⟨by rw [hp]; exact s.pis, by rw [← e]; exact s.dat.set_ o v, by rw [hp]; exact owns_keep s.own (fun x hx => Below.heap_setCell _ _ _ _ (by have := s.far x hx; show x ≠ D; omega)), s.far, s.maker.far (by show g < D; omega) v, ?_, grown_far v s.grown (by omega), hgw, hdw⟩
  obtain ⟨cs, h1, h2⟩ := s.res
  exact ⟨cs, h1, h2.far (by show w.heap.size ≠ D; omega) v⟩
theorem SD.path (s : SD w wx g B D a h p pa pc) : PathAt wx (fun b => w.heap.size < b) pa h.path ∧ h.path.length ≤ pc ∧ pc ≤ 9223372036854775807 := by
  obtain ⟨qa, qc, e, h1, h2, h3⟩ := own_path s.own
  rw [s.pis] at e
  injection e with e1 _ e3
  subst e1 e3
  exact ⟨h1.keep (fun _ _ _ => rfl) (fun b hb _ => hb), h2, h3⟩
end
def bH (c : Int) (ty : ByteArray) : Hd := ⟨c, ty, 0, 0, emp, 0, 0, 0, 0, []⟩
theorem headB_mk {h : Hd} (hn : namedB h = true) (k0 : 0 ≤ h.kind) (k9 : h.kind ≤ 9) (hl : leadsB h.kind h.obj h.frm h.len h.cap h.path = true) (h1 : h.kind = 2 ∨ h.n = 0 ∨ (h.kind = 1 ∧ h.n = 1)) (hf : h.f = 0 ∨ (h.kind = 3 ∧ (h.f = nanNo ∨ nanB h.f.toNat = false)))
    (hs : h.s.size = 0 ∨ (h.kind = 4 ∧ h.s.size ≤ 65536)) : headB h 0 = true := by
  unfold headB okB ok2B ok1B
  rw [hn, hl, decide_eq_true h1, decide_eq_true (show 0 ≤ h.kind ∧ h.kind ≤ 9 from ⟨k0, k9⟩)]
  have e1 : (decide (h.f = 0) || decide (h.kind = 3) && !(decide (h.f ≠ nanNo) && nanB h.f.toNat)) = true := by
    rcases hf with hf | ⟨hk, hf | hf⟩
    · rw [decide_eq_true hf]; rfl
    · rw [decide_eq_true hk, decide_eq_false (show ¬ h.f ≠ nanNo from fun e => e hf)]; simp
    · rw [decide_eq_true hk, hf]; simp
  have e2 : (decide (h.s.size = 0) || decide (h.kind = 4 ∧ h.s.size ≤ 65536)) = true := by
    rcases hs with hs | hs
    · rw [decide_eq_true hs]; rfl
    · rw [decide_eq_true hs]; simp
  rw [e1, e2]
  simp
def SimpPost (g B : Nat) (a : Int) (w : World) (e : Ending) (w' : World) : Prop :=
  ∃ h pa pc, e = .returned (.agg (h.cells pa pc none 0 0)) ∧ DatAt w' (fun b => w.heap.size ≤ b) h .nil pa pc none 0 ∧ h.ok ∧ headB h 0 = true ∧ (∃ a', a ≤ a' ∧ a' ≤ a + 9 ∧ Mk w' g B a') ∧ w.grownBy w' (some g)
/-- Handed back: the datum is copied to R. -/
theorem SD.back {w wx : World} {g B D : Nat} {a a0 : Int} {h : Hd} {p : Value} {pa : Option Addr} {pc : Nat} (s : SD w wx g B D a h p pa pc) (ho : h.ok) (hh : headB h 0 = true) (h1 : a0 ≤ a) (h2 : a ≤ a0 + 9) :
    SimpPost g B a0 w (.returned (.agg (h.cells pa pc none 0 0))) (wx.setCells w.heap.size 0 (h.cells pa pc none 0 0).toList) := by
  obtain ⟨p1, p2, p3⟩ := s.path
  refine ⟨h, pa, pc, rfl, ⟨p1.keep (fun b hb _ => setCells_heap _ _ _ _ _ (by have : w.heap.size < b := hb; omega)) (fun b hb _ => Nat.le_of_lt hb), p2, p3, .inl rfl, Nat.le_refl _, by omega⟩, ho, hh, ⟨a, h1, h2, Mk.cells s.gw _ _ _ s.maker⟩, grown_cells _ _ s.grown (Nat.le_refl _)⟩
/-- A number has been appended to the path. -/
theorem SD.push {w w7 w8 : World} {g B D : Nat} {a x : Int} {c n f obj frm len cap : Int} {ty st : ByteArray} {l : List Int} {p v : Value} {pa : Option Addr} {pc : Nat} (s : SD w w7 g B D a ⟨c, ty, n, f, st, obj, frm, len, cap, l⟩ p pa pc)
    (hown : w8.ownsRow (w.heap.size + 1) 3 1 v (l.length + 1) (l.map (Value.int .i64) ++ [.int .i64 x])) (hg : w7.grownBy w8 p.ownBlock) (hb : v.ownBlock = p.ownBlock ∨ v.ownBlock = some w7.heap.size) :
    Blk w8 D 28 (Hd.cells ⟨c, ty, n, f, st, obj, frm, len, cap, l⟩ pa pc none 0 0) ∧ ∃ pa' pc', v = .slice pa' (l ++ [x]).length pc' ∧ SD w (w8.setCell ⟨D, 9, none⟩ v) g B D a ⟨c, ty, n, f, st, obj, frm, len, cap, l ++ [x]⟩ v pa' pc' := by
  have hgw := s.gw
  have hdw := s.dw
  have hne : ∀ y, y < w7.heap.size → y ≤ D → some y ≠ p.ownBlock := fun y _ hle e => by have := s.far y e.symm; omega
  have hdl := s.dat.lt
  have hdat : Blk w8 D 28 (Hd.cells ⟨c, ty, n, f, st, obj, frm, len, cap, l⟩ pa pc none 0 0) := s.dat.grown hg (hne D hdl (Nat.le_refl _))
  have hxs : l.map (Value.int .i64) ++ [.int .i64 x] = (l ++ [x]).map (Value.int .i64) := by simp
  have hln : l.length + 1 = (l ++ [x]).length := by simp
  rw [hxs, hln] at hown
  have hfar : ∀ y, v.ownBlock = some y → D < y := fun y hy => by
    rcases hb with h | h
    · rw [h] at hy; exact s.far y hy
    · rw [h] at hy; injection hy with hy; omega
  obtain ⟨pa', pc', e, _⟩ := own_path hown
  refine ⟨hdat, pa', pc', e, ⟨e, ?_, owns_keep hown (fun y hy => Below.heap_setCell _ _ _ _ (by have := hfar y hy; show y ≠ D; omega)), hfar, (s.maker.grown_own hg (fun y hy => by have := s.far y hy; omega)).far (by show g < D; omega) v, ?_, grown_far v (grown_own s.grown hg (fun y hy => by have := s.far y hy; omega)) (by omega), hgw, hdw⟩⟩
  · have := hdat.set_ 9 v
    rw [e] at this ⊢
    exact this
  · obtain ⟨cs, h1, h2⟩ := s.res
    exact ⟨cs, h1, (h2.grown hg (hne _ h2.lt (by omega))).far (by show w.heap.size ≠ D; omega) v⟩
end Go.Proofs.YthdmmhiifkebeaaDoor
