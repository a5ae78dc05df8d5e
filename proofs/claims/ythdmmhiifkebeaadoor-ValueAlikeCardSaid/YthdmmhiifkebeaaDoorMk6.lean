/-
  Contract of the law's own (*Maker).made: a right datum: simple, or a struct of some. Written by an AI agent.
-/
import Derived.Test.YthdmmhiifkebeaaDoorMk5
import Derived.Test.YthdmmhiifkebeaaDoorCp
namespace Go.Proofs.YthdmmhiifkebeaaDoor
open Go.RowKit Go.Sort

/-- So many nodes at most, in the items of a datum that is made m steps above the deepest; so many numbers are read. -/
def cM : Nat → Nat
  | 0 => 0
  | m + 1 => 3 * (1 + cM m)
def aM : Nat → Int
  | 0 => 10
  | m + 1 => 12 + 3 * aM m
theorem aM_pos (m : Nat) : 10 ≤ aM m := by
  induction m with
  | zero => exact Int.le_refl _
  | succ m ih => unfold aM; omega
def MadePost (m g B : Nat) (a : Int) (w : World) (e : Ending) (w' : World) : Prop :=
  ∃ h k pa pc ia ic, e = .returned (.agg (h.cells pa pc ia k.len ic)) ∧ DatAt w' (fun b => w.heap.size ≤ b) h k pa pc ia ic ∧ h.ok ∧ k.ok ∧ k.len ≤ 3 ∧ headB h k.len = true ∧ okF k = true ∧ cntF k ≤ cM m ∧ (∃ a', a ≤ a' ∧ a' ≤ a + aM m ∧ Mk w' g B a') ∧ w.grownBy w' (some g)
theorem made_of_simple {m g B : Nat} {a : Int} {w w' : World} {e : Ending} (h : SimpPost g B a w e w') : MadePost m g B a w e w' := by
  obtain ⟨h, pa, pc, e1, h2, h3, h4, ⟨a', a1, a2, a3⟩, h5⟩ := h
  exact ⟨h, .nil, pa, pc, none, 0, e1, h2, h3, trivial, by simp [Fo.len], h4, rfl, by simp [cntF], ⟨a', a1, by have := aM_pos m; omega, a3⟩, h5⟩
/-- One more at the end of a row of data. -/
def Fo.snoc : Fo → Hd → Fo → Fo
  | .nil, h, k => .cons h k .nil
  | .cons h' k' r, h, k => .cons h' k' (r.snoc h k)
theorem snoc_len : ∀ (f : Fo) (h : Hd) (k : Fo), (f.snoc h k).len = f.len + 1
  | .nil, _, _ => rfl
  | .cons _ _ r, h, k => by simp [Fo.snoc, Fo.len, snoc_len r h k]
theorem snoc_ok : ∀ (f : Fo) (h : Hd) (k : Fo), f.ok → h.ok → k.ok → k.len ≤ 1034834473170 → (f.snoc h k).ok
  | .nil, _, _, _, h1, h2, h3 => ⟨h1, h2, trivial, h3⟩
  | .cons _ _ r, h, k, o, h1, h2, h3 => ⟨o.1, o.2.1, snoc_ok r h k o.2.2.1 h1 h2 h3, o.2.2.2⟩
theorem snoc_okF : ∀ (f : Fo) (h : Hd) (k : Fo), okF f = true → headB h k.len = true → okF k = true → okF (f.snoc h k) = true
  | .nil, _, _, _, h1, h2 => by simp [Fo.snoc, okF, h1, h2]
  | .cons _ _ r, h, k, o, h1, h2 => by
    simp only [Fo.snoc, okF, Bool.and_eq_true] at o ⊢
    exact ⟨o.1, snoc_okF r h k o.2 h1 h2⟩
theorem snoc_cnt : ∀ (f : Fo) (h : Hd) (k : Fo), cntF (f.snoc h k) = cntF f + 1 + cntF k
  | .nil, h, k => by show 1 + cntF k + 0 = 0 + 1 + cntF k; omega
  | .cons _ _ r, h, k => by simp only [Fo.snoc, cntF, snoc_cnt r h k]; omega
/-- The cells of a row of data, and where its elements lead. -/
def RowOf (w : World) (S : Nat → Prop) : Fo → List Value → Prop
  | .nil, xs => xs = []
  | .cons h k r, xs => ∃ pa pc ia ic ys, xs = (h.cells pa pc ia k.len ic).toList ++ ys ∧ DatAt w S h k pa pc ia ic ∧ RowOf w S r ys
theorem RowOf.keep {w w' : World} {S S' : Nat → Prop} (hk : ∀ b, S b → b < w.heap.size → w'.heap[b]? = w.heap[b]?) (hS : ∀ b, S b → b < w.heap.size → S' b) : ∀ (f : Fo) (xs : List Value), RowOf w S f xs → RowOf w' S' f xs
  | .nil, _, h => h
  | .cons _ _ r, _, ⟨pa, pc, ia, ic, ys, e, hd, hr⟩ => ⟨pa, pc, ia, ic, ys, e, hd.keep hk hS, RowOf.keep hk hS r ys hr⟩
theorem RowOf.snoc {w : World} {S : Nat → Prop} {h : Hd} {k : Fo} {pa : Option Addr} {pc : Nat} {ia : Option Addr} {ic : Nat} (hd : DatAt w S h k pa pc ia ic) : ∀ (f : Fo) (xs : List Value), RowOf w S f xs → RowOf w S (f.snoc h k) (xs ++ (h.cells pa pc ia k.len ic).toList)
  | .nil, xs, e => by
    have e : xs = [] := e
    subst e
    exact ⟨pa, pc, ia, ic, [], by simp, hd, rfl⟩
  | .cons _ _ r, _, ⟨qa, qc, ja, jc, ys, e, hq, hr⟩ => ⟨qa, qc, ja, jc, _, by rw [e, List.append_assoc], hq, RowOf.snoc hd r ys hr⟩
theorem cells_len (h : Hd) (pa : Option Addr) (pc : Nat) (ia : Option Addr) (il ic : Nat) : (h.cells pa pc ia il ic).toList.length = 11 := by simp [Hd.cells]
theorem RowOf.len {w : World} {S : Nat → Prop} : ∀ (f : Fo) (xs : List Value), RowOf w S f xs → xs.length = f.len * 11
  | .nil, _, e => by rw [show _ = [] from e]; rfl
  | .cons _ _ r, _, ⟨_, _, _, _, ys, e, _, hr⟩ => by rw [e, List.length_append, cells_len, RowOf.len r ys hr, Fo.len]; omega
theorem RowOf.fo {w : World} {S : Nat → Prop} : ∀ (f : Fo) (xs : List Value) (b o : Nat), RowOf w S f xs → (∀ (j : Nat) (u : Value), xs[j]? = some u → w.cell? ⟨b, o + j, none⟩ = some u) → FoAt w S b o f
  | .nil, _, _, _, _, _ => trivial
  | .cons h k r, xs, b, o, ⟨pa, pc, ia, ic, ys, e, hd, hr⟩, hc => by
    subst e
    refine ⟨⟨pa, pc, ia, ic, fun j v hv => ?_, hd.path, hd.pcLe, hd.pcMax, hd.icLe, hd.icMax, hd.kids⟩, RowOf.fo r ys b (o + 11) hr fun j u hu => ?_⟩
    · refine hc j v ?_
      rw [List.getElem?_append_left]
      · simpa using hv
      · rw [cells_len]
        rcases Nat.lt_or_ge j 11 with h1 | h1
        · exact h1
        · rw [Array.getElem?_eq_none (by simpa [Hd.cells] using h1)] at hv; cases hv
    · rw [Nat.add_assoc]
      refine hc (11 + j) u ?_
      rw [List.getElem?_append_right (by rw [cells_len]; omega), cells_len, show 11 + j - 11 = j by omega]
      exact hu
theorem run_buildD1 (h : Hd) (pa : Option Addr) (pc : Nat) (ia : Option Addr) (il ic : Nat) (w : World) : (Instr.buildSlice 26 1 #[(0, .agg (h.cells pa pc ia il ic))]).run Tryd.prog w = .ok (.slice (some ⟨w.heap.size, 0, none⟩) 1 1) (w.alloc (.cells (h.cells pa pc ia il ic) 28)) := by kernel_rfl
theorem wpList_buildD1 (w : World) {ops : Array Oper} {rest : List Oper} {o : Oper} {s : Act} {Q : Exit → Act → World → Prop} (hg : o.guard = none) (x : Operand) (hop : o.op = Op.buildSlice 26 1 #[(0, x)]) (h : Hd) (pa : Option Addr) (pc : Nat) (ia : Option Addr) (il ic : Nat) (hx : s.eval x = .agg (h.cells pa pc ia il ic))
    (hK : wpList Tryd.prog ops Q rest (s.put o.dst (.slice (some ⟨w.heap.size, 0, none⟩) 1 1)) (w.alloc (.cells (h.cells pa pc ia il ic) 28))) : wpList Tryd.prog ops Q (o :: rest) s w := by
  refine wpList_plain hg fun K hK' => ?_
  unfold Oper.wp
  have hr := run_buildD1 h pa pc ia il ic w
  simp [execOp, hop, hx, hr, Result.andThen]
  exact hK' _ _ hK

def sH (ty : ByteArray) : Hd := ⟨8, ty, 0, 0, emp, 0, 0, 0, 0, []⟩
/-- A struct is being filled at block D. -/
structure KD (w wx : World) (g B D : Nat) (a : Int) (ty : ByteArray) (f : Fo) (v : Value) (ia : Option Addr) (ic : Nat) : Prop where
  vis : v = .slice ia f.len ic
  dat : Blk wx D 28 ((sH ty).cells none 0 ia f.len ic)
  own : ∃ xs, wx.ownsRow (w.heap.size + 1) 28 11 v f.len xs ∧ RowOf wx (fun b => D < b ∧ some b ≠ v.ownBlock) f xs
  far : ∀ x, v.ownBlock = some x → D < x
  maker : Mk wx g B a
  res : ∃ cs, cs.size = 11 ∧ Blk wx w.heap.size 28 cs
  grown : w.grownBy wx (some g)
  gw : g < w.heap.size
  dw : w.heap.size < D
section
variable {w wx w2 : World} {g B D : Nat} {a a2 : Int} {ty : ByteArray} {f : Fo} {v : Value} {ia : Option Addr} {ic : Nat}
theorem KD.step (s : KD w wx g B D a ty f v ia ic) (hm : Mk w2 g B a2) (hg : wx.grownBy w2 (some g)) : KD w w2 g B D a2 ty f v ia ic := by
  have hgw := s.gw
  have hdw := s.dw
  refine ⟨s.vis, s.dat.grown hg (by simp; omega), ?_, s.far, hm, ?_, grown_trans s.grown hg, hgw, hdw⟩
  · obtain ⟨xs, h1, h2⟩ := s.own
    exact ⟨xs, owns_keep h1 (fun x hx => hg.block x (own_lt h1 x hx) (by have := s.far x hx; simp; omega)), h2.keep (fun b hb hlt => hg.block b hlt (by have := hb.1; simp; omega)) (fun _ h _ => h) f xs⟩
  · obtain ⟨cs, h1, h2⟩ := s.res
    exact ⟨cs, h1, h2.grown hg (by simp; omega)⟩
theorem KD.alloc (s : KD w wx g B D a ty f v ia ic) (o : Obj) : KD w (wx.alloc o) g B D a ty f v ia ic :=
  s.step (s.maker.below (bl_alloc (Below.refl _ _) o)) (grown_alloc (grown_self wx g) o)
/-- An element has been appended. -/
theorem KD.push {w7 w8 : World} {u : Value} {xs : List Value} {h : Hd} {k : Fo} {pa : Option Addr} {pc : Nat} {ja : Option Addr} {jc : Nat} (s : KD w w7 g B D a ty f v ia ic) (hdk : DatAt w7 (fun b => D < b ∧ b < w7.heap.size ∧ some b ≠ v.ownBlock) h k pa pc ja jc)
    (h2 : RowOf w7 (fun b => D < b ∧ some b ≠ v.ownBlock) f xs) (h3 : w8.ownsRow (w.heap.size + 1) 28 11 u (f.len + 1) (xs ++ (h.cells pa pc ja k.len jc).toList)) (hg : w7.grownBy w8 v.ownBlock) (hb : u.ownBlock = v.ownBlock ∨ u.ownBlock = some w7.heap.size) :
    Blk w8 D 28 ((sH ty).cells none 0 ia f.len ic) ∧ ∃ ia' ic', u = .slice ia' (f.len + 1) ic' ∧ KD w (w8.setCell ⟨D, 10, none⟩ u) g B D a ty (f.snoc h k) u ia' ic' := by
  have hgw := s.gw
  have hdw := s.dw
  have hne : ∀ y, y ≤ D → some y ≠ v.ownBlock := fun y hle e => by have := s.far y e.symm; omega
  have hdl := s.dat.lt
  have hdat := s.dat.grown hg (hne D (Nat.le_refl _))
  have hfar : ∀ y, u.ownBlock = some y → D < y := fun y hy => by
    rcases hb with h | h
    · rw [h] at hy; exact s.far y hy
    · rw [h] at hy; injection hy with hy; omega
  have hold : ∀ b, b < w7.heap.size → some b ≠ v.ownBlock → some b ≠ u.ownBlock := fun b hlt hn e => by
    rcases hb with h | h
    · rw [h] at e; exact hn e
    · rw [h] at e; injection e with e; omega
  have hrow : RowOf w8 (fun b => D < b ∧ some b ≠ u.ownBlock) (f.snoc h k) (xs ++ (h.cells pa pc ja k.len jc).toList) :=
    RowOf.snoc (hdk.keep (fun b hb _ => hg.block b hb.2.1 hb.2.2) (fun b hb _ => ⟨hb.1, hold b hb.2.1 hb.2.2⟩)) f xs (h2.keep (fun b hb hlt => hg.block b hlt hb.2) (fun b hb hlt => ⟨hb.1, hold b hlt hb.2⟩) f xs)
  obtain ⟨ia', ic', e⟩ : ∃ ia' ic', u = .slice ia' (f.len + 1) ic' := by
    rcases h3.2 with ⟨_, h0⟩ | ⟨x, cap, cur, e, _⟩
    · omega
    · exact ⟨_, _, e⟩
  refine ⟨hdat, ia', ic', e, ⟨by rw [snoc_len]; exact e, ?_, ⟨_, by rw [snoc_len]; exact owns_keep h3 (fun y hy => Below.heap_setCell _ _ _ _ (by have := hfar y hy; show y ≠ D; omega)), hrow.keep (fun b hb _ => Below.heap_setCell _ _ _ _ (by have := hb.1; show b ≠ D; omega)) (fun _ h _ => h) _ _⟩, hfar,
    (s.maker.grown_own hg (fun y hy => by have := s.far y hy; omega)).far (by show g < D; omega) u, ?_, grown_far u (grown_own s.grown hg (fun y hy => by have := s.far y hy; omega)) (by omega), hgw, hdw⟩⟩
  · have := hdat.set_ 10 u
    rw [snoc_len]
    rw [e] at this ⊢
    exact this
  · obtain ⟨cs, h1, h2⟩ := s.res
    exact ⟨cs, h1, (h2.grown hg (hne _ (by omega))).far (by show w.heap.size ≠ D; omega) u⟩
/-- Handed back: the struct is copied to R. -/
theorem KD.back {m : Nat} {a0 : Int} (s : KD w wx g B D a ty f v ia ic) (ho : f.ok) (hh : headB (sH ty) f.len = true) (hs : (sH ty).ok) (hl : f.len ≤ 3) (hk : okF f = true) (hc : cntF f ≤ cM m) (h1 : a0 ≤ a) (h2 : a ≤ a0 + aM m) :
    MadePost m g B a0 w (.returned (.agg ((sH ty).cells none 0 ia f.len ic))) (wx.setCells w.heap.size 0 ((sH ty).cells none 0 ia f.len ic).toList) := by
  obtain ⟨xs, o1, o2⟩ := s.own
  have hdw := s.dw
  have hkp : ∀ b, (D < b) → (wx.setCells w.heap.size 0 ((sH ty).cells none 0 ia f.len ic).toList).heap[b]? = wx.heap[b]? := fun b hb => setCells_heap _ _ _ _ _ (by omega)
  have hil : f.len ≤ ic ∧ ic ≤ 9223372036854775807 := by
    have hv := s.vis
    rcases o1.2 with ⟨e, h0⟩ | ⟨x, cap, cur, e, _, _, hc, hm, _⟩
    · rw [hv] at e; injection e with _ e2 e3; omega
    · rw [hv] at e; injection e with _ _ e3; unfold maxLen at hm; omega
  refine ⟨sH ty, f, none, 0, ia, ic, rfl, ⟨.inl rfl, by simp [sH], by omega, ?_, hil.1, hil.2⟩, hs, ho, hl, hh, hk, hc, ⟨a, h1, h2, Mk.cells s.gw _ _ _ s.maker⟩, grown_cells _ _ s.grown (Nat.le_refl _)⟩
  have hv := s.vis
  rcases o1.2 with ⟨_, h0⟩ | ⟨x, cap, cur, e, hx, hh2, hc2, hm, hz, ht⟩
  · exact .inl h0
  · rw [hv] at e
    injection e with e1 _ _
    subst e1
    have hDx : D < x := s.far x (by rw [hv]; rfl)
    refine .inr ⟨x, 0, rfl, by show w.heap.size ≤ x; omega, RowOf.fo f xs x 0 (o2.keep (fun b hb _ => hkp b hb.1) (fun b hb _ => by have := hb.1; show w.heap.size ≤ b; omega) f xs) fun j u hu => ?_⟩
    refine (World.cell?_of_block (w := wx) (a := ⟨x, 0 + j, none⟩) (hkp x hDx)).trans ?_
    rw [Nat.zero_add, cell_of_row wx x j cur _ _ hh2]
    rw [← ht, List.getElem?_take] at hu
    split at hu
    · simpa using hu
    · cases hu
end
end Go.Proofs.YthdmmhiifkebeaaDoor
