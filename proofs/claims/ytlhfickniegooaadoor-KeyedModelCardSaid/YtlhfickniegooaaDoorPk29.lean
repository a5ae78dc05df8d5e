/-
  Rows of numbers that are appended to; what the variables of KeyedModel hold. One act of KeyedModel. Written by an AI agent.
-/
import Derived.Test.YtlhfickniegooaaDoorPk27
import Derived.Test.YtlhfickniegooaaDoorPk28
namespace Go.Proofs.YtlhfickniegooaaDoor
open Go.RowKit
set_option maxRecDepth 100000

theorem row_stay {w w' : World} {B sz n : Nat} {t : TypeId} {v : Value} {xs : List Value} (h : w.ownsRow B t sz v n xs) (hk : ∀ g, v.ownBlock = some g → w'.heap[g]? = w.heap[g]?) : w'.ownsRow B t sz v n xs := by
  refine ⟨h.1, ?_⟩
  rcases h.2 with h0 | ⟨g, cap, cur, rfl, hB, hh, h1⟩
  · exact .inl h0
  · exact .inr ⟨g, cap, cur, rfl, hB, (hk g rfl).trans hh, h1⟩
def iV (xs : List Int) : List Value := xs.map (fun x => .int .i64 x)
/-- A row of numbers of one's own; B: its block lies no lower. -/
def RowI (w : World) (B : Nat) (s : S3) (xs : List Int) : Prop := w.ownsRow B 3 1 s.v xs.length (iV xs) ∧ s.n = xs.length
theorem RowI.nil (w : World) (B : Nat) : RowI w B ⟨none, 0, 0⟩ [] := ⟨World.ownsRow_nil _ _ _ _, rfl⟩
theorem RowI.stay {w w' : World} {B : Nat} {s : S3} {xs : List Int} (h : RowI w B s xs) (hk : ∀ g, s.v.ownBlock = some g → w'.heap[g]? = w.heap[g]?) : RowI w' B s xs := ⟨row_stay h.1 hk, h.2⟩
theorem RowI.old {w w' : World} {B : Nat} {s : S3} {xs : List Int} (h : RowI w B s xs) (hb : Below w.heap.size w w') : RowI w' B s xs := ⟨row_below h.1 hb, h.2⟩
theorem RowI.ext {w w' : World} {B n0 : Nat} {s : S3} {xs : List Int} (h : RowI w B s xs) (e : Ext n0 w w') : RowI w' B s xs := ⟨row_ext h.1 e, h.2⟩
theorem RowI.at {w : World} {B : Nat} {s : S3} {xs : List Int} (h : RowI w B s xs) {j : Nat} {x : Int} (hx : xs[j]? = some x) : ∃ g, s.d = some ⟨g, 0, none⟩ ∧ s.n = xs.length ∧ j < xs.length ∧ w.cell? ⟨g, j, none⟩ = some (.int .i64 x) := by
  have hlt := (List.getElem?_eq_some_iff.1 hx).1
  rcases h.1.2 with ⟨_, h0⟩ | ⟨g, cap, cur, hv, hB, hh, hc, _, hz, ht⟩
  · omega
  · have hd : s.d = some ⟨g, 0, none⟩ := by
      have : s.v = .slice (some ⟨g, 0, none⟩) xs.length cap := hv
      unfold S3.v at this
      injection this
    refine ⟨g, hd, h.2, hlt, ?_⟩
    have h1 : (iV xs)[j]? = some (.int .i64 x) := by unfold iV; rw [List.getElem?_map, hx]; rfl
    rw [← ht, Nat.mul_one, List.getElem?_take_of_lt hlt, Array.getElem?_toList] at h1
    exact ((show Blk w g 3 cur from hh).cell j).trans h1
theorem int_info : (Tryd.prog.info? 3).map (fun i => (i.size, decide (i.bytes ≤ 400), i.zero.map (·.cells.size))) = some (1, true, some 1) := by kernel_rfl
/-- What an append of one number leaves. -/
def AppI (w : World) (B : Nat) (s : S3) (xs : List Int) (n : Int) (s' : S3) (w' : World) : Prop := RowI w' B s' (xs ++ [n]) ∧ (w.alloc (.cells #[.int .i64 n] 3)).grownBy w' s.v.ownBlock ∧ (s'.v.ownBlock = s.v.ownBlock ∨ s'.v.ownBlock = some (w.heap.size + 1))
theorem app_int {w : World} {B : Nat} {s : S3} {xs : List Int} (h : RowI w B s xs) (hB : B ≤ w.heap.size) (hn : xs.length ≤ 300000000000) (n : Int) (ty : TypeId) :
    ∃ (s' : S3) (w' : World), (Builtin.append_ #[22, 22] ty #[.slice s.d s.n s.c, .slice (some ⟨w.heap.size, 0, none⟩) 1 1]).run Tryd.prog (w.alloc (.cells #[.int .i64 n] 3)) = .ok (S3.v s') w' ∧ AppI w B s xs n s' w' := by
  obtain ⟨i, hi, hz⟩ := Option.map_eq_some_iff.1 int_info
  injection hz with hz0 hz
  injection hz with hz1 hz2
  obtain ⟨z, hzz, hzs⟩ := Option.map_eq_some_iff.1 hz2
  have hb : i.bytes ≤ 400 := by simpa using hz1
  have hn' := Blk.new w 3 #[.int .i64 n]
  have had : ∀ g j, (⟨g, 0, none⟩ : Addr).add j = ⟨g, j, none⟩ := fun g j => by
    unfold Addr.add
    split <;> simp_all
  have hcell : ∀ (j : Nat) (u : Value), [Value.int .i64 n][j]? = some u → (w.alloc (.cells #[.int .i64 n] 3)).cell? ⟨w.heap.size, j, none⟩ = some u := fun j u hu => by
    rw [hn'.cell, ← Array.getElem?_toList]
    exact hu
  have hm : (xs.length + 1) * i.bytes ≤ (xs.length + 1) * 400 := Nat.mul_le_mul_left _ hb
  have hw1 : (w.alloc (.cells #[.int .i64 n] 3)).heap.size = w.heap.size + 1 := by simp
  obtain ⟨v', w', hr, ho, hg, _, hblk⟩ := run_append_own_at (P := Tryd.prog) (w := w.alloc (.cells #[.int .i64 n] 3)) B 22 ty 3 i z 1 i.bytes Tryd.underlying22 hi hzz hz0 rfl hzs (by omega) s.v xs.length (iV xs) (row_below h.1 (bl_alloc (Below.refl _ _) _))
    ⟨w.heap.size, 0, none⟩ 1 1 [.int .i64 n] rfl (fun j u hu => by rw [had]; exact hcell j u hu) (fun u hu => by rw [List.mem_singleton.1 hu]; rfl) (by simp only [maxLen]; omega) (by omega) (by omega)
  have hS : ∃ s' : S3, v' = s'.v ∧ s'.n = xs.length + 1 := by
    rcases ho.2 with ⟨rfl, h0⟩ | ⟨g, cap, cur, rfl, _⟩
    · omega
    · exact ⟨⟨some ⟨g, 0, none⟩, xs.length + 1, cap⟩, rfl, rfl⟩
  obtain ⟨s', rfl, hsn⟩ := hS
  refine ⟨s', w', hr, ⟨?_, by rw [List.length_append]; exact hsn⟩, hg, by rw [← hw1]; exact hblk⟩
  have e : iV (xs ++ [n]) = iV xs ++ [.int .i64 n] := by unfold iV; rw [List.map_append]; rfl
  rw [e, List.length_append]
  exact ho
/-- A map's state where one of the caller's rows has grown. -/
theorem KS.grown {w0 u u' : World} {K K' : Nat → Prop} {m : Nat} {R : List En} {D O : Nat → Prop} {row : Option Nat} (h : KS w0 K u m R D O) (hg : u.grownBy u' row) (hr : ∀ g, row = some g → K g ∧ w0.heap.size ≤ g) (hK : ∀ b, K' b → K b ∨ (u.heap.size ≤ b ∧ b < u'.heap.size)) : KS w0 K' u' m R D O := by
  have hlt : ∀ b, O b ∨ D b → b < u.heap.size := fun b hb => hb.elim (h.map.olt b) (h.map.dlt b)
  refine ⟨h.map.keep hg.size (fun b hb => hg.block b (hlt b hb) (fun e => (h.lo b hb).2 (hr b e.symm).1)), fun b hb => ⟨(h.lo b hb).1, fun hk => ?_⟩, fun b hk => ?_, ⟨hg.os.trans h.low.os, hg.tape.trans h.low.tape, hg.output.trans h.low.output, Nat.le_trans h.low.size hg.size, fun k hk => ?_⟩⟩
  · rcases hK b hk with h1 | h1
    · exact (h.lo b hb).2 h1
    · have := hlt b hb; omega
  · rcases hK b hk with h1 | h1
    · exact Nat.lt_of_lt_of_le (h.kl b h1) hg.size
    · exact h1.2
  · exact (hg.block k (Nat.lt_of_lt_of_le hk h.low.size) (fun e => by have := (hr k e.symm).2; omega)).trans (h.low.block k hk)

/-- What does not change while KeyedModel runs. -/
structure MoP where
  w0 : World
  B : Nat
  m : Nat
  g6 : Nat
  g7 : Nat
  gt : Nat
  gv : Nat
  dl : Option Addr
  ql : Nat
  xs : List (Int × Int × Int)
structure MoP.ok (c : MoP) : Prop where
  own : OwnAt c.w0
  ls : ∀ (j : Nat) (x : Int × Int × Int), c.xs[j]? = some x → ∃ g o, c.dl = some ⟨g, o, none⟩ ∧ g < c.w0.heap.size ∧ c.w0.cell? ⟨g, o + j * 3, none⟩ = some (.int .i64 x.1) ∧ c.w0.cell? ⟨g, o + j * 3 + 1, none⟩ = some (.int .i64 x.2.1) ∧ c.w0.cell? ⟨g, o + j * 3 + 2, none⟩ = some (.int .i64 x.2.2) ∧ okInt x.1 ∧ okInt x.2.1 ∧ okInt x.2.2
  lo : c.w0.heap.size ≤ c.B
  o6 : c.w0.heap.size ≤ c.g6 ∧ c.g6 < c.B
  o7 : c.w0.heap.size ≤ c.g7 ∧ c.g7 < c.B
  ot : c.w0.heap.size ≤ c.gt ∧ c.gt < c.B
  ov : c.w0.heap.size ≤ c.gv ∧ c.gv < c.B
  ne : c.g6 ≠ c.g7 ∧ c.g6 ≠ c.gt ∧ c.g6 ≠ c.gv ∧ c.g7 ≠ c.gt ∧ c.g7 ≠ c.gv ∧ c.gt ≠ c.gv
/-- The law's own memory: what is there, the values, the order. -/
structure MoM (c : MoP) (K : Nat → Prop) (th : Nat → Bool) (vals : Nat → Int) (os : List Int) (so : S3) (u : World) : Prop where
  b6 : Blk u c.g6 22 #[.slice (some ⟨c.gv, 0, none⟩) 900 900]
  b7 : Blk u c.g7 22 #[S3.v so]
  bt : ∃ cs, Blk u c.gt 4 cs ∧ cs.size = 900 ∧ ∀ i, i < 900 → cs[i]? = some (.bool (th i))
  bv : ∃ cs, Blk u c.gv 3 cs ∧ cs.size = 900 ∧ ∀ i, i < 900 → cs[i]? = some (.int .i64 (vals i))
  ord : RowI u c.B so os
  k : K c.g6 ∧ K c.g7 ∧ K c.gt ∧ K c.gv ∧ ∀ g, so.v.ownBlock = some g → K g
  sz : c.B ≤ u.heap.size
section
variable {c : MoP} {K : Nat → Prop} {th : Nat → Bool} {vals : Nat → Int} {os : List Int} {so : S3} {u u' : World}
theorem MoM.old (h : MoM c K th vals os so u) (hb : Below u.heap.size u u') : MoM c K th vals os so u' :=
  ⟨h.b6.below hb h.b6.lt, h.b7.below hb h.b7.lt, let ⟨cs, h1, h2⟩ := h.bt; ⟨cs, h1.below hb h1.lt, h2⟩, let ⟨cs, h1, h2⟩ := h.bv; ⟨cs, h1.below hb h1.lt, h2⟩, h.ord.old hb, h.k, Nat.le_trans h.sz hb.size⟩
theorem MoM.ext {B : Nat} (h : MoM c K th vals os so u) (e : Ext B u u') : MoM c K th vals os so u' :=
  ⟨h.b6.ext e, h.b7.ext e, let ⟨cs, h1, h2⟩ := h.bt; ⟨cs, h1.ext e, h2⟩, let ⟨cs, h1, h2⟩ := h.bv; ⟨cs, h1.ext e, h2⟩, h.ord.ext e, h.k, Nat.le_trans h.sz e.size⟩
/-- The caller's blocks stay where the map moves. -/
theorem MoM.step (h : MoM c K th vals os so u) {m : Nat} {R : List En} {D O : Nat → Prop} (hk : KS c.w0 K u m R D O) (hm : Moved O u u') : MoM c K th vals os so u' :=
  ⟨h.b6.stay (hk.stay hm h.k.1), h.b7.stay (hk.stay hm h.k.2.1), let ⟨cs, h1, h2⟩ := h.bt; ⟨cs, h1.stay (hk.stay hm h.k.2.2.1), h2⟩, let ⟨cs, h1, h2⟩ := h.bv; ⟨cs, h1.stay (hk.stay hm h.k.2.2.2.1), h2⟩, h.ord.stay (fun g hg => hk.stay hm (h.k.2.2.2.2 g hg)), h.k, Nat.le_trans h.sz hm.size⟩
theorem MoM.kk (h : MoM c K th vals os so u) {K' : Nat → Prop} (hK : ∀ b, K b → K' b) : MoM c K' th vals os so u := ⟨h.b6, h.b7, h.bt, h.bv, h.ord, ⟨hK _ h.k.1, hK _ h.k.2.1, hK _ h.k.2.2.1, hK _ h.k.2.2.2.1, fun g hg => hK _ (h.k.2.2.2.2 g hg)⟩, h.sz⟩
/-- Another block is written to. -/
theorem MoM.far (h : MoM c K th vals os so u) {g : Nat} (h6 : g ≠ c.g6) (h7 : g ≠ c.g7) (ht : g ≠ c.gt) (hv : g ≠ c.gv) (ho : ∀ b, so.v.ownBlock = some b → b ≠ g) (o : Nat) (vs : List Value) : MoM c K th vals os so (u.setCells g o vs) :=
  ⟨Blk.farL (Ne.symm h6) _ _ _ h.b6, Blk.farL (Ne.symm h7) _ _ _ h.b7, let ⟨cs, h1, h2⟩ := h.bt; ⟨cs, Blk.farL (Ne.symm ht) _ _ _ h1, h2⟩, let ⟨cs, h1, h2⟩ := h.bv; ⟨cs, Blk.farL (Ne.symm hv) _ _ _ h1, h2⟩, h.ord.stay (fun b hb => setCells_other _ _ _ (ho b hb)), h.k, by rw [setCells_size']; exact h.sz⟩
/-- Another row grows. -/
theorem MoM.grown (h : MoM c K th vals os so u) (hc : c.ok) {row : Option Nat} (hg : u.grownBy u' row) (hr : ∀ g, row = some g → c.B ≤ g) (ho : ∀ g, so.v.ownBlock = some g → some g ≠ row) : MoM c K th vals os so u' :=
  have f : ∀ g, g < c.B → some g ≠ row := fun g hg' e => by have := hr g e.symm; omega
  ⟨h.b6.grown hg (f _ hc.o6.2), h.b7.grown hg (f _ hc.o7.2), let ⟨cs, h1, h2⟩ := h.bt; ⟨cs, h1.grown hg (f _ hc.ot.2), h2⟩, let ⟨cs, h1, h2⟩ := h.bv; ⟨cs, h1.grown hg (f _ hc.ov.2), h2⟩, h.ord.stay (fun g hg' => hg.block g (row_block h.ord.1 hg').2 (ho g hg')), h.k, Nat.le_trans h.sz hg.size⟩
theorem MoM.rowB (h : MoM c K th vals os so u) {g : Nat} (hg : so.v.ownBlock = some g) : c.B ≤ g ∧ g < u.heap.size := row_block h.ord.1 hg
/-- The order is another row. -/
theorem MoM.order (h : MoM c K th vals os so u) (hc : c.ok) {os' : List Int} {so' : S3} (ho : RowI u c.B so' os') (hk : ∀ g, so'.v.ownBlock = some g → K g) : MoM c K th vals os' so' (u.setCells c.g7 0 [S3.v so']) :=
  have := hc.ne
  ⟨Blk.farL this.1 _ _ _ h.b6, h.b7.set_ 0 _, let ⟨cs, h1, h2⟩ := h.bt; ⟨cs, Blk.farL (Ne.symm this.2.2.2.1) _ _ _ h1, h2⟩, let ⟨cs, h1, h2⟩ := h.bv; ⟨cs, Blk.farL (Ne.symm this.2.2.2.2.1) _ _ _ h1, h2⟩,
    ho.stay (fun g hg => setCells_other _ _ _ (fun e => by have := (row_block ho.1 hg).1; have := hc.o7.2; omega)), ⟨h.k.1, h.k.2.1, h.k.2.2.1, h.k.2.2.2.1, hk⟩, by rw [setCells_size']; exact h.sz⟩
theorem MoM.there (h : MoM c K th vals os so u) (hc : c.ok) {n : Nat} (hn : n < 900) (b : Bool) : MoM c K (fun i => if i = n then b else th i) vals os so (u.setCells c.gt n [.bool b]) :=
  have := hc.ne
  ⟨Blk.farL this.2.1 _ _ _ h.b6, Blk.farL this.2.2.2.1 _ _ _ h.b7, let ⟨cs, h1, h2, h3⟩ := h.bt; ⟨_, h1.set_ n (.bool b), by rw [Array.size_setIfInBounds]; exact h2, fun i hi => by
      rw [Array.getElem?_setIfInBounds]
      by_cases q : n = i
      · rw [if_pos q, if_pos (by omega), if_pos q.symm]
      · rw [if_neg q, if_neg (Ne.symm q), h3 i hi]⟩,
    let ⟨cs, h1, h2⟩ := h.bv; ⟨cs, Blk.farL (Ne.symm this.2.2.2.2.2) _ _ _ h1, h2⟩,
    h.ord.stay (fun g hg => setCells_other _ _ _ (fun e => by have := (h.rowB hg).1; have := hc.ot.2; omega)), h.k, by rw [setCells_size']; exact h.sz⟩
theorem MoM.value (h : MoM c K th vals os so u) (hc : c.ok) {n : Nat} (hn : n < 900) (x : Int) : MoM c K th (fun i => if i = n then x else vals i) os so (u.setCells c.gv n [.int .i64 x]) :=
  have := hc.ne
  ⟨Blk.farL this.2.2.1 _ _ _ h.b6, Blk.farL this.2.2.2.2.1 _ _ _ h.b7, let ⟨cs, h1, h2⟩ := h.bt; ⟨cs, Blk.farL this.2.2.2.2.2 _ _ _ h1, h2⟩, let ⟨cs, h1, h2, h3⟩ := h.bv; ⟨_, h1.set_ n (.int .i64 x), by rw [Array.size_setIfInBounds]; exact h2, fun i hi => by
      rw [Array.getElem?_setIfInBounds]
      by_cases q : n = i
      · rw [if_pos q, if_pos (by omega), if_pos q.symm]
      · rw [if_neg q, if_neg (Ne.symm q), h3 i hi]⟩,
    h.ord.stay (fun g hg => setCells_other _ _ _ (fun e => by have := (h.rowB hg).1; have := hc.ov.2; omega)), h.k, by rw [setCells_size']; exact h.sz⟩
theorem MoM.lt (h : MoM c K th vals os so u) {i : Nat} (hi : i < 900) : Lds Tryd.prog 4 (.pointer (some ⟨c.gt, i, none⟩)) (.bool (th i)) u := let ⟨_, h1, _, h3⟩ := h.bt; one_load h1 Tryd.underlying4 rfl (h3 i hi)
theorem MoM.lv (h : MoM c K th vals os so u) {i : Nat} (hi : i < 900) : Lds Tryd.prog 3 (.pointer (some ⟨c.gv, i, none⟩)) (.int .i64 (vals i)) u := let ⟨_, h1, _, h3⟩ := h.bv; one_load h1 Tryd.underlying3 rfl (h3 i hi)
theorem MoM.l6 (h : MoM c K th vals os so u) : Lds Tryd.prog 22 (.pointer (some ⟨c.g6, 0, none⟩)) (.slice (some ⟨c.gv, 0, none⟩) 900 900) u := one_load h.b6 Tryd.underlying22 rfl rfl
theorem MoM.l7 (h : MoM c K th vals os so u) : Lds Tryd.prog 22 (.pointer (some ⟨c.g7, 0, none⟩)) (.slice so.d so.n so.c) u := one_load h.b7 Tryd.underlying22 rfl rfl
end
theorem boolInf : (Tryd.prog.info? 4).map (·.size) = some 1 := by kernel_rfl
theorem ix_one {t e : TypeId} {g n cap i : Nat} (ht : Tryd.prog.underlying t = some (.slice e)) (hi : (Tryd.prog.info? e).map (·.size) = some 1) (h : i < n) (w : World) : (Instr.indexAt t (.slice (some ⟨g, 0, none⟩) n cap) (.int .i64 (i : Int))).run Tryd.prog w = .ok (.pointer (some ⟨g, i, none⟩)) w := ix_at (o := i) (sz := 1) i rfl ht hi h (by omega) w
end Go.Proofs.YtlhfickniegooaaDoor

namespace Go.Proofs.YtlhfickniegooaaDoor
open Go.RowKit
set_option maxRecDepth 100000

def mL (os : List (Fin 900)) (vals : Nat → Int) : List (Fin 900 × Dt) := os.reverse.map (fun n => (n, wholeD (vals n.val)))
def oI (os : List (Fin 900)) : List Int := os.map (fun n => (n.val : Int))
def thO (os : List (Fin 900)) (i : Nat) : Bool := decide (i ∈ os.map Fin.val)
theorem thO_mem {os : List (Fin 900)} {n : Fin 900} : thO os n.val = decide (n ∈ os) := by
  unfold thO
  refine decide_eq_decide.2 ⟨fun h => ?_, fun h => List.mem_map.2 ⟨n, h, rfl⟩⟩
  obtain ⟨m, h1, h2⟩ := List.mem_map.1 h
  rw [← Fin.ext h2]; exact h1
theorem mL_fst (os : List (Fin 900)) (vals : Nat → Int) : (mL os vals).map (·.1) = os.reverse := by
  unfold mL
  rw [List.map_map]
  conv => rhs; rw [← List.map_id os.reverse]
  rfl
theorem mL_ul {os : List (Fin 900)} {vals : Nat → Int} (h : os.Nodup) : UL (fun _ => true) (mL os vals) := by
  unfold UL
  rw [mL_fst]
  exact ((List.reverse_perm os).nodup_iff.2 h).imp fun hab _ => hab
def upV (vals : Nat → Int) (n : Nat) (x : Int) : Nat → Int := fun i => if i = n then x else vals i
theorem mL_old {os : List (Fin 900)} {vals : Nat → Int} {n : Fin 900} {x : Int} (h : n ∈ os) : putA (fun _ => true) (mL os vals) n (wholeD x) = mL os (upV vals n.val x) := by
  unfold putA
  rw [if_pos ⟨rfl, by rw [mL_fst]; simpa using h⟩]
  unfold mL
  rw [List.map_map]
  refine List.map_congr_left fun i _ => ?_
  show (if i = n then (n, wholeD x) else (i, wholeD (vals i.val))) = (i, wholeD (upV vals n.val x i.val))
  unfold upV
  by_cases q : i = n
  · subst q; rw [if_pos rfl, if_pos rfl]
  · rw [if_neg q, if_neg (fun e => q (Fin.ext e))]
theorem mL_new {os : List (Fin 900)} {vals : Nat → Int} {n : Fin 900} {x : Int} (h : n ∉ os) : putA (fun _ => true) (mL os vals) n (wholeD x) = mL (os ++ [n]) (upV vals n.val x) := by
  unfold putA
  rw [if_neg (fun q => h (by have := q.2; rw [mL_fst] at this; simpa using this))]
  unfold mL
  rw [List.reverse_append, List.reverse_singleton, List.singleton_append, List.map_cons]
  congr 1
  · unfold upV; rw [if_pos rfl]
  · refine List.map_congr_left fun i hi => ?_
    unfold upV
    rw [if_neg (fun e => h (by rw [← Fin.ext e]; simpa using hi))]
theorem mL_out {os : List (Fin 900)} {vals : Nat → Int} {n : Fin 900} : outA (mL os vals) n = mL (os.filter (fun i => decide (i ≠ n))) vals := by
  unfold outA mL
  rw [List.filter_map, ← List.filter_reverse]
  rfl
theorem thO_put {os : List (Fin 900)} {n : Fin 900} (h : n ∈ os) : (fun i => if i = n.val then true else thO os i) = thO os := funext fun i => by
  by_cases q : i = n.val
  · rw [if_pos q, q, thO_mem, decide_eq_true h]
  · rw [if_neg q]
theorem thO_new {os : List (Fin 900)} {n : Fin 900} : (fun i => if i = n.val then true else thO os i) = thO (os ++ [n]) := funext fun i => by
  unfold thO
  by_cases q : i = n.val
  · rw [if_pos q, q]; simp
  · rw [if_neg q]
    refine decide_eq_decide.2 ?_
    rw [List.map_append, List.mem_append]
    simp [q]
theorem thO_out {os : List (Fin 900)} {n : Fin 900} : (fun i => if i = n.val then false else thO os i) = thO (os.filter (fun i => decide (i ≠ n))) := funext fun i => by
  unfold thO
  by_cases q : i = n.val
  · rw [if_pos q]
    refine (decide_eq_false fun h => ?_).symm
    obtain ⟨m, h1, h2⟩ := List.mem_map.1 h
    have := (List.mem_filter.1 h1).2
    exact absurd (Fin.ext (h2.trans q)) (by simpa using this)
  · rw [if_neg q]
    refine decide_eq_decide.2 ⟨fun h => ?_, fun h => ?_⟩
    · obtain ⟨m, h1, h2⟩ := List.mem_map.1 h
      exact List.mem_map.2 ⟨m, List.mem_filter.2 ⟨h1, by simpa using fun e : m = n => q (h2.symm.trans (congrArg Fin.val e))⟩, h2⟩
    · obtain ⟨m, h1, h2⟩ := List.mem_map.1 h
      exact List.mem_map.2 ⟨m, (List.mem_filter.1 h1).1, h2⟩
/-- The state between two acts. -/
structure MoS (c : MoP) (K D O : Nat → Prop) (R : List En) (os : List (Fin 900)) (vals : Nat → Int) (so : S3) (u : World) : Prop where
  ks : KS c.w0 K u c.m R D O
  rep : Rep kdM R (mL os vals)
  mem : MoM c K (thO os) vals (oI os) so u
  vr : ∀ i, okInt (vals i)
  nd : os.Nodup
section
variable {c : MoP} {K D O : Nat → Prop} {R : List En} {os : List (Fin 900)} {vals : Nat → Int} {so : S3} {u u' : World}
theorem MoS.old (h : MoS c K D O R os vals so u) (hb : Below u.heap.size u u') : MoS c K D O R os vals so u' := ⟨h.ks.old hb, h.rep, h.mem.old hb, h.vr, h.nd⟩
theorem nodup_le : ∀ (n : Nat) (l : List Nat), l.Nodup → (∀ x ∈ l, x < n) → l.length ≤ n
  | 0, [], _, _ => Nat.le_refl _
  | 0, x :: l, _, h => absurd (h x List.mem_cons_self) (by omega)
  | n + 1, l, hn, h => by
    have h1 := nodup_le n (l.erase n) (hn.erase n) (fun x hx => by
      have := hn.mem_erase_iff.1 hx
      have := h x this.2
      omega)
    by_cases q : n ∈ l
    · rw [List.length_erase_of_mem q] at h1
      omega
    · rw [List.erase_of_not_mem q] at h1
      omega
theorem nd_len {os : List (Fin 900)} (h : os.Nodup) : os.length ≤ 900 := by
  rw [← List.length_map (f := Fin.val)]
  refine nodup_le 900 _ ?_ (fun x hx => ?_)
  · unfold List.Nodup at *
    exact List.pairwise_map.2 (h.imp fun hab e => hab (Fin.ext e))
  · obtain ⟨i, _, rfl⟩ := List.mem_map.1 hx
    exact i.isLt
theorem MoS.len (h : MoS c K D O R os vals so u) : R.length = os.length := by
  have := h.rep.len
  unfold mL at this
  simpa using this
theorem oI_len (os : List (Fin 900)) : (oI os).length = os.length := by unfold oI; rw [List.length_map]
theorem MoM.append {th : Nat → Bool} {os : List Int} (h : MoM c K th vals os so u) (hc : c.ok) {n : Int} {s' : S3} (ha : AppI u c.B so os n s' u') : Blk u' c.g7 22 #[S3.v so] ∧ MoM c (fun b => K b ∨ s'.v.ownBlock = some b) th vals (os ++ [n]) s' (u'.setCells c.g7 0 [S3.v s']) := by
  obtain ⟨h1, h2, h3⟩ := ha
  have hm := h.old (bl_alloc (Below.refl u.heap.size u) (.cells #[.int .i64 n] 3))
  have f : ∀ g, g < c.B → some g ≠ so.v.ownBlock := fun g hg e => by have := (h.rowB e.symm).1; omega
  have e7 := hm.b7.grown h2 (f _ hc.o7.2)
  have hn := hc.ne
  refine ⟨e7, Blk.farL hn.1 _ _ _ (hm.b6.grown h2 (f _ hc.o6.2)), e7.set_ 0 _, ?_, ?_, h1.stay (fun g hg => setCells_other _ _ _ (fun e => by have := (row_block h1.1 hg).1; have := hc.o7.2; omega)), ⟨.inl h.k.1, .inl h.k.2.1, .inl h.k.2.2.1, .inl h.k.2.2.2.1, fun g hg => .inr hg⟩, by rw [setCells_size']; exact Nat.le_trans hm.sz h2.size⟩
  · obtain ⟨cs, q1, q2⟩ := hm.bt
    exact ⟨cs, Blk.farL (Ne.symm hn.2.2.2.1) _ _ _ (q1.grown h2 (f _ hc.ot.2)), q2⟩
  · obtain ⟨cs, q1, q2⟩ := hm.bv
    exact ⟨cs, Blk.farL (Ne.symm hn.2.2.2.2.1) _ _ _ (q1.grown h2 (f _ hc.ov.2)), q2⟩
theorem KS.append (h : KS c.w0 K u c.m R D O) {th : Nat → Bool} {os : List Int} (hm : MoM c K th vals os so u) (hc : c.ok) {n : Int} {s' : S3} (ha : AppI u c.B so os n s' u') : KS c.w0 (fun b => K b ∨ s'.v.ownBlock = some b) u' c.m R D O := by
  obtain ⟨h1, h2, h3⟩ := ha
  have hsz : (u.alloc (.cells #[.int .i64 n] 3)).heap.size = u.heap.size + 1 := by simp
  refine (h.old (bl_alloc (Below.refl u.heap.size u) (.cells #[.int .i64 n] 3))).grown h2 (fun g hg => ⟨hm.k.2.2.2.2 g hg, Nat.le_trans hc.lo (hm.rowB hg).1⟩) (fun b hb => ?_)
  rcases hb with hb | hb
  · exact .inl hb
  · rcases h3 with h3 | h3
    · exact .inl (hm.k.2.2.2.2 b (by rw [← h3]; exact hb))
    · have := (row_block h1.1 hb).2
      rw [hb] at h3
      injection h3 with h3
      exact .inr ⟨by omega, this⟩
theorem MoP.ok.ld (hc : c.ok) {i : Nat} {x : Int × Int × Int} (hx : c.xs[i]? = some x) : ∃ g o, (∀ w, (Instr.indexAt 61 (.slice c.dl c.xs.length c.ql) (.int .i64 (i : Int))).run Tryd.prog w = .ok (.pointer (some ⟨g, o, none⟩)) w) ∧ (∀ u, Below c.w0.heap.size c.w0 u → Lds Tryd.prog 3 (.pointer (some ⟨g, o + 0, none⟩)) (.int .i64 x.1) u ∧ Lds Tryd.prog 3 (.pointer (some ⟨g, o + 1, none⟩)) (.int .i64 x.2.1) u ∧ Lds Tryd.prog 3 (.pointer (some ⟨g, o + 2, none⟩)) (.int .i64 x.2.2) u) := by
  obtain ⟨g, o, hd, hg, h1, h2, h3, _⟩ := hc.ls i x hx
  have hlt := (List.getElem?_eq_some_iff.1 hx).1
  refine ⟨g, o + i * 3, fun w => by rw [hd]; exact ix_at2 (sz := 3) i Tryd.underlying61 (by kernel_rfl) hlt w, fun u hb => ⟨lds1 Tryd.underlying3 rfl ((hb.cell (p := ⟨g, o + i * 3, none⟩) hg).trans h1), lds1 Tryd.underlying3 rfl ((hb.cell (p := ⟨g, o + i * 3 + 1, none⟩) hg).trans h2), lds1 Tryd.underlying3 rfl ((hb.cell (p := ⟨g, o + i * 3 + 2, none⟩) hg).trans h3)⟩⟩

set_option maxHeartbeats 2000000 in
theorem lm_put {Q : Exit → Act → World → Prop} (hc : c.ok) {g2 i : Nat} {n : Fin 900} {x : Int × Int × Int} {a : Act} (hx : c.xs[i]? = some x) (hs : Sl 263 a [(9, .int .i64 (n.val : Int)), (8, .int .i64 (i : Int)), (7, .pointer (some ⟨c.g7, 0, none⟩)), (6, .pointer (some ⟨c.g6, 0, none⟩)), (5, .slice (some ⟨c.gt, 0, none⟩) 900 900), (4, .pointer (some ⟨c.m, 0, none⟩)), (2, .pointer (some ⟨g2, 0, none⟩)), (0, .slice c.dl c.xs.length c.ql)] []) (hM : MoS c K D O R os vals so u)
    (hQ : ∀ (a' : Act) (u' : World) (K' D' O' : Nat → Prop) (R' : List En) (os' : List (Fin 900)) (vals' : Nat → Int) (so' : S3), Sl 263 a' [(9, .int .i64 (n.val : Int)), (8, .int .i64 (i : Int)), (7, .pointer (some ⟨c.g7, 0, none⟩)), (6, .pointer (some ⟨c.g6, 0, none⟩)), (5, .slice (some ⟨c.gt, 0, none⟩) 900 900), (4, .pointer (some ⟨c.m, 0, none⟩)), (2, .pointer (some ⟨g2, 0, none⟩)), (0, .slice c.dl c.xs.length c.ql)] [] → MoS c K' D' O' R' os' vals' so' u' → Q .normal a' u') :
    (Code.seq (r_lm 18) (.seq (.seq (r_lm 19) (.cond (.tmp 112) (.seq (r_lm 20) .ret) .skip)) (.seq (.seq (r_lm 21) (.cond (.tmp 117) (r_lm 22) .skip)) (.seq (r_lm 23) (r_lm 24))))).wp Tryd.prog Q a u := by
  obtain ⟨g, o, hix, hld⟩ := hc.ld hx
  have hxo : okInt x.2.2 := by
    obtain ⟨_, _, _, _, _, _, _, _, _, h⟩ := hc.ls i x hx
    exact h
  have hdr : Below u.heap.size u (u.drewN 1) := below_drewN (Below.refl _ _) 1
  have hn := n.isLt
  have hlen : R.length ≤ 900 := by rw [hM.len]; exact nd_len hM.nd
  refine wp_seq (rg_wp (lm_r18 (kn := keyD n.val) (x := x.2.2) (C := fun v => Below u.heap.size u v) (C0 := fun b xk v => (keyD n.val).at v (fun z => b.heap.size ≤ z) xk ∧ Below b.heap.size b v) (C1 := fun b _ v => Below b.heap.size b v) (C2 := fun v => (∃ D' O' R', PutNew R (keyD n.val) (wholeD x.2.2) R' ∧ KS c.w0 K v c.m R' D' O') ∧ MoM c K (thO os) vals (oI os) so v)
    hs rfl rfl rfl rfl hix (fun v hv => (hld v (hM.old hv).ks.low).2.2) hdr ((kkey_any hn _).mono fun e v hh => let ⟨m, q1, q2, q3⟩ := hh; ⟨m, q1, q2, q3⟩) (fun _ v hv => bl_trans hdr hv.2) (fun _ v hv => (kwhole_any _ v).mono fun e v' hh => ⟨(), hh.1, hh.2⟩) (fun _ v hv _ v2 h2 => bl_trans (bl_trans hdr hv.2) h2)
    (fun xk v hv _ v2 h2 => by
      have hb := bl_trans (bl_trans hdr hv.2) h2
      have hM2 := hM.old hb
      refine (ks_put hM2.ks hc.own (by omega) (key_ok hn) (whole_ok hxo) (hv.1.old h2) (pD_at _ _ _ _ _ _ (fun _ => False)) (fun b hb' => hM.ks.noO (.inr (.inr ?_))) (fun _ h => h.elim) (key_right hn).1 (whole_right _).1 (key_right hn).2).mono fun e v3 hh => ?_
      · have : u.heap.size ≤ b := Nat.le_trans hdr.size hb'
        exact this
      · obtain ⟨q1, R', D', O', q2, q3, q4, _⟩ := hh
        exact ⟨q1, ⟨D', O', R', q2, q3⟩, hM2.mem.step hM2.ks q4⟩) fun a1 _ _ _ _ u1 _ _ hx1 h1 => ?_))
  obtain ⟨⟨D1, O1, R1, hN1, hK1⟩, hm1⟩ := hx1
  have hrep := rep_put fam_key hM.ks.map.keys hM.ks.map.nodup (mL_ul hM.nd) hM.rep (i := n) hN1
  refine wp_seq (wp_seq (rg_wp (lm_r19 h1 rfl fun a2 h2 => wpo (h2.look 112 rfl) ?_)))
  -- the tail: there[n] = true; values[n] = x
  have tail : ∀ (a' : Act) (u2 : World) (K' : Nat → Prop) (os' : List (Fin 900)) (so' : S3), Sl 263 a' [(9, .int .i64 (n.val : Int)), (8, .int .i64 (i : Int)), (7, .pointer (some ⟨c.g7, 0, none⟩)), (6, .pointer (some ⟨c.g6, 0, none⟩)), (5, .slice (some ⟨c.gt, 0, none⟩) 900 900), (4, .pointer (some ⟨c.m, 0, none⟩)), (2, .pointer (some ⟨g2, 0, none⟩)), (0, .slice c.dl c.xs.length c.ql)] [] → KS c.w0 K' u2 c.m R1 D1 O1 → MoM c K' (thO os) vals (oI os') so' u2 → Rep kdM R1 (mL os' (upV vals n.val x.2.2)) → os'.Nodup → (fun j => if j = n.val then true else thO os j) = thO os' → (Code.seq (r_lm 23) (r_lm 24)).wp Tryd.prog Q a' u2 := by
    intro a' u2 K' os' so' h' k' m' r' nd' th'
    obtain ⟨ct, hB, hsz, _⟩ := m'.bt
    refine wp_seq (rg_wp (lm_r23 h' rfl rfl (fun w => ix_one Tryd.underlying62 boolInf hn w) (one_store hB boolInf (by omega) rfl) fun a3 h3 => ?_))
    have k3 := k'.set m'.k.2.2.1 hc.ot.1 n.val [.bool true]
    have m3 := m'.there hc hn true
    rw [th'] at m3
    generalize u2.setCells c.gt n.val [.bool true] = u3 at k3 m3 ⊢
    have hdr3 : Below u3.heap.size u3 (u3.drewN 1) := below_drewN (Below.refl _ _) 1
    obtain ⟨cv, hV, hvz, _⟩ := (m3.old hdr3).bv
    refine wpl (rg_wp (lm_r24 (x := x.2.2) h3 rfl rfl rfl rfl m3.l6 hix ((hld u3 k3.low).2.2) (fun w => ix_one Tryd.underlying22 intInf hn w) (one_store hV intInf (by omega) rfl) fun a4 h4 => ?_))
    refine hQ a4 _ K' D1 O1 R1 os' (upV vals n.val x.2.2) so' (h4.to ⟨rfl, rfl, rfl, rfl, rfl, rfl, rfl, rfl, trivial⟩) ⟨(k3.old hdr3).set m3.k.2.2.2.1 hc.ov.1 _ _, r', (m3.old hdr3).value hc hn x.2.2, fun j => ?_, nd'⟩
    unfold upV
    split
    · exact hxo
    · exact hM.vr j
  by_cases hin : n ∈ os
  · refine wp_seq (wp_seq (rg_wp (lm_r21 (hb := true) h2 rfl rfl (fun w => ix_one Tryd.underlying62 boolInf hn w) (by have := hm1.lt hn; rw [thO_mem, decide_eq_true hin] at this; exact this) fun a3 h3 => wpo (h3.look 117 rfl) ?_)))
    exact tail a3 u1 K os so (h3.to ⟨rfl, rfl, rfl, rfl, rfl, rfl, rfl, rfl, trivial⟩) hK1 hm1 (by rw [← mL_old hin]; exact hrep.1) hM.nd (thO_put hin)
  · refine wp_seq (wp_seq (rg_wp (lm_r21 (hb := false) h2 rfl rfl (fun w => ix_one Tryd.underlying62 boolInf hn w) (by have := hm1.lt hn; rw [thO_mem, decide_eq_false hin] at this; exact this) fun a3 h3 => wp_cond_true (h3.look 117 rfl) ?_)))
    refine wpl (rg_wp (lm_r22 (C0 := fun s v => AppI u1 c.B so (oI os) (n.val : Int) s v) h3 rfl rfl hm1.l7 (fun ty => app_int hm1.ord hm1.sz (by rw [oI_len, ← hM.len]; omega) _ ty) (fun s v hv => one_store (hm1.append hc hv).1 (by kernel_rfl) (by show 0 < 1; omega) rfl) fun a4 s4 u4 hx4 h4 => ?_))
    have hm4 := (hm1.append hc hx4).2
    have hk4 := (hK1.append hm1 hc hx4).set (.inl hm1.k.2.1) hc.o7.1 0 [S3.v s4]
    have e : oI (os ++ [n]) = oI os ++ [(n.val : Int)] := by unfold oI; rw [List.map_append]; rfl
    rw [← e] at hm4
    exact tail a4 _ _ (os ++ [n]) s4 (h4.to ⟨rfl, rfl, rfl, rfl, rfl, rfl, rfl, rfl, trivial⟩) hk4 hm4 (by rw [← mL_new hin]; exact hrep.1) (List.nodup_append.2 ⟨hM.nd, List.nodup_cons.2 ⟨by simp, List.nodup_nil⟩, fun y hy z hz e => hin (by rw [List.mem_singleton.1 hz] at e; rw [← e]; exact hy)⟩) thO_new
end
end Go.Proofs.YtlhfickniegooaaDoor
