/-
  The way out of a function that ranged over a function; contracts of a map's each, and its iterator. Contract of the reference's Copied: a datum in memory of its own. For every datum that lies in memory. Contract of package keyed's copied: a datum in new memory. Written by an AI agent.
-/
import Derived.Test.YtlhfickniegooaaDoorPk13
import Derived.Test.YtlhfickniegooaaDoorPk14
import Derived.RangeFuncBound
import Derived.Test.YtlhfickniegooaaDoorPk09
import Derived.Laws.Cover3
import Derived.Deep.CutBlock
import Derived.Test.YtlhfickniegooaaDoorPk12
namespace Go.Proofs.YtlhfickniegooaaDoor
open Go.RowKit
set_option maxRecDepth 100000

def marks (ds : List Nat) : List Deferred := ds.map fun D => { target := .collected D, args := #[] }
theorem leaves_ok {P : Program} {n : Nat} {fn : Func} {tmps : Array Value} {R : Ending → World → Prop} (B : Nat) : ∀ (ds : List Nat) (w : World), ds.Nodup → (∀ D ∈ ds, B ≤ D ∧ w.heap[D]? = some (.deferred (some []))) →
    (∀ w', Ext B w w' → ∃ v, (results fn tmps).run P w' = .ok v w' ∧ R (.returned v) w') → LeavesInM Fence.wide n P fn tmps R (marks ds) .returning w
  | [], w, _, _, h => h w (Ext.refl B w)
  | D :: ds, w, hn, hD, h => by
    obtain ⟨h1, h2⟩ := hD D List.mem_cons_self
    refine ⟨by simp, .inl ⟨D, _, rfl, run_takeDeferred h2, ?_⟩⟩
    have hx : Ext B w (w.putObj D (.deferred none)) := Ext.put _ h2 rfl h1
    refine leaves_ok B ds _ (List.nodup_cons.1 hn).2 (fun D' hD' => ?_) (fun w' hw' => h w' (hx.trans hw'))
    obtain ⟨h3, h4⟩ := hD D' (List.mem_cons_of_mem _ hD')
    exact ⟨h3, (World.putObj_heap_other (fun e => (List.nodup_cons.1 hn).1 (by subst e; exact hD'))).trans h4⟩
theorem calls_evM {P : Program} {f : FuncId} {fn : Func} {c : Code} {vs : List Value} {w : World} {R : Ending → World → Prop} (n : Nat) (hf : P.funcs[f]? = some fn) (hb : fn.body = some c) (hn : fn.ntmps = n) (hv : vs.length ≤ n)
    (h : ∀ a, Sl n a (argsL 0 vs) → c.wp P (bodyPostM Fence.wide 9 P fn R) a w) : Calls P f vs.toArray w R := by
  refine (callsIn_wide (n := 9)).1 (callsIn_of_wp_marks hf hb trivial (wpIn_wide.2 ?_))
  rw [hn]
  exact h _ (Sl.start vs n hv)
theorem wpsI {P : Program} {l n : Nat} {x y : Code} {Q : Exit → Act → World → Prop} {a : Act} {w : World} (h : rg P (Exit.then (y.wpIn (rounds l) n P Q) Q) a w x) (hn : ndB x = true) (ho : ¬ LetsOut Q) : (Code.seq x y).wpIn (rounds l) n P Q a w :=
  wpIn_seq (rg_in h hn (fun ⟨a, w, h⟩ => ho ⟨a, w, h⟩))
theorem wplI {P : Program} {l n : Nat} {c : Code} {Q : Exit → Act → World → Prop} {a : Act} {w : World} (h : rg P (Exit.then (Q .normal) Q) a w c) (hn : ndB c = true) (ho : ¬ LetsOut Q) : c.wpIn (rounds l) n P Q a w := by
  have e : Exit.then (Q .normal) Q = Q := by
    funext e a w
    cases e <;> rfl
  rw [e] at h
  exact rg_in h hn ho
theorem postY_out {α : Type} {B : Nat} {I : List α → World → Prop} {Ix : Code → List α → World → Prop} {xs : List α} {W : World} : ¬ LetsOut (postY B I Ix xs W) := fun ⟨_, _, h⟩ => h
theorem then_outs {K : Act → World → Prop} {Q : Exit → Act → World → Prop} (h : ¬ LetsOut Q) : ¬ LetsOut (Exit.then K Q) := fun ⟨a, w, hh⟩ => h ⟨a, w, hh⟩
theorem block_outs {id : Nat} {Q : Exit → Act → World → Prop} (h : ¬ LetsOut Q) : ¬ LetsOut (Exit.inBlock id Q) := fun ⟨a, w, hh⟩ => h ⟨a, w, hh⟩

/-- each, All, Walk: a function that has caught the map. -/
theorem keach_any (w : World) (m : Nat) : Calls Tryd.prog 36 #[.pointer (some ⟨m, 0, none⟩)] w fun e w' => e = .returned (.func (.func 53) #[] #[.pointer (some ⟨w.heap.size, 0, none⟩)]) ∧ (Blk w' w.heap.size 24 #[.pointer (some ⟨m, 0, none⟩)] ∧ Below w.heap.size w w') := by
  refine calls_ev (vs := [.pointer (some ⟨m, 0, none⟩)]) 4 Tryd.func36 ke_body (by kernel_rfl) (by simp) fun a0 h0 => ?_
  unfold keBody
  refine wp_seq (rg_wp (ke_r0 h0 rfl fun a1 h1 => ?_))
  refine wp_seq (rg_wp (ke_r1 h1 rfl fun a2 h2 => wp_ret ?_))
  exact ret1 rfl h2 rfl ⟨rfl, Blk.new _ _ _, bl_alloc (Below.refl _ _) _⟩
theorem kallm_any (w : World) (m : Nat) : Calls Tryd.prog 15 #[.pointer (some ⟨m, 0, none⟩)] w fun e w' => e = .returned (.func (.func 30) #[] #[.pointer (some ⟨w.heap.size, 0, none⟩)]) ∧ (Blk w' w.heap.size 24 #[.pointer (some ⟨m, 0, none⟩)] ∧ Below w.heap.size w w') := by
  refine calls_ev (vs := [.pointer (some ⟨m, 0, none⟩)]) 4 Tryd.func15 kl_body (by kernel_rfl) (by simp) fun a0 h0 => ?_
  unfold klBody
  refine wp_seq (rg_wp (kl_r0 h0 rfl fun a1 h1 => ?_))
  refine wp_seq (rg_wp (kl_r1 h1 rfl fun a2 h2 => wp_ret ?_))
  exact ret1 rfl h2 rfl ⟨rfl, Blk.new _ _ _, bl_alloc (Below.refl _ _) _⟩
theorem kwalk_any (w : World) (m : Nat) : Calls Tryd.prog 12 #[.pointer (some ⟨m, 0, none⟩)] w fun e w' => e = .returned (.func (.func 27) #[] #[.pointer (some ⟨w.heap.size, 0, none⟩)]) ∧ (Blk w' w.heap.size 24 #[.pointer (some ⟨m, 0, none⟩)] ∧ Below w.heap.size w w') := by
  refine calls_ev (vs := [.pointer (some ⟨m, 0, none⟩)]) 4 Tryd.func12 kw_body (by kernel_rfl) (by simp) fun a0 h0 => ?_
  unfold kwBody
  refine wp_seq (rg_wp (kw_r0 h0 rfl fun a1 h1 => ?_))
  refine wp_seq (rg_wp (kw_r1 h1 rfl fun a2 h2 => wp_ret ?_))
  exact ret1 rfl h2 rfl ⟨rfl, Blk.new _ _ _, bl_alloc (Below.refl _ _) _⟩

/-- What the iterator over the entries wants of memory. -/
def EachM (O : List En) (g1 m : Nat) (W : World) : Prop := W.cell? ⟨g1, 0, none⟩ = some (.pointer (some ⟨m, 0, none⟩)) ∧ W.cell? ⟨m, 9, none⟩ = some (.pointer (pO O.head?)) ∧ ∀ X e Z, O = X ++ e :: Z → W.cell? ⟨e.g, 25, none⟩ = some (.pointer (pO Z.head?))
theorem idx_split {O X Z : List En} {e : En} (hn : (O.map (·.g)).Nodup) (h : O = X ++ e :: Z) : (O.map (·.g)).idxOf e.g = X.length := by
  rw [h, List.map_append, List.map_cons] at hn
  rw [h, List.map_append, List.map_cons, List.idxOf_append, if_neg]
  · simp
  · intro hm
    exact (List.nodup_append.1 hn).2.2 _ hm _ List.mem_cons_self rfl
set_option maxHeartbeats 1000000 in
theorem each_seq (O : List En) (hnd : (O.map (·.g)).Nodup) (g1 m : Nat) (w0 : World) : SeqY Tryd.prog 53 #[.pointer (some ⟨g1, 0, none⟩)] (fun e : En => #[.pointer (some ⟨e.g, 0, none⟩)]) (EachM O g1 m) (fun pre e _ => ∃ Z, O = pre ++ e :: Z) (fun xs _ => xs = O) w0 := by
  intro l J Jx W hb hJ hJx hM hY h0
  refine callsIn_wide.2 (calls_ev (vs := [.func (.yield l) #[] #[], .pointer (some ⟨g1, 0, none⟩)]) 18 Tryd.func53 k1_body (by kernel_rfl) (by simp) fun a0 h0' => ?_)
  unfold k1Body
  obtain ⟨c1, c2, c3⟩ := hM _ _ h0
  refine wp_seq (rg_wp (k1_r0 h0' rfl (lds1 Tryd.underlying24 rfl c1) (lds1 Tryd.underlying72 rfl c2) fun a1 h1 => ?_))
  refine wp_block ?_
  refine wp_loop (fun a' wr => ∃ (pre Z : List En), O = pre ++ Z ∧ Sl 18 a' [(3, .pointer (pO Z.head?)), (0, .func (.yield l) #[] #[]), (1, .pointer (some ⟨g1, 0, none⟩))] ∧ J pre wr)
    (fun a' _ => match slot a' 3 with
      | .pointer (some p) => (O.map (·.g)).length - (O.map (·.g)).idxOf p.block
      | _ => 0)
    ⟨[], O, rfl, h1.to ⟨rfl, rfl, rfl, trivial⟩, h0⟩ ?_
  rintro a2 w2 ⟨pre, Z, hO, h2, hJ2⟩
  unfold k1L0
  cases Z with
  | nil =>
    refine wp_seq (wp_seq (rg_wp (k1_r1n h2 rfl (fun w => neq_nn w) fun a3 h3 => wpx (h3.look 9 rfl) ?_)))
    refine then_exit' (in_block2 ?_)
    exact bodyPost_end (results_none rfl _ _ _) h3.defers ⟨⟨_, rfl⟩, .inl ⟨pre, by rw [hO]; simp, hJ2⟩⟩
  | cons e Z =>
    have hix := idx_split hnd hO
    have hmu : (match slot a2 3 with
      | .pointer (some p) => (O.map (·.g)).length - (O.map (·.g)).idxOf p.block
      | _ => 0) = O.length - pre.length := by
      rw [h2.look 3 rfl]
      show (O.map (·.g)).length - (O.map (·.g)).idxOf e.g = _
      rw [hix, List.length_map]
    rw [hmu]
    refine wp_seq (wp_seq (rg_wp (k1_r1e h2 rfl (fun w => neq_none ⟨e.g, 0, none⟩ w) fun a3 h3 => wpn (h3.look 9 rfl) ?_)))
    refine wp_seq (wp_block ?_)
    refine wp_seq (k1_r3 (C0 := fun b W' => (b = true ∧ J (pre ++ [e]) W') ∨ (b = false ∧ Jx (pre ++ [e]) W')) h3 rfl rfl (YieldAt.mono (hY pre e w2 hJ2 ⟨Z, hO⟩) fun r W' hh => ?_) fun a4 b w4 hx h4 => ?_)
    · rcases hh with ⟨rfl, hh⟩ | ⟨rfl, hh⟩
      · exact ⟨true, rfl, .inl ⟨rfl, hh⟩⟩
      · exact ⟨false, rfl, .inr ⟨rfl, hh⟩⟩
    rcases hx with ⟨rfl, hJ4⟩ | ⟨rfl, hJx4⟩
    · refine wpc_off (h4.look 17 rfl) (block_norm ?_)
      show Code.wp _ (r_k1 2) _ a4 w4
      have hO' : O = (pre ++ [e]) ++ Z := by rw [hO]; simp
      refine wpl (rg_wp (k1_r2 h4 rfl (lds1 Tryd.underlying72 rfl ((hM _ _ hJ4).2.2 pre e Z hO)) fun a5 h5 => ⟨⟨pre ++ [e], Z, hO', h5.to ⟨rfl, rfl, rfl, trivial⟩, hJ4⟩, ?_⟩))
      rw [h5.look 3 rfl]
      have hl : O.length = pre.length + 1 + Z.length := by rw [hO]; simp; omega
      cases Z with
      | nil => show 0 < _; omega
      | cons e2 Z2 =>
        show (O.map (·.g)).length - (O.map (·.g)).idxOf e2.g < _
        rw [idx_split hnd hO', List.length_map]
        simp only [List.length_append, List.length_cons, List.length_nil] at hl ⊢
        omega
    · refine wp_cond_true (h4.look 17 rfl) (wp_ret ?_)
      repeat (first | with_reducible refine then_ret ?_ | with_reducible refine block_ret ?_)
      exact bodyPost_ret (results_none rfl _ _ _) h4.defers ⟨⟨_, rfl⟩, .inr ⟨_, hJx4⟩⟩
end Go.Proofs.YtlhfickniegooaaDoor

namespace Go.Proofs.YtlhfickniegooaaDoor
open Go.RowKit Go.Sort

def CopyC (h : Hd) (k : Fo) : Prop := ∀ (w : World) (S : Nat → Prop) (pa : Option Addr) (pc : Nat) (ia : Option Addr) (ic : Nat), DatAt w S h k pa pc ia ic →
  Calls Tryd.prog 61 #[.agg (h.cells pa pc ia k.len ic)] w (TwinPost h k w)
/-- The first j elements of the row at block g are there, and lead to newer memory. -/
def Upto (w : World) (k : Fo) (g j : Nat) : Prop :=
  ∀ i a b, i < j → k.get i = some (a, b) → ∃ pa pc ia ic, CellsAt w g (i * 11) (a.cells pa pc ia b.len ic) ∧ DatAt w (fun x => g < x) a b pa pc ia ic
theorem upto_step {wr w6 : World} {k : Fo} {g j : Nat} {a : Hd} {b : Fo} {cu : Array Value} {t : TypeId} {qa : Option Addr} {qc : Nat} {ja : Option Addr} {jc : Nat} (gH : Upto wr k g j) (hlt : g < wr.heap.size)
    (hb6 : Below wr.heap.size wr w6) (hget : k.get j = some (a, b)) (hB : Blk w6 g t cu) (hsz : j * 11 + 11 ≤ cu.size) (hda : DatAt w6 (fun x => wr.heap.size ≤ x) a b qa qc ja jc) :
    Upto (w6.setCells g (j * 11) (a.cells qa qc ja b.len jc).toList) k g (j + 1) := by
  intro i c d hi e
  have hlen : (a.cells qa qc ja b.len jc).toList.length = 11 := by simp [Hd.cells]
  by_cases hij : i = j
  · subst hij
    rw [hget] at e
    injection e with e
    injection e with e1 e2
    subst e1 e2
    exact ⟨qa, qc, ja, jc, fun n v hv => World.rangeAt_setCells_same w6 g (i * 11) _ (there_blk hB (by rw [hlen]; exact hsz)) n v (by simpa using hv),
      hda.keep (fun x h1 _ => setCells_heap g _ _ _ x (by omega)) (fun x h1 _ => by omega)⟩
  · obtain ⟨pa, pc, ia, ic, h1, h2⟩ := gH i c d (by omega) e
    refine ⟨pa, pc, ia, ic, fun n v hv => ?_, h2.keep (fun x h1 h3 => (setCells_heap g _ _ _ x (by omega)).trans (hb6.block x h3)) (fun _ h _ => h)⟩
    have hn : n < 11 := by
      have : n < (c.cells pa pc ia d.len ic).size := by
        rcases Nat.lt_or_ge n (c.cells pa pc ia d.len ic).size with h | h
        · exact h
        · rw [Array.getElem?_eq_none h] at hv; cases hv
      simpa [Hd.cells] using this
    rw [World.cell?_setCells_out g _ (j * 11) w6 ⟨g, i * 11 + n, none⟩ (fun _ _ => by rw [hlen]; show i * 11 + n < j * 11 ∨ j * 11 + 11 ≤ i * 11 + n; omega)]
    exact (hb6.cell (p := ⟨g, i * 11 + n, none⟩) hlt).trans (h1 n v hv)
/-- The items lie in new memory. -/
def KidsDone (h : Hd) (k : Fo) (pa : Option Addr) (pc : Nat) (w wx : World) : Prop :=
  ∃ ia ic, Blk wx w.heap.size 31 (h.cells pa pc ia k.len ic) ∧ SlAt wx (fun b => w.heap.size + 1 < b) ia k ∧ k.len ≤ ic ∧ ic ≤ 9223372036854775807 ∧ (∃ cs, cs.size = 11 ∧ Blk wx (w.heap.size + 1) 31 cs) ∧ Below w.heap.size w wx
/-- The path lies in new memory, too. -/
def PathDone (h : Hd) (k : Fo) (ia : Option Addr) (ic : Nat) (w wx : World) : Prop :=
  ∃ pa pc, Blk wx w.heap.size 31 (h.cells pa pc ia k.len ic) ∧ PathAt wx (fun b => w.heap.size + 1 < b) pa h.path ∧ h.path.length ≤ pc ∧ pc ≤ 9223372036854775807 ∧ SlAt wx (fun b => w.heap.size + 1 < b) ia k ∧ (∃ cs, cs.size = 11 ∧ Blk wx (w.heap.size + 1) 31 cs) ∧ Below w.heap.size w wx
theorem below_of_grown {w w' : World} (h : w.grownBy w' none) : Below w.heap.size w w' := ⟨h.os, h.tape, h.output, h.size, fun k hk => h.block k hk (by simp)⟩
theorem own_full {w : World} {B g n : Nat} {e : TypeId} {xs : List Value} (h : w.ownsRow B e 11 (.slice (some ⟨g, 0, none⟩) n n) n xs) : ∃ cur, Blk w g e cur ∧ cur.size = n * 11 := by
  rcases h.2 with ⟨h, _⟩ | ⟨g', cap, cur, he, _, hh, _, _, hs, _⟩
  · cases h
  · injection he with e1 _ e3
    injection e1 with e1
    injection e1 with e1
    subst e1 e3
    exact ⟨cur, hh, hs⟩

set_option maxRecDepth 100000 in
set_option maxHeartbeats 4000000 in
theorem copied_one (h : Hd) (k : Fo) (ho : h.ok) (hkl : k.len ≤ 1034834473170) (ih : ∀ i a b, k.get i = some (a, b) → CopyC a b) : CopyC h k := by
  intro w S pa pc ia ic hd
  replace hd : DatAt w (fun b => b < w.heap.size) h k pa pc ia ic := hd.keep (fun _ _ _ => rfl) (fun b _ h => h)
  have hnn := fun W => run_neq_slice_nil (P := Tryd.prog) W 29 31 ia k.len ic Tryd.underlying29
  have hnp := fun W => run_neq_slice_nil (P := Tryd.prog) W 22 3 pa h.path.length pc Tryd.underlying22
  unfold Hd.cells
  go_enter Tryd.func61, Tryd.ntmps61
  go_upto_region 0 with fail
  go_cut [0, 1, 2] (fun _ t1 t2 wx => t1 = .pointer (some ⟨w.heap.size, 0, none⟩) ∧ t2 = .pointer (some ⟨w.heap.size + 1, 0, none⟩) ∧ Blk wx w.heap.size 31 (h.cells pa pc ia k.len ic) ∧ (∃ cs, cs.size = 11 ∧ Blk wx (w.heap.size + 1) 31 cs) ∧ Below w.heap.size w wx)
  case first =>
    go_wp2_with fail
    go_meet
    case rel => exact ⟨rfl, rfl, (Blk.new _ _ _).alloc _, ⟨_, by rfl, Blk.new1 _ _ _ _⟩, by ((repeat' (first | exact Below.refl _ _ | assumption | (refine bl_alloc ?_ _) | (refine Below.drew ?_) | (refine below_drewN ?_ _) | (refine Below.setCell ?_ ?_ _) | (refine bl_trans ?_ (by assumption)))) <;> first | omega | (simp; done) | (simp; omega))⟩
  case rest =>
  obtain ⟨rfl, rfl, hA, hR, hbw⟩ := hcut
  obtain ⟨w0, rfl⟩ : ∃ w0 : World, w0 = wc := ⟨_, rfl⟩
  have HR := Lib.hid hR
  clear hR
  have HD := Lib.hid hd
  have HIH := Lib.hid ih
  clear hd ih
  obtain ⟨c0, c1, c2, c3, c4, c5, c6, c7, c8, c9, c10⟩ := (CellsAt.of_blk hA).box
  go_upto_if 7 with fail
  go_cut [1] (fun t1 wx => t1 = .pointer (some ⟨w.heap.size, 0, none⟩) ∧ KidsDone h k pa pc w wx)
  case first =>
    as_aux_lemma =>
      have hkm : k.len ≤ 9223372036854775807 := by omega
      cases ia with
      | none =>
        have hl0 : k.len = 0 := by
          rcases HD.out.kids with h | ⟨b, o, h, _⟩
          · exact h
          · cases h
        have HL0 := Lib.hid hl0
        clear hl0
        go_wp2_with fail
        go_meet
        case rel => exact ⟨rfl, none, ic, hA, .inl HL0.out, HD.out.icLe, HD.out.icMax, HR.out, hbw⟩
      | some ad =>
        have hlA := hA.lt
        have hlR : w.heap.size + 1 < w0.heap.size := by obtain ⟨cs, _, h⟩ := HR.out; exact h.lt
        obtain ⟨i0, hi, hz0, hz1, hz2⟩ := info_parts info_dat
        go_wp2_with (at_make; refine wpList_make_full _ rfl (.tmp 10) (.tmp 10) _ rfl w0.heap.size 31 i0 _ 11 Tryd.underlying29 hi hz0 hz1 .i64 .i64 _ _ k.len rfl rfl rfl rfl (by rw [hz2]; omega) (by unfold maxLen; omega) (Nat.le_refl _) ?_)
        intro w1 hown hgrow
        obtain ⟨cur, hC, hcz⟩ := own_full hown
        have hb1 := below_of_grown hgrow
        have hA1 := hA.below hb1 hlA
        have hR1 : Hid (∃ cs, cs.size = 11 ∧ Blk w1 (w.heap.size + 1) 31 cs) := by
          obtain ⟨cs, h1, h2⟩ := HR.out
          exact ⟨cs, h1, h2.below hb1 h2.lt⟩
        have hC1 : Hid (∃ cur, Blk w1 w0.heap.size 31 cur ∧ cur.size = k.len * 11) := ⟨cur, hC, hcz⟩
        have hbw1 : Below w.heap.size w w1 := bl_trans hbw hb1
        have hU1 : Upto w1 k w0.heap.size 0 := fun i a b hi => absurd hi (by omega)
        clear hcz hown hgrow hi hz0 hz1 hz2 c0 c1 c2 c3 c4 c5 c6 c7 c8 c9 c10 hC
        go_wp2_with fail
        go_loopg [4] k.len (fun gk i wr => ∃ j : Nat, j ≤ k.len ∧ i = .int .i64 j ∧ gk = k.len - j ∧ Blk wr w.heap.size 31 (h.cells pa pc (some ad) k.len ic) ∧ Hid (∃ cs, cs.size = 11 ∧ Blk wr (w.heap.size + 1) 31 cs) ∧
          Hid (∃ cur, Blk wr w0.heap.size 31 cur ∧ cur.size = k.len * 11) ∧ Upto wr k w0.heap.size j ∧ Below w.heap.size w wr)
        case atStart => exact ⟨0, by omega, rfl, by omega, hA1, hR1, hC1, hU1, hbw1⟩
        case round =>
        obtain ⟨j, hj, rfl, rfl, gA, gR, gC, gH, gb⟩ := hrel
        clear hA1 hR1 hC1 hU1 hbw1
        obtain ⟨_, _, _, _, _, _, _, _, _, _, c10⟩ := (CellsAt.of_blk gA).box
        have hltN := gA.lt
        by_cases hlt : j < k.len
        · obtain ⟨a, b, hget⟩ := Fo.get_lt k j hlt
          have hks : SlAt wr (fun b => b < w.heap.size) (some ad) k := (HD.out.below gb (fun b _ h => h)).kids
          obtain ⟨b1, o1, had, _, qa, qc, ja, jc, hcs, hda⟩ := hks.get hget
          injection had with had
          subst had
          obtain ⟨d0, d1, d2, d3, d4, d5, d6, d7, d8, d9, d10⟩ := hcs.eleven
          obtain ⟨cu, gC1, gC2⟩ := gC.out
          have hltG := gC1.lt
          have hsz : j * 11 + 11 ≤ cu.size := by rw [gC2]; omega
          have HS := Lib.hid hsz
          have HC := Lib.hid gC2
          have hih := HIH.out j a b hget wr _ qa qc ja jc hda
          unfold Hd.cells at hih
          have HI := Lib.hid hih
          have hj0 : (0 : Int) ≤ (j : Int) := by omega
          have hj1 : (j : Int) < (k.len : Int) := by omega
          clear gC gC2 hsz hih hcs hda hks
          go_wp2_with fail
          refine HI.out.mono ?_
          rintro e w6 ⟨qa', qc', ja', jc', rfl, hda', hb6⟩
          have hst := run_store_cells (gC1.below hb6 hltG) (j * 11) a qa' qc' ja' b.len jc' HS.out
          clear d0 d1 d2 d3 d4 d5 d6 d7 d8 d9 d10 c10
          go_wp2_with fail
          have hB6 := gC1.below hb6 hltG
          have hH := upto_step gH hltG hb6 hget hB6 HS.out hda'
          have gA7 : Blk (w6.setCells w0.heap.size (j * 11) (a.cells qa' qc' ja' b.len jc').toList) w.heap.size 31 (h.cells pa pc (some ⟨b1, o1, none⟩) k.len ic) := (setCells_heap w0.heap.size _ _ _ _ (by omega)).trans (gA.below hb6 hltN)
          have gR7 : Hid (∃ cs, cs.size = 11 ∧ Blk (w6.setCells w0.heap.size (j * 11) (a.cells qa' qc' ja' b.len jc').toList) (w.heap.size + 1) 31 cs) := by
            obtain ⟨cs, gR1, gR2⟩ := gR.out
            exact ⟨cs, gR1, (setCells_heap w0.heap.size _ _ _ _ (by omega)).trans (gR2.below hb6 gR2.lt)⟩
          have gC7 : Hid (∃ cur, Blk (w6.setCells w0.heap.size (j * 11) (a.cells qa' qc' ja' b.len jc').toList) w0.heap.size 31 cur ∧ cur.size = k.len * 11) := by
            obtain ⟨cur, h1, h2⟩ := setCells_blk (a.cells qa' qc' ja' b.len jc').toList (j * 11) _ _ hB6
            exact ⟨cur, h1, by rw [h2, HC.out]⟩
          have gb7 : Below w.heap.size w (w6.setCells w0.heap.size (j * 11) (a.cells qa' qc' ja' b.len jc').toList) := setCells_below _ _ _ (bl_trans gb hb6) (by omega)
          generalize w6.setCells w0.heap.size (j * 11) (a.cells qa' qc' ja' b.len jc').toList = w7 at hH gA7 gR7 gC7 gb7 ⊢
          clear hst hb6 hB6 gH gA gR gb gC1 hda'
          go_wp2_with fail
          go_roundg (k.len - (j + 1))
          case measure => omega
          case rel => exact ⟨j + 1, by omega, by go_num, rfl, gA7, gR7, gC7, hH, gb7⟩
        · have hjl : j = k.len := by omega
          have HJ := Lib.hid hjl
          have hjn : ¬ ((j : Int) < (k.len : Int)) := by omega
          have f10 := gA.frozen 10
          clear hjl hlt
          go_wp2_with fail
          go_meet
          case rel =>
            refine ⟨rfl, some ⟨w0.heap.size, 0, none⟩, k.len, gA.set_ 10 (.slice (some ⟨w0.heap.size, 0, none⟩) k.len k.len), .inr ⟨w0.heap.size, 0, rfl, by omega, FoAt.of_get k _ 0 fun i c d e => ?_⟩, Nat.le_refl _, hkm, ?_, gb.setCell (Nat.le_refl _) _⟩
            · obtain ⟨pa2, pc2, ia2, ic2, h1, h2⟩ := gH i c d (by have := Fo.get_len _ _ _ e; have := HJ.out; omega) e
              exact ⟨pa2, pc2, ia2, ic2, by rw [Nat.zero_add]; exact h1.to_blk (Below.heap_setCell _ _ _ _ (by show w0.heap.size ≠ w.heap.size; omega)), h2.keep (fun x h1 _ => Below.heap_setCell _ _ _ _ (by have : w0.heap.size < x := h1; show x ≠ w.heap.size; omega)) (fun x h1 _ => by have : w0.heap.size < x := h1; show w.heap.size + 1 < x; omega)⟩
            · obtain ⟨cs, h1, h2⟩ := gR.out
              exact ⟨cs, h1, h2.far (p := ⟨w.heap.size, 10, none⟩) (by simp) _⟩
  case rest =>
  obtain ⟨rfl, hkd⟩ := hcut
  obtain ⟨ja, jc, hA2, hK2, hi1, hi2, hR2, hb2⟩ := hkd
  obtain ⟨w2, rfl⟩ : ∃ w2 : World, w2 = wc := ⟨_, rfl⟩
  have HR2 := Lib.hid hR2
  have HK2 := Lib.hid hK2
  have HI1 := Lib.hid hi1
  have HI2 := Lib.hid hi2
  clear c0 c1 c2 c3 c4 c5 c6 c7 c8 c9 c10 hA hbw HR hnn hR2 hK2 hi1 hi2
  obtain ⟨c0, c1, c2, c3, c4, c5, c6, c7, c8, c9, c10⟩ := (CellsAt.of_blk hA2).box
  have hlA := hA2.lt
  have hlR : w.heap.size + 1 < w2.heap.size := by obtain ⟨cs, _, h⟩ := HR2.out; exact h.lt
  have hpl := ho.path
  go_upto_if 32 with fail
  go_cut [1] (fun t1 wx => t1 = .pointer (some ⟨w.heap.size, 0, none⟩) ∧ PathDone h k ja jc w wx)
  case first =>
    as_aux_lemma =>
      cases pa with
      | none =>
        have hl0 : h.path = [] := by
          rcases HD.out.path with h | ⟨b, o, h, _⟩
          · exact h
          · cases h
        have HL0 := Lib.hid hl0
        clear hl0
        go_wp2_with fail
        go_meet
        case rel => exact ⟨rfl, none, pc, hA2, .inl HL0.out, HD.out.pcLe, HD.out.pcMax, HK2.out, HR2.out, hb2⟩
      | some ad =>
        obtain ⟨i0, hi, hz0, hz1, hz2⟩ := info_parts info_int
        have hp1 := path_news ((HD.out.below hb2 (fun b _ h => h)).path)
        have HP := Lib.hid hp1
        have hown : w2.ownsRow w2.heap.size 3 1 (.slice none 0 0) 0 [] := ⟨rfl, .inl ⟨rfl, rfl⟩⟩
        have HOWN := Lib.hid hown
        clear hp1 hown
        go_wp2_with (at_builtin; refine wpList_append_own_at _ rfl (.const (.slice none 0 0)) (.tmp 35) _ rfl w2.heap.size 3 i0 _ 1 8 Tryd.underlying22 hi hz0 hz1 hz2 rfl (by omega) (.slice none 0 0) 0 [] rfl HOWN.out ad h.path.length pc (h.path.map (Value.int .i64)) rfl (by simp) HP.out (by simp [Value.oneCell']) (by unfold maxLen; omega) (by omega) (Nat.le_refl _) ?_)
        intro v' w3 hown' hgrow _ _
        obtain ⟨pa', pc', hv, h1, h2, h3⟩ := own_path (by simpa using hown')
        subst hv
        have hb3 : Below w2.heap.size w2 w3 := below_of_grown hgrow
        have hA3 := hA2.below hb3 hlA
        have f9 := hA3.frozen 9
        have hA4 := hA3.set_ 9 (.slice pa' h.path.length pc')
        have hs3 := hb3.size
        clear c0 c1 c2 c3 c4 c5 c6 c7 c8 c9 c10 hi hz0 hz1 hz2 hown' hgrow
        obtain ⟨c0, c1, c2, c3, c4, c5, c6, c7, c8, c9, c10⟩ := (CellsAt.of_blk hA3).box
        go_wp2_with fail
        go_meet
        case rel =>
          refine ⟨rfl, pa', pc', hA4, h1.keep (fun b hb _ => Below.heap_setCell _ _ _ _ (by have : w2.heap.size ≤ b := hb; show b ≠ w.heap.size; omega)) (fun b hb _ => by have : w2.heap.size ≤ b := hb; show w.heap.size + 1 < b; omega), h2, h3,
            HK2.out.keep (fun b hb hlt => (Below.heap_setCell _ _ _ _ (by have : w.heap.size + 1 < b := hb; show b ≠ w.heap.size; omega)).trans (hb3.block b hlt)) (fun _ h _ => h), ?_, (bl_trans hb2 hb3).setCell (Nat.le_refl _) _⟩
          obtain ⟨cs, h1, h2⟩ := HR2.out
          exact ⟨cs, h1, (h2.below hb3 h2.lt).far (p := ⟨w.heap.size, 9, none⟩) (by simp) _⟩
  case rest =>
  obtain ⟨rfl, hpd⟩ := hcut
  obtain ⟨qa, qc, hA3, hP3, hq1, hq2, hK3, ⟨cs, hcs, hR3⟩, hb3⟩ := hpd
  obtain ⟨w3, rfl⟩ : ∃ w3 : World, w3 = wc := ⟨_, rfl⟩
  clear c0 c1 c2 c3 c4 c5 c6 c7 c8 c9 c10 hA2 HR2 HK2 hb2 hnp hlA hlR HIH
  obtain ⟨c0, c1, c2, c3, c4, c5, c6, c7, c8, c9, c10⟩ := (CellsAt.of_blk hA3).box
  have hfr := fun j => hR3.frozen j
  obtain ⟨v0, v1, v2, v3, v4, v5, v6, v7, v8, v9, v10, q0, q1, q2, q3, q4, q5, q6, q7, q8, q9, q10⟩ := hR3.eleven hcs
  have hd8 : DatAt (w3.setCells (w.heap.size + 1) 0 (h.cells qa qc ja k.len jc).toList) (fun b => w.heap.size ≤ b) h k qa qc ja jc :=
    ⟨hP3.keep (fun x h1 _ => setCells_heap _ _ _ _ _ (by have : w.heap.size + 1 < x := h1; omega)) (fun x h1 _ => by have : w.heap.size + 1 < x := h1; show w.heap.size ≤ x; omega), hq1, hq2,
      hK3.keep (fun x h1 _ => setCells_heap _ _ _ _ _ (by have : w.heap.size + 1 < x := h1; omega)) (fun x h1 _ => by have : w.heap.size + 1 < x := h1; show w.heap.size ≤ x; omega), HI1.out, HI2.out⟩
  have gb8 : Below w.heap.size w (w3.setCells (w.heap.size + 1) 0 (h.cells qa qc ja k.len jc).toList) := setCells_below _ _ _ hb3 (by omega)
  go_wp2_with fail
  exact bodyPost_ret (v := .agg (h.cells qa qc ja k.len jc)) (by simp [results, Tryd.results61, go_sem, q0, q1, q2, q3, q4, q5, q6, q7, q8, q9, q10, Hd.cells]) rfl ⟨qa, qc, ja, jc, rfl, hd8, gb8⟩
theorem copied_all : ∀ (f : Fo), f.ok → ∀ (i : Nat) (a : Hd) (b : Fo), f.get i = some (a, b) → CopyC a b
  | .nil, _, i, a, b, e => by simp [Fo.get] at e
  | .cons h k r, o, 0, a, b, e => by
    simp only [Fo.get, Option.some.injEq, Prod.mk.injEq] at e
    obtain ⟨rfl, rfl⟩ := e
    exact copied_one _ _ o.1 o.2.2.2 (fun i c d e => copied_all k o.2.1 i c d e)
  | .cons h k r, o, i + 1, a, b, e => copied_all r o.2.2.1 i a b e
theorem copied_any (h : Hd) (k : Fo) (ho : h.ok) (hk : k.ok) (hl : k.len ≤ 1034834473170) : CopyC h k := copied_one h k ho hl (fun i a b e => copied_all k hk i a b e)
end Go.Proofs.YtlhfickniegooaaDoor

namespace Go.Proofs.YtlhfickniegooaaDoor
open Go.RowKit Go.Sort
set_option maxRecDepth 100000

def KCopyC (h : Hd) (k : Fo) : Prop := ∀ (w : World) (S : Nat → Prop) (m : Dm), Dt.at ⟨h, k⟩ w S m →
  Calls Tryd.prog 23 #[.agg (Dt.cs ⟨h, k⟩ m)] w fun e w' => ∃ m' : Dm, e = .returned (.agg (Dt.cs ⟨h, k⟩ m')) ∧ (Dt.at ⟨h, k⟩ w' (fun b => w.heap.size ≤ b) m' ∧ Below w.heap.size w w')
theorem datBytes : (Tryd.prog.info? 31).map (fun i => decide (i.bytes ≤ 200)) = some true := by kernel_rfl
theorem make_dat (n : Nat) (hn : n ≤ 1034834473170) (w : World) : ∃ w', (Instr.makeSlice 29 (.int .i64 (n : Int)) (.int .i64 (n : Int))).run Tryd.prog w = .ok (.slice (some ⟨w.heap.size, 0, none⟩) n n) w' ∧ (∃ cur, Blk w' w.heap.size 31 cur ∧ cur.size = n * 11) ∧ Below w.heap.size w w' := by
  obtain ⟨i, hi, hz⟩ := Option.map_eq_some_iff.1 info_dat
  obtain ⟨i', hi', hby⟩ := Option.map_eq_some_iff.1 datBytes
  rw [hi] at hi'
  injection hi' with hi'
  subst hi'
  injection hz with hz0 hz
  injection hz with hz1 hz2
  have hb : i.bytes ≤ 200 := by simpa using hby
  obtain ⟨w', h1, h2, h3⟩ := run_make_full (P := Tryd.prog) w w.heap.size 29 31 i _ 11 Tryd.underlying29 hi hz0 hz1 .i64 .i64 n (by
    have : i.bytes * n ≤ 200 * n := Nat.mul_le_mul_right _ hb
    omega) (by unfold maxLen; omega) (Nat.le_refl _)
  exact ⟨w', h1, own_full h2, below_of_grown h3⟩
theorem cell_dat {w : World} {g : Nat} {t : TypeId} {d : Dt} {m : Dm} (h : Blk w g t (d.cs m)) (u : TypeId) {td : TypeDesc} (hu : Tryd.prog.underlying u = some td) (hd : td.isRow = false) (o : Nat) {v : Value} (e : (d.cs m)[o]? = some v) : Lds Tryd.prog u (.pointer (some ⟨g, o, none⟩)) v w := one_load h hu hd e

set_option maxHeartbeats 2000000 in
theorem kcopied_one (h : Hd) (k : Fo) (ho : h.ok) (hkl : k.len ≤ 1034834473170) (ih : ∀ i a b, k.get i = some (a, b) → KCopyC a b) : KCopyC h k := by
  intro w S m hd
  obtain ⟨pa, pc, ia, ic⟩ := m
  refine calls_ev (vs := [.agg (Dt.cs ⟨h, k⟩ ⟨pa, pc, ia, ic⟩)]) 40 Tryd.func23 kc_body (by kernel_rfl) (by simp) fun a0 h0 => ?_
  unfold kcBody
  refine wp_seq (rg_wp (kc_r0 h0 rfl fun a1 h1 => ?_))
  have hA1 := (Blk.new w 31 (Dt.cs ⟨h, k⟩ ⟨pa, pc, ia, ic⟩)).alloc (.cells zeroC 31)
  have hZ1 := Blk.new1 w (.cells (Dt.cs ⟨h, k⟩ ⟨pa, pc, ia, ic⟩) 31) 31 zeroC
  have hb1 := bl_alloc (bl_alloc (Below.refl w.heap.size w) (.cells (Dt.cs ⟨h, k⟩ ⟨pa, pc, ia, ic⟩) 31)) (.cells zeroC 31)
  have hs1 : (w.alloc (.cells (Dt.cs ⟨h, k⟩ ⟨pa, pc, ia, ic⟩) 31)).heap.size = w.heap.size + 1 := by simp
  rw [hs1] at h1
  have hsz : ((w.alloc (.cells (Dt.cs ⟨h, k⟩ ⟨pa, pc, ia, ic⟩) 31)).alloc (.cells zeroC 31)).heap.size = w.heap.size + 2 := by simp
  show Code.wp _ _ _ a1 ((w.alloc (.cells (Dt.cs ⟨h, k⟩ ⟨pa, pc, ia, ic⟩) 31)).alloc (.cells zeroC 31))
  generalize (w.alloc (.cells (Dt.cs ⟨h, k⟩ ⟨pa, pc, ia, ic⟩) 31)).alloc (.cells zeroC 31) = w1 at hA1 hZ1 hb1 hsz ⊢
  -- behind the items: their new row, or none
  have kids : ∀ Q : Exit → Act → World → Prop, (∀ a2 w2 l2 ja jc, Sl 40 a2 l2 → AllL l2 [(1, .pointer (some ⟨w.heap.size, 0, none⟩)), (2, .pointer (some ⟨w.heap.size + 1, 0, none⟩))] → Blk w2 w.heap.size 31 (Dt.cs ⟨h, k⟩ ⟨pa, pc, ja, jc⟩) → Blk w2 (w.heap.size + 1) 31 zeroC →
      SlAt w2 (fun b => w.heap.size + 1 < b) ja k → k.len ≤ jc → jc ≤ 9223372036854775807 → Below w.heap.size w w2 → Q .normal a2 w2) →
      (Code.seq (r_kc 1) (.cond (.tmp 8) (.seq (r_kc 2) (.seq (.seq (r_kc 3) (.block 0 (.loop kcL0))) (r_kc 8))) .skip)).wp Tryd.prog Q a1 w1 := fun Q hQ => by
    cases ia with
    | none =>
      have hk0 : k.len = 0 := by
        rcases hd.kids with e | ⟨b, o, e, _⟩
        · exact e
        · cases e
      refine wp_seq (rg_wp (kc_r1 h1 rfl (one_load hA1 Tryd.underlying29 rfl rfl) (fun w => run_neq_slice_nil w 29 31 none k.len ic Tryd.underlying29) fun a2 h2 => wpc_off (h2.look 8 rfl) ?_))
      exact hQ a2 w1 _ none ic h2 ⟨rfl, rfl, trivial⟩ hA1 hZ1 (.inl hk0) hd.icLe hd.icMax hb1
    | some ad =>
      refine wp_seq (rg_wp (kc_r1 h1 rfl (one_load hA1 Tryd.underlying29 rfl rfl) (fun w => run_neq_slice_nil w 29 31 (some ad) k.len ic Tryd.underlying29) fun a2 h2 => wp_cond_true (h2.look 8 rfl) ?_))
      obtain ⟨w2, hmk, ⟨cur, hcur, hcz⟩, hb2⟩ := make_dat k.len hkl w1
      refine wp_seq (rg_wp (kc_r2 h2 rfl (one_load hA1 Tryd.underlying29 rfl rfl) hmk fun a3 h3 => ?_))
      have hA2 := hA1.below hb2 hA1.lt
      have hZ2 := hZ1.below hb2 hZ1.lt
      have hb02 := bl_trans hb1 hb2
      have z2 := hb2.size
      have hg3 : w1.heap.size < w2.heap.size := hcur.lt
      refine wp_seq (wp_seq (rg_wp (kc_r3 h3 rfl (one_load hA2 Tryd.underlying29 rfl rfl) fun a4 h4 => ?_)))
      refine wp_block ?_
      refine wp_loop (fun a' wr => ∃ j : Nat, j ≤ k.len ∧ Sl 40 a' [(16, .int .i64 (j : Int)), (15, .int .i64 (k.len : Int)), (14, .slice (some ad) k.len ic), (3, .slice (some ⟨w1.heap.size, 0, none⟩) k.len k.len), (1, .pointer (some ⟨w.heap.size, 0, none⟩)), (2, .pointer (some ⟨w.heap.size + 1, 0, none⟩))] ∧
          Blk wr w.heap.size 31 (Dt.cs ⟨h, k⟩ ⟨pa, pc, some ad, ic⟩) ∧ Blk wr (w.heap.size + 1) 31 zeroC ∧ (∃ cu, Blk wr w1.heap.size 31 cu ∧ cu.size = k.len * 11) ∧ Upto wr k w1.heap.size j ∧ Below w.heap.size w wr) (fun a' _ => muTo k.len (slot a' 16))
        ⟨0, by omega, h4.to ⟨rfl, rfl, rfl, rfl, rfl, rfl, trivial⟩, hA2, hZ2, ⟨cur, hcur, hcz⟩, fun i a b hi => absurd hi (by omega), hb02⟩ ?_
      rintro a5 w5 ⟨j, hj, h5, hA5, hZ5, ⟨cu, hcu, hcuz⟩, hU5, hb5⟩
      rw [h5.look 16 rfl, muTo_int]
      unfold kcL0
      by_cases hlt : j < k.len
      · refine wp_seq (rg_wp (kc_r4 h5 rfl rfl (decide_eq_true (by omega)) fun a6 h6 => ?_))
        refine wp_seq (wpn (h6.look 17 rfl) ?_)
        obtain ⟨x, y, hxy⟩ := Fo.get_lt k j hlt
        have hd5 := hd.old hb5
        obtain ⟨b, o, had, hbS, qa, qc, ja, jc, hcs, hda⟩ := hd5.kids.get hxy
        have had' : (⟨b, o, none⟩ : Addr) = ad := by injection had with e; exact e.symm
        subst had'
        have hz := Blk.new w5 31 zeroC
        have hblt : b < w5.heap.size := cell_lt (hcs 0 _ rfl)
        refine wp_seq (wp_block ?_)
        refine wp_seq (rg_wp (kc_r5 (d20 := ⟨x, y⟩) (m20 := ⟨qa, qc, ja, jc⟩) h6 rfl rfl (fun w => ix_at2 j Tryd.underlying29 datInf hlt w) (ldsA (cs := (Dt.cs ⟨x, y⟩ ⟨qa, qc, ja, jc⟩).toList) Tryd.underlying31 rfl datInf (fun n v hv => hcs n v (by rw [Array.getElem?_toList] at hv; exact hv))) (dat_store hz (by decide)) fun a7 h7 => ?_))
        have hB7 := over_dat hz rfl ⟨x, y⟩ ⟨qa, qc, ja, jc⟩
        have hb7 := below_setCells (Dt.cs ⟨x, y⟩ ⟨qa, qc, ja, jc⟩).toList 0 _ (bl_alloc (Below.refl w5.heap.size w5) (.cells zeroC 31)) (Nat.le_refl _)
        show Code.wp _ _ _ a7 (World.setCells (w5.alloc (.cells zeroC 31)) w5.heap.size 0 (Dt.cs ⟨x, y⟩ ⟨qa, qc, ja, jc⟩).toList)
        generalize World.setCells (w5.alloc (.cells zeroC 31)) w5.heap.size 0 (Dt.cs ⟨x, y⟩ ⟨qa, qc, ja, jc⟩).toList = w7 at hB7 hb7 ⊢
        have hda7 : Dt.at ⟨x, y⟩ w7 S ⟨qa, qc, ja, jc⟩ := Dt.at.old (d := ⟨x, y⟩) (m := ⟨qa, qc, ja, jc⟩) hda hb7
        have hcu7 := hcu.below hb7 hcu.lt
        refine wpl (rg_wp (kc_r6 h7 rfl rfl rfl (dat_whole hB7) (ih j x y hxy w7 S ⟨qa, qc, ja, jc⟩ hda7) (fun w => ix_at (o := j * 11) (sz := 11) j rfl Tryd.underlying29 datInf hlt rfl w)
          (fun m8 w8 h8 => dat_store (hcu7.below h8.2 hcu7.lt) (by rw [hcuz]; omega)) fun a8 m8 w8 hx8 h8 => block_norm ?_))
        obtain ⟨hda8, hb8⟩ := hx8
        show Code.wp _ (r_kc 7) _ a8 _
        have hb58 := bl_trans hb7 hb8
        have hcu8 := hcu7.below hb8 hcu7.lt
        have hlt5 : w1.heap.size < w5.heap.size := hcu.lt
        have hU8 := upto_step (qa := m8.pa) (qc := m8.pc) (ja := m8.ia) (jc := m8.ic) hU5 hlt5 hb58 hxy hcu8 (by rw [hcuz]; omega) (hda8.keep (fun _ _ _ => rfl) (fun c hc _ => Nat.le_trans hb7.size hc))
        have z5 := hA5.lt
        have z5' := hZ5.lt
        have hne1 : w.heap.size ≠ w1.heap.size := by omega
        have hne2 : w.heap.size + 1 ≠ w1.heap.size := by omega
        have hA8 := Blk.farL (b := w1.heap.size) hne1 (Dt.cs ⟨x, y⟩ m8).toList (j * 11) _ ((hA5.below hb58 z5))
        have hZ8 := Blk.farL (b := w1.heap.size) hne2 (Dt.cs ⟨x, y⟩ m8).toList (j * 11) _ ((hZ5.below hb58 z5'))
        have hcu9 : ∃ cu, Blk (w8.setCells w1.heap.size (j * 11) (Dt.cs ⟨x, y⟩ m8).toList) w1.heap.size 31 cu ∧ cu.size = k.len * 11 := ⟨_, Blk.setL _ _ _ _ hcu8, by rw [foldSet_size, hcuz]⟩
        have hb9 : Below w.heap.size w (w8.setCells w1.heap.size (j * 11) (Dt.cs ⟨x, y⟩ m8).toList) := below_setCells _ _ _ (bl_trans hb5 hb58) (by omega)
        refine wpl (rg_wp (kc_r7 h8 rfl (by omega) fun a9 h9 => ⟨⟨j + 1, by omega, h9.to ⟨rfl, rfl, rfl, rfl, rfl, rfl, trivial⟩, hA8, hZ8, hcu9, hU8, hb9⟩, ?_⟩))
        rw [h9.look 16 rfl]
        show muTo k.len (.int .i64 ((j + 1 : Nat) : Int)) < _
        rw [muTo_int]
        omega
      · have hje : j = k.len := by omega
        subst hje
        refine wp_seq (rg_wp (kc_r4 h5 rfl rfl (decide_eq_false (by omega)) fun a6 h6 => ?_))
        refine wp_seq (wpc_exit (h6.look 17 rfl) ?_)
        refine then_exit' (then_exit' (in_block2 ?_))
        show Code.wp _ (r_kc 8) _ a6 w5
        refine wpl (rg_wp (kc_r8 h6 rfl rfl (one_store hA5 (by kernel_rfl) (by rw [Dt.cs_size]; omega) rfl) fun a7 h7 => ?_))
        have hA6 := hA5.set_ 10 (.slice (some ⟨w1.heap.size, 0, none⟩) k.len k.len)
        have z5 := hcu.lt
        have hne : ∀ b, w.heap.size + 1 < b → b ≠ w.heap.size := fun b hb => by omega
        have hfo : FoAt w5 (fun b => w.heap.size + 1 < b) w1.heap.size 0 k := FoAt.of_get k _ _ fun i a b hg => by
          obtain ⟨qa, qc, ja, jc, q1, q2⟩ := hU5 i a b (Fo.get_len _ _ _ hg) hg
          exact ⟨qa, qc, ja, jc, by rw [Nat.zero_add]; exact q1, q2.keep (fun _ _ _ => rfl) (fun c hc _ => by omega)⟩
        have hsl : SlAt w5 (fun b => w.heap.size + 1 < b) (some ⟨w1.heap.size, 0, none⟩) k := .inr ⟨_, _, rfl, by omega, hfo⟩
        refine hQ a7 _ _ (some ⟨w1.heap.size, 0, none⟩) k.len h7 ⟨rfl, rfl, trivial⟩ hA6 (hZ5.far (p := ⟨w.heap.size, 10, none⟩) (by show _ ≠ w.heap.size; omega) _) ?_ (Nat.le_refl _) (by omega) (below_setCells [_] 10 _ hb5 (Nat.le_refl _))
        exact hsl.keep (fun b hb _ => setCells_other [_] 10 w5 (hne b hb)) (fun _ h _ => h)
  refine wp_seq (kids _ fun a2 w2 l2 ja jc h2 hl2 hA2 hZ2 hk2 hjc1 hjc2 hb2 => ?_)
  clear kids
  have h2 := h2.to hl2
  have done : ∀ (a3 : Act) (w3 : World) (l3 : List (Nat × Value)) (qa : Option Addr) (qc : Nat), Sl 40 a3 l3 → AllL l3 [(1, .pointer (some ⟨w.heap.size, 0, none⟩)), (2, .pointer (some ⟨w.heap.size + 1, 0, none⟩))] → Blk w3 w.heap.size 31 (Dt.cs ⟨h, k⟩ ⟨qa, qc, ja, jc⟩) → Blk w3 (w.heap.size + 1) 31 zeroC →
      PathAt w3 (fun b => w.heap.size + 1 < b) qa h.path → h.path.length ≤ qc → qc ≤ 9223372036854775807 → SlAt w3 (fun b => w.heap.size + 1 < b) ja k → Below w.heap.size w w3 →
      (Code.seq (r_kc 11) .ret).wp Tryd.prog (bodyPost Tryd.prog Tryd.f23 fun e w' => ∃ m' : Dm, e = .returned (.agg (Dt.cs ⟨h, k⟩ m')) ∧ (Dt.at ⟨h, k⟩ w' (fun b => w.heap.size ≤ b) m' ∧ Below w.heap.size w w')) a3 w3 := fun a3 w3 l3 qa qc h3 hl3 hA3 hZ3 hp hpc hpm hk hb3 => by
    refine wp_seq (rg_wp (kc_r11 (d39 := ⟨h, k⟩) (m39 := ⟨qa, qc, ja, jc⟩) (h3.to hl3) rfl rfl (dat_whole hA3) (dat_store hZ3 (by decide)) fun a4 h4 => wp_ret ?_))
    have hB := over_dat hZ3 rfl ⟨h, k⟩ ⟨qa, qc, ja, jc⟩
    have hne : ∀ b, w.heap.size + 1 < b → b ≠ w.heap.size + 1 := fun b hb => by omega
    refine ret_c rfl h4 rfl (dat_whole hB) ⟨⟨qa, qc, ja, jc⟩, rfl, ⟨?_, hpc, hpm, ?_, hjc1, hjc2⟩, below_setCells _ _ _ hb3 (by omega)⟩
    · exact hp.keep (fun b hb _ => setCells_other _ 0 w3 (hne b hb)) (fun b hb _ => by show w.heap.size ≤ b; omega)
    · exact hk.keep (fun b hb _ => setCells_other _ 0 w3 (hne b hb)) (fun b hb _ => by show w.heap.size ≤ b; omega)
  cases pa with
  | none =>
    have hp0 : h.path = [] := by
      rcases hd.path with e | ⟨b, o, e, _⟩
      · exact e
      · cases e
    refine wp_seq (wp_seq (rg_wp (kc_r9 h2 rfl (one_load hA2 Tryd.underlying22 rfl rfl) (fun w => run_neq_slice_nil w 22 3 none h.path.length pc Tryd.underlying22) fun a3 h3 => wpc_off (h3.look 32 rfl) ?_)))
    exact done a3 w2 _ none pc h3 ⟨rfl, rfl, trivial⟩ hA2 hZ2 (.inl hp0) hd.pcLe hd.pcMax hk2 hb2
  | some ad =>
    refine wp_seq (wp_seq (rg_wp (kc_r9 h2 rfl (one_load hA2 Tryd.underlying22 rfl rfl) (fun w => run_neq_slice_nil w 22 3 (some ad) h.path.length pc Tryd.underlying22) fun a3 h3 => wp_cond_true (h3.look 32 rfl) ?_)))
    obtain ⟨i0, hi, hz0, hz1, hz2⟩ := info_parts info_int
    have hp1 := path_news ((hd.old hb2).path)
    have happ : ∀ ty, ∃ (v : S3) (w' : World), (Builtin.append_ #[22, 22] ty #[.slice none 0 0, .slice (some ad) h.path.length pc]).run Tryd.prog w2 = .ok v.v w' ∧ (v.n = h.path.length ∧ PathAt w' (fun b => w2.heap.size ≤ b) v.d h.path ∧ h.path.length ≤ v.c ∧ v.c ≤ 9223372036854775807 ∧ Below w2.heap.size w2 w') := fun ty => by
      have hpl := ho.path
      obtain ⟨v', w', hr, hown, hg, _⟩ := run_append_own (P := Tryd.prog) (w := w2) w2.heap.size 22 ty 3 i0 _ 1 8 Tryd.underlying22 hi hz0 hz1 hz2 rfl (by omega) (.slice none 0 0) 0 [] ⟨rfl, .inl ⟨rfl, rfl⟩⟩ ad h.path.length pc (h.path.map (Value.int .i64)) (by simp) hp1 (fun u hu => by
        obtain ⟨c, _, rfl⟩ := List.mem_map.1 hu
        rfl) (by unfold maxLen; omega) (by omega) (Nat.le_refl _)
      obtain ⟨qa, qc, hv, h1, h2, h3⟩ := own_path (by simpa using hown)
      subst hv
      exact ⟨⟨qa, h.path.length, qc⟩, w', hr, rfl, h1, h2, h3, below_of_grown hg⟩
    refine wpl (rg_wp (kc_r10 h3 rfl (one_load hA2 Tryd.underlying22 rfl rfl) happ (fun x w' hx => one_store (hA2.below hx.2.2.2.2 hA2.lt) (by kernel_rfl) (by rw [Dt.cs_size]; omega) rfl) fun a4 x w4 hx h4 => ?_))
    obtain ⟨hxn, hxp, hxc, hxm, hb4⟩ := hx
    have hA4 := (hA2.below hb4 hA2.lt).set_ (5 + 4) (.slice x.d x.n x.c)
    rw [hxn] at hA4 ⊢
    have z2 := hZ2.lt
    have hne : ∀ b, w2.heap.size ≤ b → b ≠ w.heap.size := fun b hb => by omega
    have hne2 : ∀ b, w.heap.size + 1 < b → b ≠ w.heap.size := fun b hb => by omega
    exact done a4 _ _ x.d x.c h4 ⟨rfl, rfl, trivial⟩ hA4 ((hZ2.below hb4 hZ2.lt).far (p := ⟨w.heap.size, 5 + 4, none⟩) (by show _ ≠ w.heap.size; omega) _)
      (hxp.keep (fun b hb _ => setCells_other [_] (5 + 4) w4 (hne b hb)) (fun b hb _ => by show w.heap.size + 1 < b; omega)) hxc hxm
      (hk2.keep (fun b hb hlt => (setCells_other [_] (5 + 4) w4 (hne2 b hb)).trans (hb4.block b hlt)) (fun _ h _ => h)) (below_setCells [_] (5 + 4) _ (bl_trans hb2 hb4) (Nat.le_refl _))
theorem kcopied_all : ∀ (f : Fo), f.ok → ∀ i a b, f.get i = some (a, b) → KCopyC a b
  | .nil, _, i, a, b, e => by cases e
  | .cons h k r, o, 0, a, b, e => by
    simp only [Fo.get, Option.some.injEq, Prod.mk.injEq] at e
    obtain ⟨rfl, rfl⟩ := e
    exact kcopied_one h k o.1 o.2.2.2 (kcopied_all k o.2.1)
  | .cons h k r, o, i + 1, a, b, e => kcopied_all r o.2.2.1 i a b e
theorem kcopied_any {d : Dt} (ho : d.ok) {w : World} {S : Nat → Prop} {m : Dm} (hd : d.at w S m) :
    Calls Tryd.prog 23 #[.agg (d.cs m)] w fun e w' => ∃ m' : Dm, e = .returned (.agg (d.cs m')) ∧ (d.at w' (fun b => w.heap.size ≤ b) m' ∧ Below w.heap.size w w') :=
  kcopied_one d.h d.k ho.h ho.len (kcopied_all d.k ho.k) w S m hd
end Go.Proofs.YtlhfickniegooaaDoor
