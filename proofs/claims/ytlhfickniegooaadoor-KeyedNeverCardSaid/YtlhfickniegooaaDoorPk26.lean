/-
  An argument of type api.Datum, opened: what reads as a datum is a tree in memory (no condition but the row's own reach). Words for the rows: the listed variable, an argument opened, the post of a law. An argument of type []int, opened. Written by an AI agent.
-/
import Derived.Test.YtlhfickniegooaaDoorPk01
import Derived.Test.YtlhfickniegooaaDoorChecked
import Derived.ProofKit
import Derived.Deep.Slices
import Derived.ChangeSlices
import Derived.Test.YtlhfickniegooaaDoorPk06
import Derived.Test.YtlhfickniegooaaDoorRows
import Derived.Below
import Derived.LaidMore
import Derived.LaidLaws
import Derived.LaidHandle
import Derived.OpenShut
import Derived.Stop.Joined
namespace Go.Proofs.YtlhfickniegooaaDoor
open Go.RowKit Go.ChangeShapes Go.WideShapes

section
variable {H : Type} {enc : TypeId × Value → H} {w : World}
theorem cellsD : Tryd.prog.cellsOf 31 = 11 := by kernel_rfl
theorem cellsR : Tryd.prog.cellsOf 28 = 5 := by kernel_rfl
theorem cellsI : Tryd.prog.cellsOf 3 = 1 := by kernel_rfl
theorem cellsS : Tryd.prog.cellsOf 9 = 1 := by kernel_rfl
theorem cellsU : Tryd.prog.cellsOf 26 = 1 := by kernel_rfl
theorem cellsP : Tryd.prog.cellsOf 22 = 1 := by kernel_rfl
theorem cellsL : Tryd.prog.cellsOf 29 = 1 := by kernel_rfl
theorem bytesD : Tryd.prog.bytesOf 31 = 136 := by kernel_rfl
theorem bytesI : Tryd.prog.bytesOf 3 = 8 := by kernel_rfl
theorem okInt_wf {n : Int} (h : (Lit.int .i64 n).wf = true) : okInt n := by
  simp only [Lit.wf, Bool.and_eq_true, decide_eq_true_iff, IntKind.min, IntKind.max, IntKind.bits, IntKind.signed] at h
  simp at h
  exact h
theorem okU64_wf {n : Int} (h : (Lit.int .u64 n).wf = true) : 0 ≤ n ∧ n ≤ 18446744073709551615 := by
  simp only [Lit.wf, Bool.and_eq_true, IntKind.min, IntKind.max, IntKind.bits, IntKind.signed] at h
  simp at h
  exact h

/-- A datum's cells, and what is known of it. -/
def DatIs (w : World) (cs : List Value) : Prop := ∃ h k pa pc ia ic, cs = (Hd.cells h pa pc ia k.len ic).toList ∧ h.ok ∧ k.ok ∧ k.len ≤ 1034834473170 ∧ DatAt w (fun _ => True) h k pa pc ia ic
def light (t : TypeId) (d : DataW H) : Prop := ∀ n ∈ d.weights Tryd.prog t, n ≤ reachBytes

theorem cells_at {b o n : Nat} {cs : List Value} (h : w.cells? 0 ⟨b, o, none⟩ n = some cs) : CellsAt w b o cs.toArray := by
  obtain ⟨_, hl, hc⟩ := World.cells?_some h
  intro j v hv
  have hv' : cs[j]? = some v := by simpa using hv
  have hj : j < n := by
    rcases Nat.lt_or_ge j cs.length with h1 | h1
    · omega
    · rw [List.getElem?_eq_none h1] at hv'; cases hv'
  have := hc j hj
  rw [hv'] at this
  rw [← this]
  congr 1
  unfold Addr.add
  split
  · rename_i h; subst h; rfl
  · rfl
theorem cells_spot {a : Addr} {n : Nat} {cs : List Value} (h : w.cells? 0 a n = some cs) (hn : 0 < n) : ∃ b o, a = ⟨b, o, none⟩ := by
  obtain ⟨_, hl, hc⟩ := World.cells?_some h
  have h0 := hc 0 hn
  rw [List.getElem?_eq_getElem (by omega)] at h0
  obtain ⟨b, o, s⟩ := a
  have : s = none := by simpa [Addr.add] using World.cell?_spot h0
  subst this
  exact ⟨b, o, rfl⟩
theorem add_at (b o j : Nat) : (Addr.mk b o none).add j = ⟨b, o + j, none⟩ := by
  unfold Addr.add
  split
  · rename_i h; subst h; rfl
  · rfl

theorem fo_of {n : Nat} (ih : ∀ cs (x : DataW H × List MemPlace), DataW.trod enc Tryd.prog w 0 (fun _ => true) true n 31 cs = some x → light 31 x.1 → DatIs w cs) :
    ∀ (els : List (DataW H × List MemPlace)) (b o : Nat), (∀ i, i < els.length → (w.cells? 0 ⟨b, o + i * 11, none⟩ 11).bind (DataW.trod enc Tryd.prog w 0 (fun _ => true) true n 31) = els[i]?) →
      (∀ x ∈ els, light 31 x.1) → ∃ f : Fo, f.len = els.length ∧ f.ok ∧ FoAt w (fun _ => True) b o f
  | [], b, o, _, _ => ⟨.nil, rfl, trivial, trivial⟩
  | x :: els, b, o, hg, hw => by
    obtain ⟨r, r1, r2, r3⟩ := fo_of ih els b (o + 11) (fun i hi => by
      have := hg (i + 1) (by simpa using hi)
      rw [show o + 11 + i * 11 = o + (i + 1) * 11 by omega]
      simpa using this) (fun y hy => hw y (List.mem_cons_of_mem _ hy))
    have h0 := hg 0 (by simp)
    simp only [Nat.zero_mul, Nat.add_zero, List.getElem?_cons_zero] at h0
    obtain ⟨cs, hc, ht⟩ := Option.bind_eq_some_iff.1 h0
    obtain ⟨h, k, pa, pc, ia, ic, e, ho, hk, hkl, hd⟩ := ih cs x ht (hw x List.mem_cons_self)
    have hcell := cells_at hc
    subst e
    refine ⟨.cons h k r, by simp [Fo.len, r1], ⟨ho, hk, r2, hkl⟩, ⟨pa, pc, ia, ic, by simpa using hcell, hd.path, hd.pcLe, hd.pcMax, hd.icLe, hd.icMax, hd.kids⟩, r3⟩

theorem weights_each {P : Program} {n : Nat} : ∀ (ts : List TypeId) (ds : List (DataW H)), n ∈ DataW.weightsEach P ts ds ↔ ∃ (i : Nat) (t : TypeId) (d : DataW H), ts[i]? = some t ∧ ds[i]? = some d ∧ n ∈ d.weights P t
  | [], ds => by simp [DataW.weightsEach]
  | t :: ts, [] => by simp [DataW.weightsEach]
  | t :: ts, d :: ds => by
    rw [DataW.weightsEach, List.mem_append, weights_each ts ds]
    constructor
    · rintro (h | ⟨i, t', d', h1, h2, h3⟩)
      · exact ⟨0, t, d, rfl, rfl, h⟩
      · exact ⟨i + 1, t', d', by simpa using h1, by simpa using h2, h3⟩
    · rintro ⟨i, t', d', h1, h2, h3⟩
      cases i with
      | zero =>
        simp only [List.getElem?_cons_zero, Option.some.injEq] at h1 h2
        subst h1 h2
        exact .inl h3
      | succ i => exact .inr ⟨i, t', d', by simpa using h1, by simpa using h2, h3⟩
theorem weights_all {P : Program} {e : TypeId} {n : Nat} : ∀ (ds : List (DataW H)), n ∈ DataW.weightsAll P e ds ↔ ∃ d ∈ ds, n ∈ d.weights P e
  | [] => by simp [DataW.weightsAll]
  | d :: ds => by rw [DataW.weightsAll, List.mem_append, weights_all ds]; simp

theorem path_of {fuel : Nat} {cs : List Value} {x : DataW H × List MemPlace} (h : DataW.trod enc Tryd.prog w 0 (fun _ => true) true fuel 22 cs = some x) (hw : light 22 x.1) :
    ∃ (l : List Int) (pa : Option Addr) (pc : Nat), cs = [.slice pa l.length pc] ∧ PathAt w (fun _ => True) pa l ∧ l.length ≤ pc ∧ pc ≤ 9223372036854775807 ∧ l.length ≤ 17592186043904 ∧ (∀ (j : Nat) (x : Int), l[j]? = some x → okInt x) := by
  rcases open_ints Tryd.underlying22 Tryd.underlying3 cellsI h with ⟨rfl, rfl⟩ | ⟨a, len, cap, zs, rfl, _, hl, hm, hz, rfl, hc, hwf⟩
  · exact ⟨[], none, 0, rfl, .inl rfl, by simp, by omega, by simp, fun j x h => by simp at h⟩
  · simp only [if_true] at hz
    have hlen : (zs.take len).length = len := by simp; omega
    refine ⟨zs.take len, some a, cap, by rw [hlen], ?_, by omega, by unfold maxLen at hm; exact hm, ?_, fun j x hx => ?_⟩
    · cases hzs : zs.take len with
      | nil => exact .inl rfl
      | cons z r =>
        have hp : 0 < zs.length := by
          rcases Nat.eq_zero_or_pos zs.length with h0 | h0
          · rw [List.eq_nil_of_length_eq_zero h0] at hzs; simp at hzs
          · exact h0
        have h0 := hc 0 hp
        obtain ⟨b, o, s⟩ := a
        have : s = none := by simpa [Addr.add] using World.cell?_spot h0
        subst this
        refine .inr ⟨b, o, rfl, trivial, fun j x hx => ?_⟩
        rw [← hzs, List.getElem?_take] at hx
        split at hx
        · have hj : j < zs.length := by
            rcases Nat.lt_or_ge j zs.length with h1 | h1
            · exact h1
            · rw [List.getElem?_eq_none h1] at hx; cases hx
          have := hc j hj
          rw [add_at] at this
          rw [this, List.getD, hx]; rfl
        · cases hx
    · have := hw ((zs.length) * 8) (by
        simp only [DataW.weights, Tryd.underlying22, bytesI, lits, List.length_map, List.length_take, List.length_drop]
        refine List.mem_cons.2 (.inl ?_)
        congr 1
        omega)
      unfold reachBytes at this
      omega
    · have hm : x ∈ zs := List.mem_of_mem_take (List.mem_of_getElem? hx)
      exact okInt_wf (hwf x hm)

set_option maxRecDepth 100000 in
set_option maxHeartbeats 2000000 in
theorem dat_of : ∀ (fuel : Nat) (cs : List Value) (x : DataW H × List MemPlace), DataW.trod enc Tryd.prog w 0 (fun _ => true) true fuel 31 cs = some x → light 31 x.1 → DatIs w cs := by
  intro fuel
  induction fuel using Nat.strongRecOn with
  | _ fuel IH =>
  intro cs x h hw
  obtain ⟨xs, n, rfl, rfl, hl, hlen, hg⟩ := DataW.trod_struct Tryd.underlying31 h
  rw [cellsD] at hl
  match cs, hl with
  | [c0, c1, c2, c3, c4, c5, c6, c7, c8, c9, c10], _ =>
  match xs, hlen with
  | [x0, x1, x2, x3, x4, x5, x6], _ =>
  have hwe : ∀ (i : Nat) (t : TypeId) (d : DataW H), [3, 9, 3, 26, 9, 28, 29][i]? = some t → [x0.1, x1.1, x2.1, x3.1, x4.1, x5.1, x6.1][i]? = some d → light t d := fun i t d h1 h2 m hm => hw m (by
    simp only [DataW.weights, Tryd.underlying31]
    exact (weights_each _ _).2 ⟨i, t, d, h1, h2, hm⟩)
  have g0 : DataW.trod enc Tryd.prog w 0 (fun _ => true) true n 3 (List.take (Tryd.prog.cellsOf 3) [c0, c1, c2, c3, c4, c5, c6, c7, c8, c9, c10]) = some x0 := hg 0 _ rfl
  have g1 : DataW.trod enc Tryd.prog w 0 (fun _ => true) true n 9 (List.take (Tryd.prog.cellsOf 9) [c1, c2, c3, c4, c5, c6, c7, c8, c9, c10]) = some x1 := hg 1 _ rfl
  have g2 : DataW.trod enc Tryd.prog w 0 (fun _ => true) true n 3 (List.take (Tryd.prog.cellsOf 3) [c2, c3, c4, c5, c6, c7, c8, c9, c10]) = some x2 := hg 2 _ rfl
  have g3 : DataW.trod enc Tryd.prog w 0 (fun _ => true) true n 26 (List.take (Tryd.prog.cellsOf 26) [c3, c4, c5, c6, c7, c8, c9, c10]) = some x3 := hg 3 _ rfl
  have g4 : DataW.trod enc Tryd.prog w 0 (fun _ => true) true n 9 (List.take (Tryd.prog.cellsOf 9) [c4, c5, c6, c7, c8, c9, c10]) = some x4 := hg 4 _ rfl
  have g5 : DataW.trod enc Tryd.prog w 0 (fun _ => true) true n 28 (List.take (Tryd.prog.cellsOf 28) [c5, c6, c7, c8, c9, c10]) = some x5 := hg 5 _ rfl
  have g6 : DataW.trod enc Tryd.prog w 0 (fun _ => true) true n 29 (List.take (Tryd.prog.cellsOf 29) [c10]) = some x6 := hg 6 _ rfl
  clear hg
  rw [cellsI] at g0
  rw [cellsS] at g1
  rw [cellsI] at g2
  rw [cellsU] at g3
  rw [cellsS] at g4
  rw [cellsR] at g5
  rw [cellsL] at g6
  simp only [List.take] at g0 g1 g2 g3 g4 g5 g6
  obtain ⟨kind, e0, _, w0⟩ := DataW.trod_int Tryd.underlying3 g0
  obtain ⟨type, e1, f1, s1⟩ := DataW.trod_string Tryd.underlying9 g1
  obtain ⟨nn, e2, _, w2⟩ := DataW.trod_int Tryd.underlying3 g2
  obtain ⟨ff, e3, _, w3⟩ := DataW.trod_int Tryd.underlying26 g3
  obtain ⟨ss, e4, f4, s4⟩ := DataW.trod_string Tryd.underlying9 g4
  have hl1 := hwe 1 _ _ rfl rfl type.size (by rw [f1]; simp [DataW.weights])
  have hl4 := hwe 4 _ _ rfl rfl ss.size (by rw [f4]; simp [DataW.weights])
  have hw5 := hwe 5 _ _ rfl rfl
  have hw6 := hwe 6 _ _ rfl rfl
  clear hwe hw g0 g1 g2 g3 g4
  obtain ⟨ys, m, rfl, rfl, hl', hlen', hg'⟩ := DataW.trod_struct Tryd.underlying28 g5
  match ys, hlen' with
  | [y0, y1, y2, y3, y4], _ =>
  have p0 : DataW.trod enc Tryd.prog w 0 (fun _ => true) true m 3 (List.take (Tryd.prog.cellsOf 3) [c5, c6, c7, c8, c9]) = some y0 := hg' 0 _ rfl
  have p1 : DataW.trod enc Tryd.prog w 0 (fun _ => true) true m 3 (List.take (Tryd.prog.cellsOf 3) [c6, c7, c8, c9]) = some y1 := hg' 1 _ rfl
  have p2 : DataW.trod enc Tryd.prog w 0 (fun _ => true) true m 3 (List.take (Tryd.prog.cellsOf 3) [c7, c8, c9]) = some y2 := hg' 2 _ rfl
  have p3 : DataW.trod enc Tryd.prog w 0 (fun _ => true) true m 3 (List.take (Tryd.prog.cellsOf 3) [c8, c9]) = some y3 := hg' 3 _ rfl
  have p4 : DataW.trod enc Tryd.prog w 0 (fun _ => true) true m 22 (List.take (Tryd.prog.cellsOf 22) [c9]) = some y4 := hg' 4 _ rfl
  clear hg'
  rw [cellsI] at p0
  rw [cellsI] at p1
  rw [cellsI] at p2
  rw [cellsI] at p3
  rw [cellsP] at p4
  simp only [List.take] at p0 p1 p2 p3 p4
  obtain ⟨obj, q0, _, v0⟩ := DataW.trod_int Tryd.underlying3 p0
  obtain ⟨frm, q1, _, v1⟩ := DataW.trod_int Tryd.underlying3 p1
  obtain ⟨len, q2, _, v2⟩ := DataW.trod_int Tryd.underlying3 p2
  obtain ⟨cap, q3, _, v3⟩ := DataW.trod_int Tryd.underlying3 p3
  have hwp : light 22 y4.1 := fun m hm => hw5 m (by
    simp only [DataW.weights, Tryd.underlying28]
    exact (weights_each _ _).2 ⟨4, _, _, rfl, rfl, hm⟩)
  obtain ⟨path, pa, pc, q4, hpa, hpc, hpm, hpl, hpe⟩ := path_of p4 hwp
  simp only [List.cons.injEq, and_true] at e0 e1 e2 e3 e4 q0 q1 q2 q3 q4
  subst e0 e1 e2 e3 e4 q0 q1 q2 q3 q4
  unfold reachBytes at hl1 hl4
  have hok : Hd.ok ⟨kind, type, nn, ff, ss, obj, frm, len, cap, path⟩ :=
    ⟨okInt_wf w0, okInt_wf w2, (okU64_wf w3).1, (okU64_wf w3).2, okInt_wf v0, okInt_wf v1, okInt_wf v2, okInt_wf v3, hl1, hl4, hpl, hpe⟩
  rcases DataW.trod_slice Tryd.underlying29 g6 with ⟨e6, rfl⟩ | ⟨a, il, ic, elems, rest, n', en, e6, rfl, _, hle, hm, hel, hget, hsp, _⟩
  · simp only [List.cons.injEq, and_true] at e6
    subst e6
    exact ⟨_, .nil, pa, pc, none, 0, rfl, hok, trivial, by simp [Fo.len], ⟨hpa, hpc, hpm, .inl rfl, by simp [Fo.len], by omega⟩⟩
  · simp only [List.cons.injEq, and_true] at e6
    subst e6
    have hr := (hsp rfl).1
    have hcap := hw6 (ic * 136) (by
      simp only [DataW.weights, Tryd.underlying29, bytesD, List.length_map]
      refine List.mem_cons.2 (.inl ?_)
      congr 1
      omega)
    unfold reachBytes at hcap
    have hwl : ∀ y ∈ elems, light 31 y.1 := fun y hy m hm => hw6 m (by
      simp only [DataW.weights, Tryd.underlying29]
      refine List.mem_cons.2 (.inr (List.mem_append.2 (.inl ((weights_all _).2 ⟨y.1, List.mem_map.2 ⟨y, hy, rfl⟩, hm⟩)))))
    unfold maxLen at hm
    rcases Nat.eq_zero_or_pos il with h0 | h0
    · exact ⟨_, .nil, pa, pc, some a, ic, by subst h0; rfl, hok, trivial, by simp [Fo.len], ⟨hpa, hpc, hpm, .inl rfl, by simp [Fo.len], by omega⟩⟩
    · have hg0 := hget 0 h0
      rw [List.getElem?_eq_getElem (by omega), cellsD] at hg0
      obtain ⟨cs0, hc0, _⟩ := Option.bind_eq_some_iff.1 hg0
      obtain ⟨b, o, ea⟩ := cells_spot hc0 (by decide)
      have ea' : a = ⟨b, o, none⟩ := by
        simp only [Nat.zero_mul] at ea
        simpa [Addr.add] using ea
      subst ea'
      obtain ⟨f, r1, r2, r3⟩ := fo_of (n := n') (fun cs' x' h' hw' => IH n' (by omega) cs' x' h' hw') elems b o (fun i hi => by
        have := hget i (by omega)
        rw [cellsD, add_at] at this
        exact this) hwl
      have hfl : f.len = il := by omega
      exact ⟨_, f, pa, pc, some ⟨b, o, none⟩, ic, by rw [hfl]; rfl, hok, r2, by omega, ⟨hpa, hpc, hpm, .inr ⟨b, o, rfl, trivial, r3⟩, by omega, by omega⟩⟩
end
end Go.Proofs.YtlhfickniegooaaDoor

namespace Go.Proofs.YtlhfickniegooaaDoor
open Go.RowKit Go.ChangeShapes Go.WideShapes Go.ChangeAt

theorem ownKn : ownKnob Tryd.prog.godebug = none := by kernel_rfl
theorem lout : laidOutB Tryd.prog = true := by kernel_rfl
set_option maxRecDepth 100000
abbrev laid1 : List (String × DataW Unit) := [("guise/value.own", Rows.laid_guise_value_own)]

/-- The condition gives the walks the eight names. -/
theorem own_of_laid {W : World} (h : laidMetH Tryd.prog laid1 W) : OwnAt W := by
  rw [MakeChecks.laidMetH_plain _ _ _ (by kernel_rfl)] at h
  obtain ⟨ps, ⟨g0, t0, cs0, f0, p0, q0, hg0, ht0, hv0, hd0, _, _⟩, _, _⟩ := h
  obtain rfl := Option.some.inj ((show Tryd.prog.globalNamed "guise/value.own" = some 0 by kernel_rfl).symm.trans hg0)
  obtain rfl := Option.some.inj ((show (Tryd.prog.globals[0]?).map (·.type) = some 145 by kernel_rfl).symm.trans ht0)
  obtain ⟨xs, m, rfl, hx, hlen, hn, hel⟩ := DataW.trod_array Tryd.underlying145 hd0
  rw [show Tryd.prog.cellsOf 145 = 8 by kernel_rfl] at hlen
  rw [cellsS] at hel
  have hx1 : Rows.laid_guise_value_own = .agg (xs.map (·.1)) := (Prod.mk.inj hx).1
  have key : ∀ (j : Nat) (s : ByteArray), j < 8 → ownL[j]? = some s → W.cell? ⟨0, j, none⟩ = some (.string s) := by
    intro j s hj hs
    have hc := World.var?_cell hg0 hv0 j
    have he := hel j hj
    rw [Nat.mul_one] at he
    have hcl : cs0[j]? = some (cs0.toList[j]'(by omega)) := by
      rw [← Array.getElem?_toList, List.getElem?_eq_getElem (by omega)]
    have hdt : (cs0.toList.drop j).take 1 = [cs0.toList[j]'(by omega)] := by
      rw [List.drop_eq_getElem_cons (by omega)]; rfl
    rw [hdt, List.getElem?_eq_getElem (by omega)] at he
    obtain ⟨s', e1, e2, _⟩ := DataW.trod_string Tryd.underlying9 he
    rw [hc, hcl]
    simp only [List.cons.injEq, and_true] at e1
    rw [e1]
    have hdat : (xs.map (·.1))[j]? = some (.lit (.string s'.data.toList)) := by
      rw [List.getElem?_map, List.getElem?_eq_getElem (by omega), e2]; rfl
    have hl : (xs.map (·.1))[j]? = some (.lit (.string s.data.toList)) := by
      unfold Rows.laid_guise_value_own at hx1
      injection hx1 with hx1
      rw [← hx1]
      have : j = 0 ∨ j = 1 ∨ j = 2 ∨ j = 3 ∨ j = 4 ∨ j = 5 ∨ j = 6 ∨ j = 7 := by omega
      rcases this with rfl | rfl | rfl | rfl | rfl | rfl | rfl | rfl <;>
        (simp only [ownL, List.getElem?_cons_zero, List.getElem?_cons_succ, Option.some.injEq] at hs; subst hs; rfl)
    rw [hdat] at hl
    injection hl with hl
    injection hl with hl
    injection hl with hl
    have hss : s'.data = s.data := by
      obtain ⟨⟨a⟩⟩ := s'
      obtain ⟨⟨b⟩⟩ := s
      simpa using hl
    have : s' = s := by
      obtain ⟨a⟩ := s'
      obtain ⟨b⟩ := s
      simpa using hss
    rw [this]
  intro j s hs
  have hj : j < 8 := (List.getElem?_eq_some_iff.1 hs).1
  exact key j s hj hs

theorem door_met (os : Os) (args : Array Value) : laidMetH Tryd.prog laid1 ((World.doorLaid Tryd.prog 400 os).forCall (fun _ _ => 0) ⟨#[], args, []⟩).memory :=
  laidMetH_of_parts3 (fuel := 8) (laidMet_of_run' 8 (by kernel_rfl) (by kernel_rfl)) (by kernel_rfl) (by kernel_rfl)
section
variable {H : Type} {enc : TypeId × Value → H}
theorem dat_arg {W : World} {base : Nat} {v : Value} {d : DataW H} {p : List MemPlace} (hv : Value.okWide Tryd.prog W .any base 31 v)
    (h : DataW.Trod enc Tryd.prog W 0 (fun _ => true) true 31 v d p) (hw : light 31 d) :
    ∃ (h : Hd) (k : Fo) (pa : Option Addr) (pc : Nat) (ia : Option Addr) (ic : Nat), v = .agg (h.cells pa pc ia k.len ic) ∧ h.ok ∧ k.ok ∧ k.len ≤ 1034834473170 ∧ DatAt W (fun _ => True) h k pa pc ia ic := by
  obtain ⟨cs, rfl, _⟩ := okWide_struct Tryd.underlying31 hv
  obtain ⟨fuel, hf⟩ := h
  obtain ⟨h, k, pa, pc, ia, ic, e, ho, hk, hl, hd⟩ := dat_of fuel _ _ hf hw
  refine ⟨h, k, pa, pc, ia, ic, ?_, ho, hk, hl, hd⟩
  congr 1
  exact Array.toList_inj.1 e

theorem trodAll_below {P : Program} (hl : laidOutB P = true) {W W' : World} (hb : Below W.heap.size W W') : ∀ (ts : List TypeId) (vs : List Value) (ds : List (DataW H)) (ps : List MemPlace),
    (ts.all fun t => P.readableRec t && decide (t < P.types.size)) = true → DataW.TrodAll enc P W 0 (fun _ => true) true ts vs ds ps → (∀ x ∈ ps, x.block < W.heap.size) →
    ∀ sp : Nat → Bool, (∀ p ∈ ps, sp p.block = true) → DataW.TrodAll enc P W' 0 sp true ts vs ds ps
  | [], [], [], ps, _, h, _, _, _ => h
  | t :: ts, v :: vs, d :: ds, ps, ht, ⟨p, q, h1, h2, e⟩, hlt, sp, hsp => by
    subst e
    simp only [List.all_cons, Bool.and_eq_true, decide_eq_true_iff] at ht
    exact ⟨p, q, WideElems.Trod_stays hl ht.1.1 ht.1.2 h1 (fun x hx => hb.same (hlt x (List.mem_append_left _ hx))) (fun x hx => hsp x (List.mem_append_left _ hx)),
      trodAll_below hl hb ts vs ds q ht.2 h2 (fun x hx => hlt x (List.mem_append_right _ hx)) sp (fun x hx => hsp x (List.mem_append_right _ hx)), rfl⟩
  | [], _ :: _, _, _, _, h, _, _, _ => h.elim
  | [], [], _ :: _, _, _, h, _, _, _ => h.elim
  | _ :: _, [], _, _, _, h, _, _, _ => h.elim
  | _ :: _, _ :: _, [], _, _, h, _, _, _ => h.elim

theorem post_of_below {P : Program} {f : Func} {s : ChangeSpec} {apart fresh handsOn again : Bool} {W W' : World} {args : Array Value} {v : Value} {ds gs : List (DataW H)} {before pa pv : List MemPlace}
    (hW : DataW.Whole enc P f.params.toList s.vars apart W args.toList ds gs before)
    (hres : ∀ (b : Nat) (sp : Nat → Bool) (hd : Bool), DataW.TrodAll enc P W' b sp hd f.resultTypes.toList (v.resultList f.resultTypes.size) (s.fn H (ds ++ gs)).results [])
    (hargs : ∀ sp : Nat → Bool, (∀ p ∈ before, sp p.block = true) → DataW.TrodAll enc P W' 0 sp true f.params.toList args.toList (s.fn H (ds ++ gs)).args pa)
    (hvars : ∀ sp : Nat → Bool, (∀ p ∈ before, sp p.block = true) → DataW.TrodVars enc P W' sp s.vars (s.fn H (ds ++ gs)).vars pv)
    (hps : before = pa ++ pv) (hb : Below W.heap.size W W')
    (hok : ∀ (j : Nat) (t : TypeId) (r : Value), f.resultTypes[j]? = some t → (v.resultList f.resultTypes.size)[j]? = some r → Value.okWide P W' .any 0 t r) :
    s.post enc P f apart fresh handsOn again W args v W' := by
  have hlt : ∀ p ∈ before, p.block < W.heap.size := fun p hp => hW.lt p hp
  have hold : ∀ p ∈ before, (fun b => decide (b < W.heap.size)) p.block = true := fun p hp => by simpa using hlt p hp
  refine ⟨ds, gs, before, [], pa, pv, hW, hres _ _ _, hargs _ hold, hvars _ hold, World.keptBut_mono (fun p hp => ⟨hp, ?_⟩) (hb.frame (· ∈ before)), fun _ => ?_⟩
  · rw [hps, List.mem_append] at hp
    exact Or.inr hp
  · obtain ⟨_, _, _, _, _, hz, hn⟩ := hW
    refine ⟨hok, _, _, ([] ++ pa) ++ pv, ⟨[] ++ pa, pv, trodAll_append (hargs _ (fun _ _ => rfl)) (hres _ _ _), hvars _ (fun _ _ => rfl), rfl, ?_, ?_⟩, ?_⟩
    · intro b off hp
      have hin : MemPlace.cell b off ∈ before := by rw [hps]; simpa using hp
      rw [hb.frozen (hlt _ hin)]
      exact hz b off hin
    · intro ha
      have := hn ha
      rw [hps] at this
      simpa using this
    · intro p hp _
      rw [hps]
      simpa using hp

/-- A law that has returned true over memory that stands: its post. -/
theorem post_law {f : Func} {s : ChangeSpec} {apart : Bool} {W W' : World} {args : Array Value} {ds : List (DataW H)} {before : List MemPlace} (hs : s.vars = [])
    (hW : DataW.Whole enc Tryd.prog f.params.toList s.vars apart W args.toList ds [] before)
    (hf : s.fn H (ds ++ []) = { results := [.lit (.bool true)], args := ds }) (hr : f.resultTypes = #[4])
    (hts : (f.params.toList.all fun t => Tryd.prog.readableRec t && decide (t < Tryd.prog.types.size)) = true) (hb : Below W.heap.size W W') :
    s.post enc Tryd.prog f apart true false false W args (.bool true) W' := by
  have hlt : ∀ p ∈ before, p.block < W.heap.size := fun p hp => hW.lt p hp
  have hold : ∀ p ∈ before, (fun b => decide (b < W.heap.size)) p.block = true := fun p hp => by simpa using hlt p hp
  obtain ⟨p, q, hA, hV, e, hz, hn⟩ := id hW
  rw [hs] at hV
  obtain ⟨_, rfl⟩ := trodVars_none hV
  rw [List.append_nil] at e
  subst e
  have hT := trodAll_below lout hb _ _ _ _ hts hA hlt
  have hres : ∀ (b : Nat) (sp : Nat → Bool) (hd : Bool), DataW.TrodAll enc Tryd.prog W' b sp hd f.resultTypes.toList ((Value.bool true).resultList f.resultTypes.size) [.lit (.bool true)] [] := fun b sp hd => by
    rw [hr]
    exact trodAll_mk1 (shut_bool Tryd.underlying4 true)
  have hv0 : ∀ sp : Nat → Bool, DataW.TrodVars enc Tryd.prog W' sp s.vars (s.fn H (ds ++ [])).vars [] := fun sp => by rw [hs, hf]; rfl
  refine post_of_below (pa := before) (pv := []) hW ?_ ?_ (fun sp _ => hv0 sp) (by simp) hb (ok_one hr rfl (okWide_bool_mk Tryd.underlying4 _))
  · rw [hf]; exact hres
  · rw [hf]; exact hT
end
end Go.Proofs.YtlhfickniegooaaDoor

namespace Go.Proofs.YtlhfickniegooaaDoor
open Go.RowKit Go.ChangeShapes Go.WideShapes
set_option maxRecDepth 100000
theorem ints_arg {H : Type} {enc : TypeId × Value → H} {W : World} {base : Nat} {v : Value} {d : DataW H} {p : List MemPlace} (hv : Value.okWide Tryd.prog W .any base 22 v)
    (h : DataW.Trod enc Tryd.prog W 0 (fun _ => true) true 22 v d p) (hw : light 22 d) :
    ∃ (l : List Int) (pa : Option Addr) (pc : Nat), v = .slice pa l.length pc ∧ PathAt W (fun _ => True) pa l ∧ l.length ≤ 17592186043904 ∧ (∀ (j : Nat) (x : Int), l[j]? = some x → okInt x) := by
  obtain ⟨a, len, cap, rfl⟩ := okWide_slice Tryd.underlying22 hv
  obtain ⟨fuel, hf⟩ := h
  obtain ⟨l, pa, pc, e, h1, _, _, h2, h3⟩ := path_of hf hw
  simp [Value.cells] at e
  obtain ⟨rfl, rfl, rfl⟩ := e
  exact ⟨l, _, _, rfl, h1, h2, h3⟩
end Go.Proofs.YtlhfickniegooaaDoor
