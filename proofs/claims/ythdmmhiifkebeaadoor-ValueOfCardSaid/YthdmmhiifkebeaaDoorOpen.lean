/-
  An argument of type api.Datum, opened: what reads as a datum is a tree in memory (no condition but the row's own reach). Written by an AI agent.
-/
import Derived.Test.YthdmmhiifkebeaaDoorBase
import Derived.Test.YthdmmhiifkebeaaDoorChecked
import Derived.ProofKit
import Derived.Deep.Slices
import Derived.ChangeSlices
namespace Go.Proofs.YthdmmhiifkebeaaDoor
open Go.RowKit Go.ChangeShapes Go.WideShapes

section
variable {H : Type} {enc : TypeId × Value → H} {w : World}
theorem cellsD : Tryd.prog.cellsOf 28 = 11 := by kernel_rfl
theorem cellsR : Tryd.prog.cellsOf 25 = 5 := by kernel_rfl
theorem cellsI : Tryd.prog.cellsOf 3 = 1 := by kernel_rfl
theorem cellsS : Tryd.prog.cellsOf 9 = 1 := by kernel_rfl
theorem cellsU : Tryd.prog.cellsOf 22 = 1 := by kernel_rfl
theorem cellsP : Tryd.prog.cellsOf 23 = 1 := by kernel_rfl
theorem cellsL : Tryd.prog.cellsOf 26 = 1 := by kernel_rfl
theorem bytesD : Tryd.prog.bytesOf 28 = 136 := by kernel_rfl
theorem bytesI : Tryd.prog.bytesOf 3 = 8 := by kernel_rfl
theorem okInt_wf {n : Int} (h : (Lit.int .i64 n).wf = true) : okInt n := by
  simp only [Lit.wf, Bool.and_eq_true, decide_eq_true_iff, IntKind.min, IntKind.max, IntKind.bits, IntKind.signed] at h
  simp at h
  exact h
theorem okU64_wf {n : Int} (h : (Lit.int .u64 n).wf = true) : 0 ≤ n ∧ n ≤ 18446744073709551615 := by
  simp only [Lit.wf, Bool.and_eq_true, IntKind.min, IntKind.max, IntKind.bits, IntKind.signed] at h
  simp at h
  exact h

/-- A datum's cells, and what is known of it. -/
def DatIs (w : World) (cs : List Value) : Prop := ∃ h k pa pc ia ic, cs = (Hd.cells h pa pc ia k.len ic).toList ∧ h.ok ∧ k.ok ∧ k.len ≤ 1034834473170 ∧ DatAt w (fun _ => True) h k pa pc ia ic
def light (t : TypeId) (d : DataW H) : Prop := ∀ n ∈ d.weights Tryd.prog t, n ≤ reachBytes

theorem cells_at {b o n : Nat} {cs : List Value} (h : w.cells? 0 ⟨b, o, none⟩ n = some cs) : CellsAt w b o cs.toArray := by
  obtain ⟨_, hl, hc⟩ := World.cells?_some h
  intro j v hv
  have hv' : cs[j]? = some v := by simpa using hv
  have hj : j < n := by
    rcases Nat.lt_or_ge j cs.length with h1 | h1
    · omega
    · rw [List.getElem?_eq_none h1] at hv'; cases hv'
  have := hc j hj
  rw [hv'] at this
  rw [← this]
  congr 1
  unfold Addr.add
  split
  · rename_i h; subst h; rfl
  · rfl
theorem cells_spot {a : Addr} {n : Nat} {cs : List Value} (h : w.cells? 0 a n = some cs) (hn : 0 < n) : ∃ b o, a = ⟨b, o, none⟩ := by
  obtain ⟨_, hl, hc⟩ := World.cells?_some h
  have h0 := hc 0 hn
  rw [List.getElem?_eq_getElem (by omega)] at h0
  obtain ⟨b, o, s⟩ := a
  have : s = none := by simpa [Addr.add] using World.cell?_spot h0
  subst this
  exact ⟨b, o, rfl⟩
theorem add_at (b o j : Nat) : (Addr.mk b o none).add j = ⟨b, o + j, none⟩ := by
  unfold Addr.add
  split
  · rename_i h; subst h; rfl
  · rfl

theorem fo_of {n : Nat} (ih : ∀ cs (x : DataW H × List MemPlace), DataW.trod enc Tryd.prog w 0 (fun _ => true) true n 28 cs = some x → light 28 x.1 → DatIs w cs) :
    ∀ (els : List (DataW H × List MemPlace)) (b o : Nat), (∀ i, i < els.length → (w.cells? 0 ⟨b, o + i * 11, none⟩ 11).bind (DataW.trod enc Tryd.prog w 0 (fun _ => true) true n 28) = els[i]?) →
      (∀ x ∈ els, light 28 x.1) → ∃ f : Fo, f.len = els.length ∧ f.ok ∧ FoAt w (fun _ => True) b o f
  | [], b, o, _, _ => ⟨.nil, rfl, trivial, trivial⟩
  | x :: els, b, o, hg, hw => by
    obtain ⟨r, r1, r2, r3⟩ := fo_of ih els b (o + 11) (fun i hi => by
      have := hg (i + 1) (by simpa using hi)
      rw [show o + 11 + i * 11 = o + (i + 1) * 11 by omega]
      simpa using this) (fun y hy => hw y (List.mem_cons_of_mem _ hy))
    have h0 := hg 0 (by simp)
    simp only [Nat.zero_mul, Nat.add_zero, List.getElem?_cons_zero] at h0
    obtain ⟨cs, hc, ht⟩ := Option.bind_eq_some_iff.1 h0
    obtain ⟨h, k, pa, pc, ia, ic, e, ho, hk, hkl, hd⟩ := ih cs x ht (hw x List.mem_cons_self)
    have hcell := cells_at hc
    subst e
    refine ⟨.cons h k r, by simp [Fo.len, r1], ⟨ho, hk, r2, hkl⟩, ⟨pa, pc, ia, ic, by simpa using hcell, hd.path, hd.pcLe, hd.pcMax, hd.icLe, hd.icMax, hd.kids⟩, r3⟩

theorem weights_each {P : Program} {n : Nat} : ∀ (ts : List TypeId) (ds : List (DataW H)), n ∈ DataW.weightsEach P ts ds ↔ ∃ (i : Nat) (t : TypeId) (d : DataW H), ts[i]? = some t ∧ ds[i]? = some d ∧ n ∈ d.weights P t
  | [], ds => by simp [DataW.weightsEach]
  | t :: ts, [] => by simp [DataW.weightsEach]
  | t :: ts, d :: ds => by
    rw [DataW.weightsEach, List.mem_append, weights_each ts ds]
    constructor
    · rintro (h | ⟨i, t', d', h1, h2, h3⟩)
      · exact ⟨0, t, d, rfl, rfl, h⟩
      · exact ⟨i + 1, t', d', by simpa using h1, by simpa using h2, h3⟩
    · rintro ⟨i, t', d', h1, h2, h3⟩
      cases i with
      | zero =>
        simp only [List.getElem?_cons_zero, Option.some.injEq] at h1 h2
        subst h1 h2
        exact .inl h3
      | succ i => exact .inr ⟨i, t', d', by simpa using h1, by simpa using h2, h3⟩
theorem weights_all {P : Program} {e : TypeId} {n : Nat} : ∀ (ds : List (DataW H)), n ∈ DataW.weightsAll P e ds ↔ ∃ d ∈ ds, n ∈ d.weights P e
  | [] => by simp [DataW.weightsAll]
  | d :: ds => by rw [DataW.weightsAll, List.mem_append, weights_all ds]; simp

theorem path_of {fuel : Nat} {cs : List Value} {x : DataW H × List MemPlace} (h : DataW.trod enc Tryd.prog w 0 (fun _ => true) true fuel 23 cs = some x) (hw : light 23 x.1) :
    ∃ (l : List Int) (pa : Option Addr) (pc : Nat), cs = [.slice pa l.length pc] ∧ PathAt w (fun _ => True) pa l ∧ l.length ≤ pc ∧ pc ≤ 9223372036854775807 ∧ l.length ≤ 17592186043904 ∧ (∀ (j : Nat) (x : Int), l[j]? = some x → okInt x) := by
  rcases open_ints Tryd.underlying23 Tryd.underlying3 cellsI h with ⟨rfl, rfl⟩ | ⟨a, len, cap, zs, rfl, _, hl, hm, hz, rfl, hc, hwf⟩
  · exact ⟨[], none, 0, rfl, .inl rfl, by simp, by omega, by simp, fun j x h => by simp at h⟩
  · simp only [if_true] at hz
    have hlen : (zs.take len).length = len := by simp; omega
    refine ⟨zs.take len, some a, cap, by rw [hlen], ?_, by omega, by unfold maxLen at hm; exact hm, ?_, fun j x hx => ?_⟩
    · cases hzs : zs.take len with
      | nil => exact .inl rfl
      | cons z r =>
        have hp : 0 < zs.length := by
          rcases Nat.eq_zero_or_pos zs.length with h0 | h0
          · rw [List.eq_nil_of_length_eq_zero h0] at hzs; simp at hzs
          · exact h0
        have h0 := hc 0 hp
        obtain ⟨b, o, s⟩ := a
        have : s = none := by simpa [Addr.add] using World.cell?_spot h0
        subst this
        refine .inr ⟨b, o, rfl, trivial, fun j x hx => ?_⟩
        rw [← hzs, List.getElem?_take] at hx
        split at hx
        · have hj : j < zs.length := by
            rcases Nat.lt_or_ge j zs.length with h1 | h1
            · exact h1
            · rw [List.getElem?_eq_none h1] at hx; cases hx
          have := hc j hj
          rw [add_at] at this
          rw [this, List.getD, hx]; rfl
        · cases hx
    · have := hw ((zs.length) * 8) (by
        simp only [DataW.weights, Tryd.underlying23, bytesI, lits, List.length_map, List.length_take, List.length_drop]
        refine List.mem_cons.2 (.inl ?_)
        congr 1
        omega)
      unfold reachBytes at this
      omega
    · have hm : x ∈ zs := List.mem_of_mem_take (List.mem_of_getElem? hx)
      exact okInt_wf (hwf x hm)

set_option maxRecDepth 100000 in
set_option maxHeartbeats 2000000 in
theorem dat_of : ∀ (fuel : Nat) (cs : List Value) (x : DataW H × List MemPlace), DataW.trod enc Tryd.prog w 0 (fun _ => true) true fuel 28 cs = some x → light 28 x.1 → DatIs w cs := by
  intro fuel
  induction fuel using Nat.strongRecOn with
  | _ fuel IH =>
  intro cs x h hw
  obtain ⟨xs, n, rfl, rfl, hl, hlen, hg⟩ := DataW.trod_struct Tryd.underlying28 h
  rw [cellsD] at hl
  match cs, hl with
  | [c0, c1, c2, c3, c4, c5, c6, c7, c8, c9, c10], _ =>
  match xs, hlen with
  | [x0, x1, x2, x3, x4, x5, x6], _ =>
  have hwe : ∀ (i : Nat) (t : TypeId) (d : DataW H), [3, 9, 3, 22, 9, 25, 26][i]? = some t → [x0.1, x1.1, x2.1, x3.1, x4.1, x5.1, x6.1][i]? = some d → light t d := fun i t d h1 h2 m hm => hw m (by
    simp only [DataW.weights, Tryd.underlying28]
    exact (weights_each _ _).2 ⟨i, t, d, h1, h2, hm⟩)
  have g0 : DataW.trod enc Tryd.prog w 0 (fun _ => true) true n 3 (List.take (Tryd.prog.cellsOf 3) [c0, c1, c2, c3, c4, c5, c6, c7, c8, c9, c10]) = some x0 := hg 0 _ rfl
  have g1 : DataW.trod enc Tryd.prog w 0 (fun _ => true) true n 9 (List.take (Tryd.prog.cellsOf 9) [c1, c2, c3, c4, c5, c6, c7, c8, c9, c10]) = some x1 := hg 1 _ rfl
  have g2 : DataW.trod enc Tryd.prog w 0 (fun _ => true) true n 3 (List.take (Tryd.prog.cellsOf 3) [c2, c3, c4, c5, c6, c7, c8, c9, c10]) = some x2 := hg 2 _ rfl
  have g3 : DataW.trod enc Tryd.prog w 0 (fun _ => true) true n 22 (List.take (Tryd.prog.cellsOf 22) [c3, c4, c5, c6, c7, c8, c9, c10]) = some x3 := hg 3 _ rfl
  have g4 : DataW.trod enc Tryd.prog w 0 (fun _ => true) true n 9 (List.take (Tryd.prog.cellsOf 9) [c4, c5, c6, c7, c8, c9, c10]) = some x4 := hg 4 _ rfl
  have g5 : DataW.trod enc Tryd.prog w 0 (fun _ => true) true n 25 (List.take (Tryd.prog.cellsOf 25) [c5, c6, c7, c8, c9, c10]) = some x5 := hg 5 _ rfl
  have g6 : DataW.trod enc Tryd.prog w 0 (fun _ => true) true n 26 (List.take (Tryd.prog.cellsOf 26) [c10]) = some x6 := hg 6 _ rfl
  clear hg
  rw [cellsI] at g0
  rw [cellsS] at g1
  rw [cellsI] at g2
  rw [cellsU] at g3
  rw [cellsS] at g4
  rw [cellsR] at g5
  rw [cellsL] at g6
  simp only [List.take] at g0 g1 g2 g3 g4 g5 g6
  obtain ⟨kind, e0, _, w0⟩ := DataW.trod_int Tryd.underlying3 g0
  obtain ⟨type, e1, f1, s1⟩ := DataW.trod_string Tryd.underlying9 g1
  obtain ⟨nn, e2, _, w2⟩ := DataW.trod_int Tryd.underlying3 g2
  obtain ⟨ff, e3, _, w3⟩ := DataW.trod_int Tryd.underlying22 g3
  obtain ⟨ss, e4, f4, s4⟩ := DataW.trod_string Tryd.underlying9 g4
  have hl1 := hwe 1 _ _ rfl rfl type.size (by rw [f1]; simp [DataW.weights])
  have hl4 := hwe 4 _ _ rfl rfl ss.size (by rw [f4]; simp [DataW.weights])
  have hw5 := hwe 5 _ _ rfl rfl
  have hw6 := hwe 6 _ _ rfl rfl
  clear hwe hw g0 g1 g2 g3 g4
  obtain ⟨ys, m, rfl, rfl, hl', hlen', hg'⟩ := DataW.trod_struct Tryd.underlying25 g5
  match ys, hlen' with
  | [y0, y1, y2, y3, y4], _ =>
  have p0 : DataW.trod enc Tryd.prog w 0 (fun _ => true) true m 3 (List.take (Tryd.prog.cellsOf 3) [c5, c6, c7, c8, c9]) = some y0 := hg' 0 _ rfl
  have p1 : DataW.trod enc Tryd.prog w 0 (fun _ => true) true m 3 (List.take (Tryd.prog.cellsOf 3) [c6, c7, c8, c9]) = some y1 := hg' 1 _ rfl
  have p2 : DataW.trod enc Tryd.prog w 0 (fun _ => true) true m 3 (List.take (Tryd.prog.cellsOf 3) [c7, c8, c9]) = some y2 := hg' 2 _ rfl
  have p3 : DataW.trod enc Tryd.prog w 0 (fun _ => true) true m 3 (List.take (Tryd.prog.cellsOf 3) [c8, c9]) = some y3 := hg' 3 _ rfl
  have p4 : DataW.trod enc Tryd.prog w 0 (fun _ => true) true m 23 (List.take (Tryd.prog.cellsOf 23) [c9]) = some y4 := hg' 4 _ rfl
  clear hg'
  rw [cellsI] at p0
  rw [cellsI] at p1
  rw [cellsI] at p2
  rw [cellsI] at p3
  rw [cellsP] at p4
  simp only [List.take] at p0 p1 p2 p3 p4
  obtain ⟨obj, q0, _, v0⟩ := DataW.trod_int Tryd.underlying3 p0
  obtain ⟨frm, q1, _, v1⟩ := DataW.trod_int Tryd.underlying3 p1
  obtain ⟨len, q2, _, v2⟩ := DataW.trod_int Tryd.underlying3 p2
  obtain ⟨cap, q3, _, v3⟩ := DataW.trod_int Tryd.underlying3 p3
  have hwp : light 23 y4.1 := fun m hm => hw5 m (by
    simp only [DataW.weights, Tryd.underlying25]
    exact (weights_each _ _).2 ⟨4, _, _, rfl, rfl, hm⟩)
  obtain ⟨path, pa, pc, q4, hpa, hpc, hpm, hpl, hpe⟩ := path_of p4 hwp
  simp only [List.cons.injEq, and_true] at e0 e1 e2 e3 e4 q0 q1 q2 q3 q4
  subst e0 e1 e2 e3 e4 q0 q1 q2 q3 q4
  unfold reachBytes at hl1 hl4
  have hok : Hd.ok ⟨kind, type, nn, ff, ss, obj, frm, len, cap, path⟩ :=
    ⟨okInt_wf w0, okInt_wf w2, (okU64_wf w3).1, (okU64_wf w3).2, okInt_wf v0, okInt_wf v1, okInt_wf v2, okInt_wf v3, hl1, hl4, hpl, hpe⟩
  rcases DataW.trod_slice Tryd.underlying26 g6 with ⟨e6, rfl⟩ | ⟨a, il, ic, elems, rest, n', en, e6, rfl, _, hle, hm, hel, hget, hsp, _⟩
  · simp only [List.cons.injEq, and_true] at e6
    subst e6
    exact ⟨_, .nil, pa, pc, none, 0, rfl, hok, trivial, by simp [Fo.len], ⟨hpa, hpc, hpm, .inl rfl, by simp [Fo.len], by omega⟩⟩
  · simp only [List.cons.injEq, and_true] at e6
    subst e6
    have hr := (hsp rfl).1
    have hcap := hw6 (ic * 136) (by
      simp only [DataW.weights, Tryd.underlying26, bytesD, List.length_map]
      refine List.mem_cons.2 (.inl ?_)
      congr 1
      omega)
    unfold reachBytes at hcap
    have hwl : ∀ y ∈ elems, light 28 y.1 := fun y hy m hm => hw6 m (by
      simp only [DataW.weights, Tryd.underlying26]
      refine List.mem_cons.2 (.inr (List.mem_append.2 (.inl ((weights_all _).2 ⟨y.1, List.mem_map.2 ⟨y, hy, rfl⟩, hm⟩)))))
    unfold maxLen at hm
    rcases Nat.eq_zero_or_pos il with h0 | h0
    · exact ⟨_, .nil, pa, pc, some a, ic, by subst h0; rfl, hok, trivial, by simp [Fo.len], ⟨hpa, hpc, hpm, .inl rfl, by simp [Fo.len], by omega⟩⟩
    · have hg0 := hget 0 h0
      rw [List.getElem?_eq_getElem (by omega), cellsD] at hg0
      obtain ⟨cs0, hc0, _⟩ := Option.bind_eq_some_iff.1 hg0
      obtain ⟨b, o, ea⟩ := cells_spot hc0 (by decide)
      have ea' : a = ⟨b, o, none⟩ := by
        simp only [Nat.zero_mul] at ea
        simpa [Addr.add] using ea
      subst ea'
      obtain ⟨f, r1, r2, r3⟩ := fo_of (n := n') (fun cs' x' h' hw' => IH n' (by omega) cs' x' h' hw') elems b o (fun i hi => by
        have := hget i (by omega)
        rw [cellsD, add_at] at this
        exact this) hwl
      have hfl : f.len = il := by omega
      exact ⟨_, f, pa, pc, some ⟨b, o, none⟩, ic, by rw [hfl]; rfl, hok, r2, by omega, ⟨hpa, hpc, hpm, .inr ⟨b, o, rfl, trivial, r3⟩, by omega, by omega⟩⟩
end
end Go.Proofs.YthdmmhiifkebeaaDoor
