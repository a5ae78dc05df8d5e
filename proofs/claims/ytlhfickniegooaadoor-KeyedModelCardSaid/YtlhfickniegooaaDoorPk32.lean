/-
  Words for the rows: the listed variable, an argument opened, the post of a law. An argument of type []int, opened. An argument of type []guiselaw9.Act, opened. Written by an AI agent.
-/
import Derived.Test.YtlhfickniegooaaDoorPk31
import Derived.Test.YtlhfickniegooaaDoorPk06
import Derived.Test.YtlhfickniegooaaDoorRows
import Derived.Below
import Derived.LaidMore
import Derived.LaidLaws
import Derived.LaidHandle
import Derived.OpenShut
import Derived.Stop.Joined
namespace Go.Proofs.YtlhfickniegooaaDoor
open Go.RowKit Go.ChangeShapes Go.WideShapes Go.ChangeAt

theorem ownKn : ownKnob Tryd.prog.godebug = none := by kernel_rfl
theorem lout : laidOutB Tryd.prog = true := by kernel_rfl
set_option maxRecDepth 100000
abbrev laid1 : List (String × DataW Unit) := [("guise/value.own", Rows.laid_guise_value_own)]

/-- The condition gives the walks the eight names. -/
theorem own_of_laid {W : World} (h : laidMetH Tryd.prog laid1 W) : OwnAt W := by
  rw [MakeChecks.laidMetH_plain _ _ _ (by kernel_rfl)] at h
  obtain ⟨ps, ⟨g0, t0, cs0, f0, p0, q0, hg0, ht0, hv0, hd0, _, _⟩, _, _⟩ := h
  obtain rfl := Option.some.inj ((show Tryd.prog.globalNamed "guise/value.own" = some 0 by kernel_rfl).symm.trans hg0)
  obtain rfl := Option.some.inj ((show (Tryd.prog.globals[0]?).map (·.type) = some 145 by kernel_rfl).symm.trans ht0)
  obtain ⟨xs, m, rfl, hx, hlen, hn, hel⟩ := DataW.trod_array Tryd.underlying145 hd0
  rw [show Tryd.prog.cellsOf 145 = 8 by kernel_rfl] at hlen
  rw [cellsS] at hel
  have hx1 : Rows.laid_guise_value_own = .agg (xs.map (·.1)) := (Prod.mk.inj hx).1
  have key : ∀ (j : Nat) (s : ByteArray), j < 8 → ownL[j]? = some s → W.cell? ⟨0, j, none⟩ = some (.string s) := by
    intro j s hj hs
    have hc := World.var?_cell hg0 hv0 j
    have he := hel j hj
    rw [Nat.mul_one] at he
    have hcl : cs0[j]? = some (cs0.toList[j]'(by omega)) := by
      rw [← Array.getElem?_toList, List.getElem?_eq_getElem (by omega)]
    have hdt : (cs0.toList.drop j).take 1 = [cs0.toList[j]'(by omega)] := by
      rw [List.drop_eq_getElem_cons (by omega)]; rfl
    rw [hdt, List.getElem?_eq_getElem (by omega)] at he
    obtain ⟨s', e1, e2, _⟩ := DataW.trod_string Tryd.underlying9 he
    rw [hc, hcl]
    simp only [List.cons.injEq, and_true] at e1
    rw [e1]
    have hdat : (xs.map (·.1))[j]? = some (.lit (.string s'.data.toList)) := by
      rw [List.getElem?_map, List.getElem?_eq_getElem (by omega), e2]; rfl
    have hl : (xs.map (·.1))[j]? = some (.lit (.string s.data.toList)) := by
      unfold Rows.laid_guise_value_own at hx1
      injection hx1 with hx1
      rw [← hx1]
      have : j = 0 ∨ j = 1 ∨ j = 2 ∨ j = 3 ∨ j = 4 ∨ j = 5 ∨ j = 6 ∨ j = 7 := by omega
      rcases this with rfl | rfl | rfl | rfl | rfl | rfl | rfl | rfl <;>
        (simp only [ownL, List.getElem?_cons_zero, List.getElem?_cons_succ, Option.some.injEq] at hs; subst hs; rfl)
    rw [hdat] at hl
    injection hl with hl
    injection hl with hl
    injection hl with hl
    have hss : s'.data = s.data := by
      obtain ⟨⟨a⟩⟩ := s'
      obtain ⟨⟨b⟩⟩ := s
      simpa using hl
    have : s' = s := by
      obtain ⟨a⟩ := s'
      obtain ⟨b⟩ := s
      simpa using hss
    rw [this]
  intro j s hs
  have hj : j < 8 := (List.getElem?_eq_some_iff.1 hs).1
  exact key j s hj hs

theorem door_met (os : Os) (args : Array Value) : laidMetH Tryd.prog laid1 ((World.doorLaid Tryd.prog 400 os).forCall (fun _ _ => 0) ⟨#[], args, []⟩).memory :=
  laidMetH_of_parts3 (fuel := 8) (laidMet_of_run' 8 (by kernel_rfl) (by kernel_rfl)) (by kernel_rfl) (by kernel_rfl)
section
variable {H : Type} {enc : TypeId × Value → H}
theorem dat_arg {W : World} {base : Nat} {v : Value} {d : DataW H} {p : List MemPlace} (hv : Value.okWide Tryd.prog W .any base 31 v)
    (h : DataW.Trod enc Tryd.prog W 0 (fun _ => true) true 31 v d p) (hw : light 31 d) :
    ∃ (h : Hd) (k : Fo) (pa : Option Addr) (pc : Nat) (ia : Option Addr) (ic : Nat), v = .agg (h.cells pa pc ia k.len ic) ∧ h.ok ∧ k.ok ∧ k.len ≤ 1034834473170 ∧ DatAt W (fun _ => True) h k pa pc ia ic := by
  obtain ⟨cs, rfl, _⟩ := okWide_struct Tryd.underlying31 hv
  obtain ⟨fuel, hf⟩ := h
  obtain ⟨h, k, pa, pc, ia, ic, e, ho, hk, hl, hd⟩ := dat_of fuel _ _ hf hw
  refine ⟨h, k, pa, pc, ia, ic, ?_, ho, hk, hl, hd⟩
  congr 1
  exact Array.toList_inj.1 e

theorem trodAll_below {P : Program} (hl : laidOutB P = true) {W W' : World} (hb : Below W.heap.size W W') : ∀ (ts : List TypeId) (vs : List Value) (ds : List (DataW H)) (ps : List MemPlace),
    (ts.all fun t => P.readableRec t && decide (t < P.types.size)) = true → DataW.TrodAll enc P W 0 (fun _ => true) true ts vs ds ps → (∀ x ∈ ps, x.block < W.heap.size) →
    ∀ sp : Nat → Bool, (∀ p ∈ ps, sp p.block = true) → DataW.TrodAll enc P W' 0 sp true ts vs ds ps
  | [], [], [], ps, _, h, _, _, _ => h
  | t :: ts, v :: vs, d :: ds, ps, ht, ⟨p, q, h1, h2, e⟩, hlt, sp, hsp => by
    subst e
    simp only [List.all_cons, Bool.and_eq_true, decide_eq_true_iff] at ht
    exact ⟨p, q, WideElems.Trod_stays hl ht.1.1 ht.1.2 h1 (fun x hx => hb.same (hlt x (List.mem_append_left _ hx))) (fun x hx => hsp x (List.mem_append_left _ hx)),
      trodAll_below hl hb ts vs ds q ht.2 h2 (fun x hx => hlt x (List.mem_append_right _ hx)) sp (fun x hx => hsp x (List.mem_append_right _ hx)), rfl⟩
  | [], _ :: _, _, _, _, h, _, _, _ => h.elim
  | [], [], _ :: _, _, _, h, _, _, _ => h.elim
  | _ :: _, [], _, _, _, h, _, _, _ => h.elim
  | _ :: _, _ :: _, [], _, _, h, _, _, _ => h.elim

theorem post_of_below {P : Program} {f : Func} {s : ChangeSpec} {apart fresh handsOn again : Bool} {W W' : World} {args : Array Value} {v : Value} {ds gs : List (DataW H)} {before pa pv : List MemPlace}
    (hW : DataW.Whole enc P f.params.toList s.vars apart W args.toList ds gs before)
    (hres : ∀ (b : Nat) (sp : Nat → Bool) (hd : Bool), DataW.TrodAll enc P W' b sp hd f.resultTypes.toList (v.resultList f.resultTypes.size) (s.fn H (ds ++ gs)).results [])
    (hargs : ∀ sp : Nat → Bool, (∀ p ∈ before, sp p.block = true) → DataW.TrodAll enc P W' 0 sp true f.params.toList args.toList (s.fn H (ds ++ gs)).args pa)
    (hvars : ∀ sp : Nat → Bool, (∀ p ∈ before, sp p.block = true) → DataW.TrodVars enc P W' sp s.vars (s.fn H (ds ++ gs)).vars pv)
    (hps : before = pa ++ pv) (hb : Below W.heap.size W W')
    (hok : ∀ (j : Nat) (t : TypeId) (r : Value), f.resultTypes[j]? = some t → (v.resultList f.resultTypes.size)[j]? = some r → Value.okWide P W' .any 0 t r) :
    s.post enc P f apart fresh handsOn again W args v W' := by
  have hlt : ∀ p ∈ before, p.block < W.heap.size := fun p hp => hW.lt p hp
  have hold : ∀ p ∈ before, (fun b => decide (b < W.heap.size)) p.block = true := fun p hp => by simpa using hlt p hp
  refine ⟨ds, gs, before, [], pa, pv, hW, hres _ _ _, hargs _ hold, hvars _ hold, World.keptBut_mono (fun p hp => ⟨hp, ?_⟩) (hb.frame (· ∈ before)), fun _ => ?_⟩
  · rw [hps, List.mem_append] at hp
    exact Or.inr hp
  · obtain ⟨_, _, _, _, _, hz, hn⟩ := hW
    refine ⟨hok, _, _, ([] ++ pa) ++ pv, ⟨[] ++ pa, pv, trodAll_append (hargs _ (fun _ _ => rfl)) (hres _ _ _), hvars _ (fun _ _ => rfl), rfl, ?_, ?_⟩, ?_⟩
    · intro b off hp
      have hin : MemPlace.cell b off ∈ before := by rw [hps]; simpa using hp
      rw [hb.frozen (hlt _ hin)]
      exact hz b off hin
    · intro ha
      have := hn ha
      rw [hps] at this
      simpa using this
    · intro p hp _
      rw [hps]
      simpa using hp

/-- A law that has returned true over memory that stands: its post. -/
theorem post_law {f : Func} {s : ChangeSpec} {apart : Bool} {W W' : World} {args : Array Value} {ds : List (DataW H)} {before : List MemPlace} (hs : s.vars = [])
    (hW : DataW.Whole enc Tryd.prog f.params.toList s.vars apart W args.toList ds [] before)
    (hf : s.fn H (ds ++ []) = { results := [.lit (.bool true)], args := ds }) (hr : f.resultTypes = #[4])
    (hts : (f.params.toList.all fun t => Tryd.prog.readableRec t && decide (t < Tryd.prog.types.size)) = true) (hb : Below W.heap.size W W') :
    s.post enc Tryd.prog f apart true false false W args (.bool true) W' := by
  have hlt : ∀ p ∈ before, p.block < W.heap.size := fun p hp => hW.lt p hp
  have hold : ∀ p ∈ before, (fun b => decide (b < W.heap.size)) p.block = true := fun p hp => by simpa using hlt p hp
  obtain ⟨p, q, hA, hV, e, hz, hn⟩ := id hW
  rw [hs] at hV
  obtain ⟨_, rfl⟩ := trodVars_none hV
  rw [List.append_nil] at e
  subst e
  have hT := trodAll_below lout hb _ _ _ _ hts hA hlt
  have hres : ∀ (b : Nat) (sp : Nat → Bool) (hd : Bool), DataW.TrodAll enc Tryd.prog W' b sp hd f.resultTypes.toList ((Value.bool true).resultList f.resultTypes.size) [.lit (.bool true)] [] := fun b sp hd => by
    rw [hr]
    exact trodAll_mk1 (shut_bool Tryd.underlying4 true)
  have hv0 : ∀ sp : Nat → Bool, DataW.TrodVars enc Tryd.prog W' sp s.vars (s.fn H (ds ++ [])).vars [] := fun sp => by rw [hs, hf]; rfl
  refine post_of_below (pa := before) (pv := []) hW ?_ ?_ (fun sp _ => hv0 sp) (by simp) hb (ok_one hr rfl (okWide_bool_mk Tryd.underlying4 _))
  · rw [hf]; exact hres
  · rw [hf]; exact hT
end
end Go.Proofs.YtlhfickniegooaaDoor

namespace Go.Proofs.YtlhfickniegooaaDoor
open Go.RowKit Go.ChangeShapes Go.WideShapes
set_option maxRecDepth 100000
theorem ints_arg {H : Type} {enc : TypeId × Value → H} {W : World} {base : Nat} {v : Value} {d : DataW H} {p : List MemPlace} (hv : Value.okWide Tryd.prog W .any base 22 v)
    (h : DataW.Trod enc Tryd.prog W 0 (fun _ => true) true 22 v d p) (hw : light 22 d) :
    ∃ (l : List Int) (pa : Option Addr) (pc : Nat), v = .slice pa l.length pc ∧ PathAt W (fun _ => True) pa l ∧ l.length ≤ 17592186043904 ∧ (∀ (j : Nat) (x : Int), l[j]? = some x → okInt x) := by
  obtain ⟨a, len, cap, rfl⟩ := okWide_slice Tryd.underlying22 hv
  obtain ⟨fuel, hf⟩ := h
  obtain ⟨l, pa, pc, e, h1, _, _, h2, h3⟩ := path_of hf hw
  simp [Value.cells] at e
  obtain ⟨rfl, rfl, rfl⟩ := e
  exact ⟨l, _, _, rfl, h1, h2, h3⟩
end Go.Proofs.YtlhfickniegooaaDoor

namespace Go.Proofs.YtlhfickniegooaaDoor
open Go.RowKit Go.ChangeShapes Go.WideShapes
set_option maxRecDepth 100000
section
variable {H : Type} {enc : TypeId × Value → H} {w : World}
theorem cellsA : Tryd.prog.cellsOf 65 = 3 := by kernel_rfl
theorem act_of {fuel : Nat} {cs : List Value} {x : DataW H × List MemPlace} (h : DataW.trod enc Tryd.prog w 0 (fun _ => true) true fuel 65 cs = some x) : ∃ a b c : Int, cs = [.int .i64 a, .int .i64 b, .int .i64 c] ∧ okInt a ∧ okInt b ∧ okInt c := by
  obtain ⟨xs, n, rfl, rfl, hl, hlen, hg⟩ := DataW.trod_struct Tryd.underlying65 h
  rw [cellsA] at hl
  match cs, hl with
  | [c0, c1, c2], _ =>
  match xs, hlen with
  | [x0, x1, x2], _ =>
  have g0 : DataW.trod enc Tryd.prog w 0 (fun _ => true) true n 3 (List.take (Tryd.prog.cellsOf 3) [c0, c1, c2]) = some x0 := hg 0 _ rfl
  have g1 : DataW.trod enc Tryd.prog w 0 (fun _ => true) true n 3 (List.take (Tryd.prog.cellsOf 3) [c1, c2]) = some x1 := hg 1 _ rfl
  have g2 : DataW.trod enc Tryd.prog w 0 (fun _ => true) true n 3 (List.take (Tryd.prog.cellsOf 3) [c2]) = some x2 := hg 2 _ rfl
  rw [cellsI] at g0 g1 g2
  simp only [List.take] at g0 g1 g2
  obtain ⟨a, e0, _, w0⟩ := DataW.trod_int Tryd.underlying3 g0
  obtain ⟨b, e1, _, w1⟩ := DataW.trod_int Tryd.underlying3 g1
  obtain ⟨c, e2, _, w2⟩ := DataW.trod_int Tryd.underlying3 g2
  simp only [List.cons.injEq, and_true] at e0 e1 e2
  exact ⟨a, b, c, by rw [e0, e1, e2], okInt_wf w0, okInt_wf w1, okInt_wf w2⟩
theorem acts_of {n : Nat} : ∀ (els : List (DataW H × List MemPlace)) (b o : Nat), (∀ i, i < els.length → (w.cells? 0 ⟨b, o + i * 3, none⟩ 3).bind (DataW.trod enc Tryd.prog w 0 (fun _ => true) true n 65) = els[i]?) →
    ∃ xs : List (Int × Int × Int), xs.length = els.length ∧ ∀ (j : Nat) (x : Int × Int × Int), xs[j]? = some x → w.cell? ⟨b, o + j * 3, none⟩ = some (.int .i64 x.1) ∧ w.cell? ⟨b, o + j * 3 + 1, none⟩ = some (.int .i64 x.2.1) ∧ w.cell? ⟨b, o + j * 3 + 2, none⟩ = some (.int .i64 x.2.2) ∧ okInt x.1 ∧ okInt x.2.1 ∧ okInt x.2.2
  | [], _, _, _ => ⟨[], rfl, fun j x h => by simp at h⟩
  | y :: els, b, o, hg => by
    obtain ⟨r, r1, r2⟩ := acts_of els b (o + 3) (fun i hi => by
      have := hg (i + 1) (by simpa using hi)
      rw [show o + 3 + i * 3 = o + (i + 1) * 3 by omega]
      simpa using this)
    have h0 := hg 0 (by simp)
    simp only [Nat.zero_mul, Nat.add_zero, List.getElem?_cons_zero] at h0
    obtain ⟨cs, hc, ht⟩ := Option.bind_eq_some_iff.1 h0
    obtain ⟨p, q, s, rfl, o1, o2, o3⟩ := act_of ht
    have hcell := cells_at hc
    refine ⟨(p, q, s) :: r, by simp [r1], fun j x hx => ?_⟩
    cases j with
    | zero =>
      simp only [List.getElem?_cons_zero, Option.some.injEq] at hx
      subst hx
      have z0 := hcell 0 _ rfl
      have z1 := hcell 1 _ rfl
      have z2 := hcell 2 _ rfl
      simp only [Nat.zero_mul, Nat.add_zero] at z0 ⊢
      exact ⟨z0, z1, z2, o1, o2, o3⟩
    | succ j =>
      have := r2 j x (by simpa using hx)
      rw [show o + 3 + j * 3 = o + (j + 1) * 3 by omega] at this
      exact this
end
theorem acts_arg {H : Type} {enc : TypeId × Value → H} {W : World} {base : Nat} {v : Value} {d : DataW H} {p : List MemPlace} (hv : Value.okWide Tryd.prog W .any base 61 v)
    (h : DataW.Trod enc Tryd.prog W 0 (fun _ => true) true 61 v d p) :
    ∃ (l : List (Int × Int × Int)) (pa : Option Addr) (pc : Nat), v = .slice pa l.length pc ∧ ActsAt W pa l := by
  obtain ⟨a, len, cap, rfl⟩ := okWide_slice Tryd.underlying61 hv
  obtain ⟨fuel, hf⟩ := h
  rcases DataW.trod_slice Tryd.underlying61 hf with ⟨e6, _⟩ | ⟨a', il, ic, elems, rest, n', en, e6, _, _, hle, hm, hel, hget, _, _⟩
  · simp [Value.cells] at e6
    obtain ⟨rfl, rfl, rfl⟩ := e6
    exact ⟨[], none, 0, rfl, fun j x h => by simp at h⟩
  · simp [Value.cells] at e6
    obtain ⟨rfl, rfl, rfl⟩ := e6
    rcases Nat.eq_zero_or_pos len with h0 | h0
    · exact ⟨[], some a', cap, by rw [h0]; rfl, fun j x h => by simp at h⟩
    · have hg0 := hget 0 h0
      rw [List.getElem?_eq_getElem (by omega), cellsA] at hg0
      obtain ⟨cs0, hc0, _⟩ := Option.bind_eq_some_iff.1 hg0
      obtain ⟨b, o, ea⟩ := cells_spot hc0 (by decide)
      have ea' : a' = ⟨b, o, none⟩ := by
        simp only [Nat.zero_mul] at ea
        simpa [Addr.add] using ea
      subst ea'
      obtain ⟨xs, r1, r2⟩ := acts_of (n := n') elems b o (fun i hi => by
        have := hget i (by omega)
        rw [cellsA, add_at] at this
        exact this)
      have hxl : xs.length = len := by omega
      refine ⟨xs, some ⟨b, o, none⟩, cap, by rw [hxl], fun j x hx => ?_⟩
      obtain ⟨z0, z1, z2, z3⟩ := r2 j x hx
      exact ⟨b, o, rfl, cell_lt z0, z0, z1, z2, z3⟩
end Go.Proofs.YtlhfickniegooaaDoor
