/-
  Words for the rows of this seat: the listed variables, what a world of the condition's holds, the post of a law. Written by an AI agent.
-/
import Derived.Test.YtpggcmlddmckcaaDoorKn2
import Derived.Test.YtpggcmlddmckcaaDoorRows
import Derived.Test.YtpggcmlddmckcaaDoorChecked
import Derived.ProofKit
import Derived.Deep.Slices
import Derived.ChangeSlices
import Derived.ChangeAt
import Derived.LaidMore
import Derived.LaidLaws
import Derived.LaidHandle
import Derived.OpenShut
import Derived.Stop.Joined
import Derived.HandedShaped
namespace Go.Proofs.YtpggcmlddmckcaaDoor
open Go.RowKit Go.ChangeShapes Go.WideShapes Go.ChangeAt

theorem ownKn : ownKnob Tryd.prog.godebug = none := by kernel_rfl
theorem lout : laidOutB Tryd.prog = true := by kernel_rfl
set_option maxRecDepth 100000
abbrev laidL : List (String × DataW Unit) := [("unicode.White_Space", Rows.laid_unicode_White_Space), ("strings.asciiSpace", Rows.laid_strings_asciiSpace), ("guise/lex.words", Rows.laid_guise_lex_words)]

theorem blanks_data : (Rows.laid_strings_asciiSpace : DataW Unit) = Lib.tabData .u8 Lib.asciiSpaceTab := by kernel_rfl
theorem words_data : (Rows.laid_guise_lex_words : DataW Unit) = .agg (wordsL.map fun l => .lit (.string l)) := by kernel_rfl
/-- The condition, and the shape that each world has, give what the walks ask. -/
theorem lex_of_laid {W : World} (h : laidMetH Tryd.prog laidL W) (hsh : W.ShapedOpen Tryd.prog) : LexAt W := by
  rw [MakeChecks.laidMetH_plain _ _ _ (by kernel_rfl)] at h
  obtain ⟨ps, ⟨g1, t1, cs1, f1, p1, q1, hg1, ht1, hv1, hd1, ⟨g2, t2, cs2, f2, p2, q2, hg2, ht2, hv2, hd2, ⟨g3, t3, cs3, f3, p3, q3, hg3, ht3, hv3, hd3, _, _⟩, _⟩, _⟩, _, _⟩ := h
  obtain rfl := Option.some.inj ((show Tryd.prog.globalNamed "guise/lex.words" = some 0 by kernel_rfl).symm.trans hg3)
  obtain rfl := Option.some.inj ((show (Tryd.prog.globals[0]?).map (·.type) = some 69 by kernel_rfl).symm.trans ht3)
  obtain rfl := Option.some.inj ((show Tryd.prog.globalNamed "strings.asciiSpace" = some 2 by kernel_rfl).symm.trans hg2)
  obtain rfl := Option.some.inj ((show (Tryd.prog.globals[2]?).map (·.type) = some 85 by kernel_rfl).symm.trans ht2)
  have hz : 5 ≤ W.heap.size := by
    obtain ⟨⟨z, t⟩, hr⟩ := Option.isSome_iff_exists.1 (show ((((begin Tryd.prog (fun _ _ => 0) default).world.heap[4]?).bind Obj.row?).isSome) = true by kernel_rfl)
    obtain ⟨cs, ho, _⟩ := hsh.1 4 z t (of_decide_eq_true (by kernel_rfl)) hr
    exact (Array.getElem?_eq_some_iff.1 ho).1
  refine ⟨?_, ?_, Tryd.laysM144.s1_3 W hsh, hz⟩
  · rw [hv3]
    congr 1
    obtain ⟨xs, m, rfl, hx, hlen, hn, hel⟩ := DataW.trod_array Tryd.underlying69 hd3
    rw [show Tryd.prog.cellsOf 69 = 22 by kernel_rfl] at hlen
    rw [show Tryd.prog.cellsOf 9 = 1 by kernel_rfl] at hel
    have hx1 : (Rows.laid_guise_lex_words : DataW Unit) = .agg (xs.map (·.1)) := (Prod.mk.inj hx).1
    rw [words_data] at hx1
    injection hx1 with hx1
    have hls : cs3.toList.length = 22 := by simpa using hlen
    apply Array.ext'
    apply List.ext_getElem?
    intro j
    by_cases hj : j < 22
    · have he := hel j hj
      rw [Nat.mul_one, List.drop_eq_getElem_cons (by omega), List.getElem?_eq_getElem (by omega)] at he
      obtain ⟨s', e1, e2, _⟩ := DataW.trod_string Tryd.underlying9 he
      simp only [List.take_succ_cons, List.take_zero, List.cons.injEq, and_true] at e1
      have hdat : (xs.map (·.1))[j]? = some (.lit (.string s'.data.toList)) := by
        rw [List.getElem?_map, List.getElem?_eq_getElem (by omega), e2]; rfl
      have hwl : j < wordsL.length := hj
      rw [← hx1, List.getElem?_map, List.getElem?_eq_getElem hwl] at hdat
      simp only [Option.map_some, Option.some.injEq, DataW.lit.injEq, Lit.string.injEq] at hdat
      rw [List.getElem?_eq_getElem (by omega), e1]
      have hws : wordsC.toList[j]? = some (.string (bs wordsL[j])) := by
        unfold wordsC wordsS
        simp [hwl]
      rw [hws, hdat]
      rfl
    · rw [List.getElem?_eq_none (by omega), List.getElem?_eq_none (by show wordsC.toList.length ≤ j; rw [show wordsC.toList.length = 22 from rfl]; omega)]
  · unfold Lib.TabIs
    rw [hv2]
    rw [blanks_data] at hd2
    rw [← Lib.cells_of_tab Tryd.underlying85 Tryd.underlying5 (by kernel_rfl) (by kernel_rfl) hd2]

section
variable {H : Type} {enc : TypeId × Value → H}
/-- The plain wrap with a condition of the row's and the world's shape. -/
theorem returns_shaped {a : Assume} {C : Checked} {os : Os} {f : FuncId} {fn : Func} {s : ChangeSpec} {conds : List PathCond} {apart fresh handsOn again : Bool} {X : World → Array Value → Prop}
    (hX : ∀ (w w' : World) (args : Array Value), w.heap = w'.heap → X w args → X w' args)
    (own : ownKnob C.prog.godebug = none) (started : os.Started) (noInit : C.prog.inits.idxOf? f = none) (hfn : C.prog.funcs[f]? = some fn)
    (witness : ∃ (w : World) (tape : Tape) (i : Input), w.os = os ∧ (w.forCall tape i).Shaped C.prog ∧ i.vars = [] ∧ Input.okWide C.prog (w.forCall tape i) .any w.heap.size f i ∧
      ((s.pre enc C.prog fn conds apart (w.forCall tape i).memory i.args ∧ X (w.forCall tape i).memory i.args) ∧ sizedMet enc C.prog fn (OpenSpec.ofChange s) apart (w.forCall tape i).memory i.args) ∧ a.holds C.prog (lone (Frame.enter C.prog f i.args .normal) [] (w.forCall tape i)))
    (contract : ∀ (W : World) (base : Nat) (args : Array Value) (ds gs : List (DataW H)) (before : List MemPlace),
      (∀ (j : Nat) t v, fn.params[j]? = some t → args[j]? = some v → Value.okWide C.prog W .any base t v) →
      DataW.Whole enc C.prog fn.params.toList s.vars apart W args.toList ds gs before →
      (DataW.weightsEach C.prog (fn.params.toList ++ s.plain.varTypes C.prog) (ds ++ gs)).all (· ≤ reachBytes) = true → X W args → W.ShapedOpen C.prog →
      Calls C.prog f args W fun e W' => ∃ v, e = .returned v ∧ s.post enc C.prog fn apart fresh handsOn again W args v W') :
    ReturnsInHanded a C os f .any (fun w args => (s.pre enc C.prog fn conds apart w args ∧ X w args) ∧ sizedMet enc C.prog fn (OpenSpec.ofChange s) apart w args) (s.post enc C.prog fn apart fresh handsOn again) := by
  refine returnsInHanded_of_calls own started noInit witness ?_
  intro w tape i _ hsh _ hok hpre _
  obtain ⟨_, _, _, fn', hfn', _, _, _, _, hval⟩ := hok
  have e : fn' = fn := Option.some.inj (hfn'.symm.trans hfn)
  subst e
  obtain ⟨⟨⟨ds, gs, before, hw, hc⟩, hx⟩, hz⟩ := hpre
  have hw' := DataW.Whole.of_heap (w' := w.forCall tape i) (by rfl) hw
  refine (contract (w.forCall tape i) w.heap.size i.args ds gs before hval hw' (hz.weights hw) (hX _ _ _ (by rfl) hx) hsh).mono fun e W' ⟨v, he, hp⟩ => ?_
  subst he
  exact ChangeSpec.post_blind hp
end
theorem door_met (os : Os) (args : Array Value) : laidMetH Tryd.prog laidL ((World.doorLaid Tryd.prog 400 os).forCall (fun _ _ => 0) ⟨#[], args, []⟩).memory :=
  laidMetH_of_parts3 (fuel := 8) (laidMet_of_run' 8 (by kernel_rfl) (by kernel_rfl)) (by kernel_rfl) (by kernel_rfl)
section
variable {H : Type} {enc : TypeId × Value → H}
theorem trodAll_below {P : Program} (hl : laidOutB P = true) {W W' : World} (hb : Below W.heap.size W W') : ∀ (ts : List TypeId) (vs : List Value) (ds : List (DataW H)) (ps : List MemPlace),
    (ts.all fun t => P.readableRec t && decide (t < P.types.size)) = true → DataW.TrodAll enc P W 0 (fun _ => true) true ts vs ds ps → (∀ x ∈ ps, x.block < W.heap.size) →
    ∀ sp : Nat → Bool, (∀ p ∈ ps, sp p.block = true) → DataW.TrodAll enc P W' 0 sp true ts vs ds ps
  | [], [], [], ps, _, h, _, _, _ => h
  | t :: ts, v :: vs, d :: ds, ps, ht, ⟨p, q, h1, h2, e⟩, hlt, sp, hsp => by
    subst e
    simp only [List.all_cons, Bool.and_eq_true, decide_eq_true_iff] at ht
    exact ⟨p, q, WideElems.Trod_stays hl ht.1.1 ht.1.2 h1 (fun x hx => hb.same (hlt x (List.mem_append_left _ hx))) (fun x hx => hsp x (List.mem_append_left _ hx)),
      trodAll_below hl hb ts vs ds q ht.2 h2 (fun x hx => hlt x (List.mem_append_right _ hx)) sp (fun x hx => hsp x (List.mem_append_right _ hx)), rfl⟩
  | [], _ :: _, _, _, _, h, _, _, _ => h.elim
  | [], [], _ :: _, _, _, h, _, _, _ => h.elim
  | _ :: _, [], _, _, _, h, _, _, _ => h.elim
  | _ :: _, _ :: _, [], _, _, h, _, _, _ => h.elim

theorem post_of_below {P : Program} {f : Func} {s : ChangeSpec} {apart fresh handsOn again : Bool} {W W' : World} {args : Array Value} {v : Value} {ds gs : List (DataW H)} {before pa pv : List MemPlace}
    (hW : DataW.Whole enc P f.params.toList s.vars apart W args.toList ds gs before)
    (hres : ∀ (b : Nat) (sp : Nat → Bool) (hd : Bool), DataW.TrodAll enc P W' b sp hd f.resultTypes.toList (v.resultList f.resultTypes.size) (s.fn H (ds ++ gs)).results [])
    (hargs : ∀ sp : Nat → Bool, (∀ p ∈ before, sp p.block = true) → DataW.TrodAll enc P W' 0 sp true f.params.toList args.toList (s.fn H (ds ++ gs)).args pa)
    (hvars : ∀ sp : Nat → Bool, (∀ p ∈ before, sp p.block = true) → DataW.TrodVars enc P W' sp s.vars (s.fn H (ds ++ gs)).vars pv)
    (hps : before = pa ++ pv) (hb : Below W.heap.size W W')
    (hok : ∀ (j : Nat) (t : TypeId) (r : Value), f.resultTypes[j]? = some t → (v.resultList f.resultTypes.size)[j]? = some r → Value.okWide P W' .any 0 t r) :
    s.post enc P f apart fresh handsOn again W args v W' := by
  have hlt : ∀ p ∈ before, p.block < W.heap.size := fun p hp => hW.lt p hp
  have hold : ∀ p ∈ before, (fun b => decide (b < W.heap.size)) p.block = true := fun p hp => by simpa using hlt p hp
  refine ⟨ds, gs, before, [], pa, pv, hW, hres _ _ _, hargs _ hold, hvars _ hold, World.keptBut_mono (fun p hp => ⟨hp, ?_⟩) (hb.frame (· ∈ before)), fun _ => ?_⟩
  · rw [hps, List.mem_append] at hp
    exact Or.inr hp
  · obtain ⟨_, _, _, _, _, hz, hn⟩ := hW
    refine ⟨hok, _, _, ([] ++ pa) ++ pv, ⟨[] ++ pa, pv, trodAll_append (hargs _ (fun _ _ => rfl)) (hres _ _ _), hvars _ (fun _ _ => rfl), rfl, ?_, ?_⟩, ?_⟩
    · intro b off hp
      have hin : MemPlace.cell b off ∈ before := by rw [hps]; simpa using hp
      rw [hb.frozen (hlt _ hin)]
      exact hz b off hin
    · intro ha
      have := hn ha
      rw [hps] at this
      simpa using this
    · intro p hp _
      rw [hps]
      simpa using hp

/-- A law that has returned true over memory that stands: its post. -/
theorem post_law {f : Func} {s : ChangeSpec} {apart : Bool} {W W' : World} {args : Array Value} {ds : List (DataW H)} {before : List MemPlace} (hs : s.vars = [])
    (hW : DataW.Whole enc Tryd.prog f.params.toList s.vars apart W args.toList ds [] before)
    (hf : s.fn H (ds ++ []) = { results := [.lit (.bool true)], args := ds }) (hr : f.resultTypes = #[4])
    (hts : (f.params.toList.all fun t => Tryd.prog.readableRec t && decide (t < Tryd.prog.types.size)) = true) (hb : Below W.heap.size W W') :
    s.post enc Tryd.prog f apart true false false W args (.bool true) W' := by
  have hlt : ∀ p ∈ before, p.block < W.heap.size := fun p hp => hW.lt p hp
  have hold : ∀ p ∈ before, (fun b => decide (b < W.heap.size)) p.block = true := fun p hp => by simpa using hlt p hp
  obtain ⟨p, q, hA, hV, e, hz, hn⟩ := id hW
  rw [hs] at hV
  obtain ⟨_, rfl⟩ := trodVars_none hV
  rw [List.append_nil] at e
  subst e
  have hT := trodAll_below lout hb _ _ _ _ hts hA hlt
  have hres : ∀ (b : Nat) (sp : Nat → Bool) (hd : Bool), DataW.TrodAll enc Tryd.prog W' b sp hd f.resultTypes.toList ((Value.bool true).resultList f.resultTypes.size) [.lit (.bool true)] [] := fun b sp hd => by
    rw [hr]
    exact trodAll_mk1 (shut_bool Tryd.underlying4 true)
  have hv0 : ∀ sp : Nat → Bool, DataW.TrodVars enc Tryd.prog W' sp s.vars (s.fn H (ds ++ [])).vars [] := fun sp => by rw [hs, hf]; rfl
  refine post_of_below (pa := before) (pv := []) hW ?_ ?_ (fun sp _ => hv0 sp) (by simp) hb (ok_one hr rfl (okWide_bool_mk Tryd.underlying4 _))
  · rw [hf]; exact hres
  · rw [hf]; exact hT
end
end Go.Proofs.YtpggcmlddmckcaaDoor
