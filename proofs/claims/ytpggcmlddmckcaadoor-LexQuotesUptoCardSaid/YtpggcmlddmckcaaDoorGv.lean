/-
  Words for contracts over regions by evaluation: entering, tests, blocks and loops, results, loads and stores. Written by an AI agent.
-/
import Derived.Test.YtpggcmlddmckcaaDoorEv
import Derived.Deep.MidRow
import Derived.Laws.AppendOwn
namespace Go.Proofs.YtpggcmlddmckcaaDoor
open Go.RowKit
set_option maxRecDepth 100000

theorem wpo {P : Program} {k : Nat} {x y : Code} {Q : Exit → Act → World → Prop} {a : Act} {w : World} (hc : slot a k = .bool false) (h : y.wp P Q a w) : (Code.cond (.tmp k) x .skip).wp P (Exit.then (y.wp P Q) Q) a w := wp_cond_false hc (wp_skip h)
theorem wpn {P : Program} {k : Nat} {x y : Code} {Q : Exit → Act → World → Prop} {a : Act} {w : World} (hc : slot a k = .bool true) (h : y.wp P Q a w) : (Code.cond (.tmp k) .skip x).wp P (Exit.then (y.wp P Q) Q) a w := wp_cond_true hc (wp_skip h)
/-- The way out of a loop, whose test failed. -/
theorem wpx {P : Program} {k n : Nat} {K : Act → World → Prop} {Q : Exit → Act → World → Prop} {a : Act} {w : World} (hc : slot a k = .bool false) (h : Q (.exit n) a w) : (Code.cond (.tmp k) .skip (.exit n)).wp P (Exit.then K Q) a w := wp_cond_false hc (wp_exit h)
theorem wpl {P : Program} {c : Code} {Q : Exit → Act → World → Prop} {a : Act} {w : World} (h : c.wp P (Exit.then (Q .normal) Q) a w) : c.wp P Q a w := by
  have e : Exit.then (Q .normal) Q = Q := by
    funext e a w
    cases e <;> rfl
  rwa [e] at h
theorem then_ret {K : Act → World → Prop} {Q : Exit → Act → World → Prop} {a : Act} {w : World} (h : Q .ret a w) : Exit.then K Q .ret a w := h
theorem block_ret {id : Nat} {Q : Exit → Act → World → Prop} {a : Act} {w : World} (h : Q .ret a w) : Exit.inBlock id Q .ret a w := by simpa [Exit.inBlock] using h
theorem then_out {id : Nat} {K : Act → World → Prop} {Q : Exit → Act → World → Prop} {a : Act} {w : World} (h : Q (.exit id) a w) : Exit.then K Q (.exit id) a w := h
theorem block_out {id : Nat} {Q : Exit → Act → World → Prop} {a : Act} {w : World} (h : Q .normal a w) : Exit.inBlock id Q (.exit id) a w := by simpa [Exit.inBlock] using h
theorem block_norm {id : Nat} {Q : Exit → Act → World → Prop} {a : Act} {w : World} (h : Q .normal a w) : Exit.inBlock id Q .normal a w := by simpa [Exit.inBlock] using h
theorem block_past {id j : Nat} (hne : j ≠ id) {Q : Exit → Act → World → Prop} {a : Act} {w : World} (h : Q (.exit j) a w) : Exit.inBlock id Q (.exit j) a w := by simpa [Exit.inBlock, hne] using h
def argsL : Nat → List Value → List (Nat × Value)
  | _, [] => []
  | k, v :: r => (k, v) :: argsL (k + 1) r
theorem argsL_get : ∀ (vs : List Value) (k : Nat) (p : Nat × Value), p ∈ argsL k vs → ∃ j, p.1 = k + j ∧ vs[j]? = some p.2
  | [], _, _, h => by cases h
  | v :: r, k, p, h => by
    rcases List.mem_cons.1 h with rfl | h
    · exact ⟨0, rfl, rfl⟩
    · obtain ⟨j, h1, h2⟩ := argsL_get r (k + 1) p h
      exact ⟨j + 1, by omega, by simpa using h2⟩
theorem Sl.start (vs : List Value) (n : Nat) (h : vs.length ≤ n) : Sl n { tmps := vs.toArray ++ Array.replicate (n - vs.toArray.size) undef, defers := [] } (argsL 0 vs) :=
  ⟨by simp; omega, rfl, fun p hp => by
    obtain ⟨j, h1, h2⟩ := argsL_get vs 0 p hp
    have hj := (List.getElem?_eq_some_iff.1 h2).1
    simp only [slot, Array.getD_eq_getD_getElem?, h1, Nat.zero_add]
    rw [Array.getElem?_append_left (by simpa using hj)]
    simp [h2]⟩
theorem calls_ev {P : Program} {f : FuncId} {fn : Func} {c : Code} {vs : List Value} {w : World} {R : Ending → World → Prop} (n : Nat) (hf : P.funcs[f]? = some fn) (hb : fn.body = some c) (hn : fn.ntmps = n) (hv : vs.length ≤ n)
    (h : ∀ a, Sl n a (argsL 0 vs) → c.wp P (bodyPost P fn R) a w) : Calls P f vs.toArray w R := by
  refine calls_of_wp hf hb ?_
  rw [hn]
  exact h _ (Sl.start vs n hv)
theorem ret1 {P : Program} {fn : Func} {R : Ending → World → Prop} {a : Act} {w : World} {n t : Nat} {l : List (Nat × Value)} {v : Value} (hr : fn.results = #[.tmp t]) (hs : Sl n a l) (e : l.lookup t = some v) (h : R (.returned v) w) : bodyPost P fn R .ret a w :=
  bodyPost_ret ((results_tmp hr _ _ _).trans (by rw [show a.tmps.getD t undef = v from hs.look t e])) hs.defers h
theorem ret2 {P : Program} {fn : Func} {R : Ending → World → Prop} {a : Act} {w : World} {n t u : Nat} {l : List (Nat × Value)} {v x : Value} (hr : fn.results = #[.tmp t, .tmp u]) (hs : Sl n a l) (e : l.lookup t = some v) (e2 : l.lookup u = some x) (h : R (.returned (.tuple #[v, x])) w) : bodyPost P fn R .ret a w :=
  bodyPost_ret ((results_tmp2 hr _ _ _).trans (by rw [show a.tmps.getD t undef = v from hs.look t e, show a.tmps.getD u undef = x from hs.look u e2])) hs.defers h

theorem lds1 {P : Program} {t : TypeId} {d : TypeDesc} {b o : Nat} {v : Value} {w : World} (hu : P.underlying t = some d) (hd : d.isRow = false) (h : w.cell? ⟨b, o, none⟩ = some v) : Lds P t (.pointer (some ⟨b, o, none⟩)) v w := fun m => by
  have h' : (w.drewN m).cell? ⟨b, o, none⟩ = some v := h
  have hA : (isAgg t).run P (w.drewN m) = .ok false (w.drewN m) := by
    cases d <;> first | (simp [TypeDesc.isRow] at hd; done) | simp [isAgg, run_underlying hu]
  simp [Instr.loadAt, Instr.sureAddr, loadVar, hA, h']
theorem ldsA {P : Program} {t : TypeId} {d : TypeDesc} {b o : Nat} {cs : List Value} {w : World} (hu : P.underlying t = some d) (hd : d.isRow = true) (hi : (P.info? t).map (·.size) = some cs.length) (h : w.rangeAt b o cs) : Lds P t (.pointer (some ⟨b, o, none⟩)) (.agg cs.toArray) w := fun m =>
  run_loadAt_mid (w.drewN m) b o t cs d h hu hd hi
theorem range_blk {w : World} {g : Nat} {t : TypeId} {cs : Array Value} (h : Blk w g t cs) {o : Nat} {vs : List Value} (hv : ∀ j v, vs[j]? = some v → cs[o + j]? = some v) : w.rangeAt g o vs := fun j v hj => by rw [h.cell, hv j v hj]
theorem there_blk {w : World} {g : Nat} {t : TypeId} {cs : Array Value} (h : Blk w g t cs) {o n : Nat} (hn : o + n ≤ cs.size) : w.there g o n := fun j hj => ⟨by rw [h.cell, Array.getElem?_eq_getElem (by omega)]; rfl, h.frozen _⟩
theorem stsA {P : Program} {t : TypeId} {b o : Nat} {cells : Array Value} {w : World} (ht : w.there b o cells.size) (hi : (P.info? t).map (·.size) = some cells.size) (h1 : cells.all (·.oneCell') = true) :
    (Instr.storeAt t (.pointer (some ⟨b, o, none⟩)) (.agg cells)).run P w = .ok () (w.setCells b o cells.toList) := run_storeAt_mid w b o t cells ht hi h1
theorem sts1 {P : Program} {t : TypeId} {b o : Nat} {v : Value} {w : World} (ht : w.there b o 1) (hi : (P.info? t).map (·.size) = some 1) (h1 : v.oneCell' = true) :
    (Instr.storeAt t (.pointer (some ⟨b, o, none⟩)) v).run P w = .ok () (w.setCells b o [v]) := by
  obtain ⟨i, hi1, hi2⟩ := Option.map_eq_some_iff.1 hi
  obtain ⟨h2, h3⟩ := ht 0 (by omega)
  rw [Nat.add_zero] at h2 h3
  obtain ⟨u, hu⟩ := Option.isSome_iff_exists.1 h2
  have hc : v.cells = #[v] := by cases v <;> first | rfl | cases h1
  have ha : (⟨b, o, none⟩ : Addr).add 0 = ⟨b, o, none⟩ := rfl
  simp [Instr.storeAt, Instr.sureAddr, storeVar, sizeOf, typeInfo, hi1, hi2, hc, storeCells, run_store _ _ _ _ _ h1, ha, hu, h3, World.setCells]
/-- A block behind a store into it. -/
theorem Blk.setL {g : Nat} {t : TypeId} : ∀ (vs : List Value) (o : Nat) (cs : Array Value) (w : World), Blk w g t cs → Blk (w.setCells g o vs) g t (vs.foldl (fun (p : Array Value × Nat) v => (p.1.setIfInBounds p.2 v, p.2 + 1)) (cs, o)).1
  | [], _, _, _, h => h
  | v :: r, o, _, _, h => Blk.setL r (o + 1) _ _ (h.set_ o v)
theorem below_setCells {B b : Nat} {w0 : World} : ∀ (vs : List Value) (o : Nat) (w : World), Below B w0 w → B ≤ b → Below B w0 (w.setCells b o vs)
  | [], _, _, h, _ => h
  | v :: r, o, _, h, hb => below_setCells r (o + 1) _ (h.setCell (p := ⟨b, o, none⟩) hb v) hb
theorem Blk.farL {g b : Nat} {t : TypeId} {cs : Array Value} (hne : g ≠ b) : ∀ (vs : List Value) (o : Nat) (w : World), Blk w g t cs → Blk (w.setCells b o vs) g t cs
  | [], _, _, h => h
  | v :: r, o, _, h => Blk.farL hne r (o + 1) _ (h.far (p := ⟨b, o, none⟩) hne v)
/-- An element's address. -/
theorem ix_at {P : Program} {t e : TypeId} {sz g n cap o : Nat} {x : Int} (k : Nat) (hx : x = k) (ht : P.underlying t = some (.slice e)) (hi : (P.info? e).map (·.size) = some sz) (hk : k < n) (ho : o = k * sz) (w : World) :
    (Instr.indexAt t (.slice (some ⟨g, 0, none⟩) n cap) (.int .i64 x)).run P w = .ok (.pointer (some ⟨g, o, none⟩)) w := by
  subst hx
  subst ho
  obtain ⟨i, hi1, hi2⟩ := Option.map_eq_some_iff.1 hi
  have ha : (⟨g, 0, none⟩ : Addr).add (k * sz) = ⟨g, k * sz, none⟩ := by
    unfold Addr.add
    split
    · rename_i h; rw [h]
    · simp
  simp [Instr.indexAt, asIntOf, run_underlying ht, sizeOf, typeInfo, hi1, hi2, ha]
  omega
/-- A contract with one value, as one with some value. -/
theorem Calls.con {P : Program} {f : FuncId} {args : Array Value} {w : World} {v : Value} {C : World → Prop} (h : Calls P f args w fun e w' => e = .returned v ∧ C w') : Calls P f args w fun e w' => ∃ x, e = .returned x ∧ (x = v ∧ C w') :=
  h.mono fun _ _ ⟨he, hc⟩ => ⟨v, he, rfl, hc⟩
theorem below_grown {w w' : World} (h : w.grownBy w' none) : Below w.heap.size w w' := ⟨h.os, h.tape, h.output, h.size, fun k hk => h.block k hk (by simp)⟩
theorem eq_bool {P : Program} {t : TypeId} {d : TypeDesc} (hu : P.underlying t = some d) (hd : d = .bool) (a b : Bool) (w : World) : (binOp .eql t (.bool a) (.bool b)).run P w = .ok (.bool (a == b)) w := by
  subst hd
  have h : ∀ d : Nat, (Op.equalIn (d + 1) t (.bool a) (.bool b)).run P w = .ok (a == b) w := fun d => by simp [Op.equalIn, run_underlying hu]
  simp only [binOp]
  simp [Op.equal, Op.maxDepth, h 9999]
end Go.Proofs.YtpggcmlddmckcaaDoor
