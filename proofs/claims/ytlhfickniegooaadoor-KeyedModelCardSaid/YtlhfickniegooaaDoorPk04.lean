/-
  Regions by evaluation: reading operations that float beside effects in one order. Results that lie in cells. A datum as one tree, and where it lies; what the regions of package keyed want. Regions by evaluation: a region that draws its order, reads, and calls what makes memory but hands back one value over a class of worlds. Regions of guiselaw9. Written by an AI agent.
-/
import Derived.Test.YtlhfickniegooaaDoorPk02
import Derived.Test.YtlhfickniegooaaDoorPk03
import Derived.Test.YtlhfickniegooaaDoorProg
namespace Go.Proofs.YtlhfickniegooaaDoor
open Go.RowKit
variable {df : List Deferred}
set_option maxRecDepth 100000

theorem rg_eff {P : Program} {id : Nat} {Q : Exit → Act → World → Prop} {a : Act} {w : World} {l : List Oper} (C : World → Prop) (is js : List Nat) (li lj lt : List Oper) (n : Nat) (hm : P.follows .mixedOrders = true)
    (hli : is.map (fun i => l.toArray[i]?) = li.map some) (hlj : js.map (fun i => l.toArray[i]?) = lj.map some) (hst : l.drop n = lt) (hlen : is.length + js.length = n)
    (hB : (Region.noSelect l.toArray && decide (n < l.length) && Region.sinkB .any l.toArray n && Region.chainB .any l.toArray n && lexE .any l.toArray n (l.length - n) js is (Array.replicate l.length false)) = true)
    (h : wpP P l.toArray C (fun a' => effC P l.toArray C (fun b u => wpList P l.toArray (outQ (Q .normal)) lt b u) lj a' { w with drawn := w.drawn + 1 }) li a) : rg P Q a w (.region id l.toArray true) := by
  simp only [Bool.and_eq_true, decide_eq_true_eq] at hB
  obtain ⟨⟨⟨⟨hsel, hn⟩, hs⟩, hc⟩, hlex⟩ := hB
  have hn2 : n < l.toArray.size := by simpa using hn
  have inv : HeadInv .any l.toArray n (Array.replicate l.length false) :=
    ⟨by simp, fun j oj _ hl => (by rw [getD_replicate_false] at hl; cases hl), fun t _ ht => getD_in (by simpa using ht) (getD_replicate_false _ _)⟩
  have H := headC_text (P := P) (md := .any) (C := C) (Q := NoPanic Q) (T := fun b u => wpList P l.toArray (outQ (Q .normal)) lt b u) (g := l.length - n) (fun c a b w h => h) hsel hs hc hn2 js hlj { w with drawn := w.drawn + 1 } is li _ a hli inv hlex h
  refine ⟨hm, NoPanic Q, NoPanic.imp, ?_⟩
  have hdl : (l.drop n).length = l.length - n := by simp
  have := headC_any (Q := NoPanic Q) (g := l.length - n) (fun done a' w' hL => by
    have hw : wpList P l.toArray (NoPanic Q) (l.drop n) a' w' := by
      rw [hst]
      exact wpList_weaken (fun _ _ h => h) lt a' w' hL.2
    have := wpAny_of_seq (md := .any) (Q' := NoPanic Q) (l.drop n) n done a' w' (fun j => by simp [List.getElem?_drop]) (by rw [hdl]; exact hL.1) hw
    rwa [hdl] at this) _ _ a _ H
  rw [hlen, show n + (l.length - n) = l.toArray.size by simp; omega] at this
  exact this

def evKE (P : Program) (C : World → Prop) (l : List (Nat × Value)) (k : Value → List Giv → Prop) : Op → List Giv → Prop
  | .binOp op _ x y _, .bit b :: g => match cmpP op (rho l x) (rho l y) with
    | some c => c = b ∧ k (.bool b) g
    | none => False
  | .binOp op t x y _, .val v :: g => (∀ w' : World, (do eqGuard op t x y (rho l x) (rho l y); binOp op t (rho l x) (rho l y) : Sem Value).run P w' = .ok v w') ∧ k v g
  | .index t x i, .val v :: g => (∀ w' : World, (Instr.index t (rho l x) (rho l i)).run P w' = .ok v w') ∧ k v g
  | .indexAddr t x i, .val v :: g => (∀ w' : World, (Instr.indexAt t (rho l x) (rho l i)).run P w' = .ok v w') ∧ k v g
  | .slice t x a b c, .val v :: g => (∀ w' : World, (Instr.sliceAt t (rho l x) (a.map (rho l)) (b.map (rho l)) (c.map (rho l))).run P w' = .ok v w') ∧ k v g
  | .build t ps, .val v :: g => (∀ w' : World, (Instr.build t (ps.map fun (i, x) => (i, rho l x))).run P w' = .ok v w') ∧ k v g
  | .load t x, .val v :: g => (∀ u, C u → (Instr.loadAt t (rho l x)).run P u = .ok v u) ∧ k v g
  | .binOp op _ x y _, .ari :: g => match ariP op (rho l x) (rho l y) with
    | some z => inK z.1 z.2 ∧ k (.int z.1 z.2) g
    | none => False
  | _, _ => False
def evOpE (P : Program) (C : World → Prop) (l : List (Nat × Value)) (o : Oper) (g : List Giv) (k : Value → List Giv → Prop) : Prop :=
  match isSel o.op, o.op.operands.toList.all (knO l) with
  | false, true => match pureV P l o with
    | some v => k v g
    | none => evKE P C l k o.op g
  | _, _ => False
theorem evOpE_stays {P : Program} {C : World → Prop} {l : List (Nat × Value)} {o : Oper} {g : List Giv} {k : Value → List Giv → Prop} {a : Act} (ha : Agr a l) (h : evOpE P C l o g k) :
    ∃ v g', (∀ w, C w → o.wp P a w (fun b u => b = a.put o.dst v ∧ u = w) (fun _ _ _ => False)) ∧ k v g' := by
  unfold evOpE at h
  split at h
  · rename_i hs hkn
    have hsel : ∀ cs b, o.op ≠ .select cs b := fun cs b e => by rw [e] at hs; cases hs
    have he : execOp a.eval o = execOp (rho l) o := execOp_congr o hsel fun x hx => ha.rho (List.all_eq_true.1 hkn x (by simpa using hx))
    have hval : ∀ v g', (∀ w', C w' → (execOp (rho l) o).run P w' = .ok (.value v) w') → k v g' → ∃ v g', (∀ w, C w → o.wp P a w (fun b u => b = a.put o.dst v ∧ u = w) (fun _ _ _ => False)) ∧ k v g' := fun v g' hr hh =>
      ⟨v, g', fun w hw => by
        unfold Oper.wp
        rw [he, hr w hw]
        exact ⟨rfl, rfl⟩, hh⟩
    split at h
    · rename_i v hv
      exact hval v g (fun _ _ => pure_run hv) h
    · generalize ho : o.op = op at h
      unfold evKE at h
      split at h
      · split at h
        · rename_i c hc
          obtain ⟨rfl, h⟩ := h
          exact hval _ _ (fun _ _ => cmp_run ho hc) h
        · exact h.elim
      · rename_i op' t1 x1 y1 t2 v1 g1
        have h1 := h.1
        exact hval _ _ (fun w' _ => by
          have : execOp (rho l) o = (do pure (.value (← (do eqGuard op' t1 x1 y1 (rho l x1) (rho l y1); binOp op' t1 (rho l x1) (rho l y1) : Sem Value))) : Sem Next) := by unfold execOp; rw [ho]
          rw [this, Sem.run_bind, h1 w']
          rfl) h.2
      · exact hval _ _ (fun w' _ => by simp [execOp, ho, h.1]) h.2
      · exact hval _ _ (fun w' _ => by simp [execOp, ho, h.1]) h.2
      · exact hval _ _ (fun w' _ => by simp [execOp, ho, h.1]) h.2
      · exact hval _ _ (fun w' _ => by simp [execOp, ho, h.1]) h.2
      · exact hval _ _ (fun w' hw' => by simp [execOp, ho, h.1 w' hw']) h.2
      · split at h
        · rename_i z hz
          exact hval _ _ (fun _ _ => ari_run ho hz h.1) h.2
        · exact h.elim
      · exact h.elim
  · exact h.elim
def evE (P : Program) (n : Nat) (ops : Array Oper) (C : World → Prop) : List Oper → List Giv → List (Nat × Value) → (List (Nat × Value) → Prop) → Prop
  | [], _, l, K => K l
  | o :: r, g, l, K => match o.dst, gdL ops l o with
    | some d, some true => match decide (d < n) with
      | true => evOpE P C l o g (fun v g' => evE P n ops C r g' ((d, v) :: l) K)
      | false => False
    | _, _ => False
theorem evE_wp {P : Program} {n : Nat} {ops : Array Oper} {C : World → Prop} {Z : Act → Prop} : ∀ (r : List Oper) (g : List Giv) (l : List (Nat × Value)) (K : List (Nat × Value) → Prop) (a : Act),
    a.tmps.size = n → a.defers = df → Agr a l → evE P n ops C r g l K →
    (∀ a' l', a'.tmps.size = n → a'.defers = df → Agr a' l' → (∀ k, some k ∉ r.map (·.dst) → slot a' k = slot a k) → K l' → Z a') → wpP P ops C Z r a
  | [], g, l, K, a, h1, h2, h3, h, hZ => hZ a l h1 h2 h3 (fun _ _ => rfl) h
  | o :: r, g, l, K, a, h1, h2, h3, h, hZ => by
    unfold evE at h
    split at h
    · rename_i d hd hg
      split at h
      · rename_i hdn
        have hdn : d < n := by simpa using hdn
        obtain ⟨v, g', hw, hh⟩ := evOpE_stays h3 h
        refine ⟨v, ⟨by rw [gd_wanted h3 hg], ⟨d, hd, by rw [h1]; exact hdn⟩, hw⟩, ?_⟩
        have hag : Agr (a.put o.dst v) ((d, v) :: l) := by
          have := agr_put (d := some d) (v := v) h3 h1 (by simpa [dstOk] using hdn)
          rw [hd]
          exact this
        exact evE_wp r g' _ K (a.put o.dst v) ((act_put_size _ _ _).trans h1) ((put_defers _ _ _).trans h2) hag hh fun a' l' q1 q2 q3 q4 q5 =>
          hZ a' l' q1 q2 q3 (fun k hk => (q4 k (fun hm => hk (List.mem_cons_of_mem _ hm))).trans (put_slot a _ v k fun e => hk (by rw [List.map_cons, e]; exact List.mem_cons_self))) q5
      · exact h.elim
    · exact h.elim
def evF (P : Program) (n : Nat) (ops : Array Oper) (C : World → Prop) : List Oper → List Giv → List (Nat × Value) → World → (List (Nat × Value) → World → List Giv → Prop) → Prop
  | [], g, l, w, K => C w ∧ K l w g
  | o :: r, g, l, w, K => C w ∧ match dstOk n o.dst, gdL ops l o with
    | true, some true => evOp P l w o g (fun v w' g' => evF P n ops C r g' (putL o.dst v l) w' K)
    | _, _ => False
theorem evF_wp {P : Program} {n : Nat} {ops : Array Oper} {C : World → Prop} {T : Act → World → Prop} : ∀ (r : List Oper) (g : List Giv) (l : List (Nat × Value)) (w : World) (K : List (Nat × Value) → World → List Giv → Prop) (a : Act),
    a.tmps.size = n → a.defers = df → Agr a l → evF P n ops C r g l w K →
    (∀ a' l' w' g', a'.tmps.size = n → a'.defers = df → Agr a' l' → (∀ k, some k ∉ r.map (·.dst) → slot a' k = slot a k) → K l' w' g' → T a' w') → effC P ops C T r a w
  | [], g, l, w, K, a, h1, h2, h3, h, hT => ⟨h.1, hT a l w g h1 h2 h3 (fun _ _ => rfl) h.2⟩
  | o :: r, g, l, w, K, a, h1, h2, h3, h, hT => by
    refine ⟨h.1, ?_⟩
    have h := h.2
    split at h
    · rename_i hd hg
      refine wpList_step fun N hN => ?_
      rw [if_pos (by rw [gd_wanted h3 hg])]
      refine evOp_wp h3 h fun v w' g' hh => hN _ _ ?_
      refine evF_wp r g' _ w' K (a.put o.dst v) ((act_put_size _ _ _).trans h1) ((put_defers _ _ _).trans h2) (agr_put h3 h1 hd) hh fun a' l' w'' g'' q1 q2 q3 q4 q5 =>
        hT a' l' w'' g'' q1 q2 q3 (fun k hk => (q4 k (fun hm => hk (List.mem_cons_of_mem _ hm))).trans (put_slot a _ v k fun e => hk (by rw [List.map_cons, e]; exact List.mem_cons_self))) q5
    · exact h.elim
def pickO (ops : List Oper) : List Nat → List Oper
  | [] => []
  | i :: r => match ops[i]? with
    | some o => o :: pickO ops r
    | none => pickO ops r
theorem pickO_map {ops : List Oper} : ∀ (is : List Nat), is.all (fun i => decide (i < ops.length)) = true → is.map (fun i => ops.toArray[i]?) = (pickO ops is).map some
  | [], _ => rfl
  | i :: r, h => by
    simp only [List.all_cons, Bool.and_eq_true, decide_eq_true_iff] at h
    unfold pickO
    rw [List.getElem?_eq_getElem h.1]
    simp only [List.map_cons]
    rw [← pickO_map r h.2]
    simp [h.1]
theorem pickO_sub {ops : List Oper} : ∀ (is : List Nat), ∀ o ∈ pickO ops is, o ∈ ops
  | [], o, h => by cases h
  | i :: r, o, h => by
    unfold pickO at h
    split at h
    · rename_i o' ho
      rcases List.mem_cons.1 h with rfl | h
      · exact List.mem_of_getElem? ho
      · exact pickO_sub r o h
    · exact pickO_sub r o h
def effB (ops : List Oper) (is js : List Nat) (n : Nat) : Bool :=
  is.all (fun i => decide (i < ops.length)) && js.all (fun i => decide (i < ops.length)) && decide (is.length + js.length = n) &&
  (Region.noSelect ops.toArray && decide (n < ops.length) && Region.sinkB .any ops.toArray n && Region.chainB .any ops.toArray n && lexE .any ops.toArray n (ops.length - n) js is (Array.replicate ops.length false))
def evCE (P : Program) (n k : Nat) (is js ds : List Nat) (C : World → Prop) (g1 g2 : List Giv) (l0 : List (Nat × Value)) (w : World) (K : List (Nat × Value) → World → Prop) : Code → Prop
  | .region _ ⟨ops⟩ true => match dstIn ds ops, P.follows .mixedOrders, effB ops is js k with
    | true, true, true => evE P n ⟨ops⟩ C (pickO ops is) g1 l0 (fun l1 => evF P n ⟨ops⟩ C (pickO ops js) g2 l1 (w.drewN 1) (fun l2 w2 g3 => evL P n ⟨ops⟩ (ops.drop k) g3 l2 w2 K))
    | _, _, _ => False
  | _ => False
/-- A region whose reading operations float beside its effects. -/
theorem regE {P : Program} {n : Nat} {a : Act} {w : World} {l l0 : List (Nat × Value)} {c : Code} {N : Act → World → Prop} {Q : Exit → Act → World → Prop} {T : Prop} (k : Nat) (is js : List Nat) (C : World → Prop) (keep ds : List Nat) (g1 g2 : List Giv) (hs : Sl n a l df) (h0 : AllL l l0) (hT : T)
    (he : T = evCE P n k is js ds C g1 g2 l0 w (fun l1 w' => ∀ a', Sl n a' (outL keep l1 (dropL ds l)) df → N a' w') c) : rg P (Exit.then N Q) a w c := by
  rw [he] at hT
  unfold evCE at hT
  split at hT
  · rename_i id ops
    split at hT
    · rename_i hd hm hB
      unfold effB at hB
      simp only [Bool.and_eq_true] at hB
      obtain ⟨⟨⟨b1, b2⟩, b3⟩, b4⟩ := hB
      have hno : ∀ p ∈ dropL ds l, ∀ o ∈ ops, o.dst ≠ some p.1 := fun p hp o ho e => by
        obtain ⟨_, hp2⟩ := List.mem_filter.1 hp
        exact dstIn_spec hd p.1 (by simpa using hp2) (List.mem_map.2 ⟨o, ho, e⟩)
      refine rg_eff C is js (pickO ops is) (pickO ops js) (ops.drop k) k hm (pickO_map is b1) (pickO_map js b2) rfl (by simpa using b3) (by simpa using b4) ?_
      refine evE_wp _ g1 l0 _ a hs.size hs.defers (hs.to h0).agr hT ?_
      intro a1 l1 p1 p2 p3 p4 p5
      refine evF_wp _ g2 l1 _ _ a1 p1 p2 p3 p5 ?_
      intro a2 l2 w2 g3 r1 r2 r3 r4 r5
      refine evL_wp (ops.drop k) g3 l2 w2 _ a2 r1 r2 r3 r5 ?_
      intro a' l' w' q1 q2 q3 q4 q5
      refine q5 a' (outL_sl q3 keep ⟨q1, q2, fun p hp => ?_⟩)
      have hn := hno p hp
      rw [q4 p.1 (fun hm => by obtain ⟨o, ho, e⟩ := List.mem_map.1 hm; exact hn o (List.mem_of_mem_drop ho) e), r4 p.1 (fun hm => by obtain ⟨o, ho, e⟩ := List.mem_map.1 hm; exact hn o (pickO_sub js o ho) e),
        p4 p.1 (fun hm => by obtain ⟨o, ho, e⟩ := List.mem_map.1 hm; exact hn o (pickO_sub is o ho) e)]
      exact hs.known p (List.mem_filter.1 hp).1
    · exact hT.elim
  · exact hT.elim
end Go.Proofs.YtlhfickniegooaaDoor

namespace Go.Proofs.YtlhfickniegooaaDoor
open Go.RowKit
set_option maxRecDepth 100000
section
variable {P : Program} {fn : Func} {R : Ending → World → Prop} {a : Act} {w : World} {n t u c d ty ty' : Nat} {l : List (Nat × Value)} {v x z y : Value} {p p' : Addr}
theorem var_run (h : Lds P ty (.pointer (some p)) z w) : (loadVar ty p).run P w = .ok z w := by
  have := h.run
  simpa [Instr.loadAt, Instr.sureAddr] using this
theorem look_getD (hs : Sl n a l) (e : l.lookup t = some v) : a.tmps[t]?.getD undef = v := by
  have := hs.look t e
  unfold slot at this
  rwa [Array.getD_eq_getD_getElem?] at this
theorem ret_ttc (hr : fn.results = #[.tmp t, .tmp u, .cell c ty]) (hs : Sl n a l) (e1 : l.lookup t = some v) (e2 : l.lookup u = some x) (e3 : l.lookup c = some (.pointer (some p))) (hl : Lds P ty (.pointer (some p)) z w) (h : R (.returned (.tuple #[v, x, z])) w) : bodyPost P fn R .ret a w :=
  bodyPost_ret (v := .tuple #[v, x, z]) (by
    simp [results, hr, look_getD hs e1, look_getD hs e2, look_getD hs e3, asAddr, var_run hl]) hs.defers h
theorem ret_tc (hr : fn.results = #[.tmp t, .cell c ty]) (hs : Sl n a l) (e1 : l.lookup t = some v) (e3 : l.lookup c = some (.pointer (some p))) (hl : Lds P ty (.pointer (some p)) z w) (h : R (.returned (.tuple #[v, z])) w) : bodyPost P fn R .ret a w :=
  bodyPost_ret (v := .tuple #[v, z]) (by
    simp [results, hr, look_getD hs e1, look_getD hs e3, asAddr, var_run hl]) hs.defers h
theorem ret_ct (hr : fn.results = #[.cell c ty, .tmp t]) (hs : Sl n a l) (e3 : l.lookup c = some (.pointer (some p))) (e1 : l.lookup t = some v) (hl : Lds P ty (.pointer (some p)) z w) (h : R (.returned (.tuple #[z, v])) w) : bodyPost P fn R .ret a w :=
  bodyPost_ret (v := .tuple #[z, v]) (by
    simp [results, hr, look_getD hs e1, look_getD hs e3, asAddr, var_run hl]) hs.defers h
theorem ret_ctc (hr : fn.results = #[.cell c ty, .tmp t, .cell d ty']) (hs : Sl n a l) (e3 : l.lookup c = some (.pointer (some p))) (e1 : l.lookup t = some v) (e4 : l.lookup d = some (.pointer (some p'))) (hl : Lds P ty (.pointer (some p)) z w) (hl' : Lds P ty' (.pointer (some p')) y w) (h : R (.returned (.tuple #[z, v, y])) w) : bodyPost P fn R .ret a w :=
  bodyPost_ret (v := .tuple #[z, v, y]) (by
    simp [results, hr, look_getD hs e1, look_getD hs e3, look_getD hs e4, asAddr, var_run hl, var_run hl']) hs.defers h
end
end Go.Proofs.YtlhfickniegooaaDoor

namespace Go.Proofs.YtlhfickniegooaaDoor
open Go.RowKit
set_option maxRecDepth 100000

/-- Where a datum's path and items lie, and their room. -/
structure Dm where
  pa : Option Addr
  pc : Nat
  ia : Option Addr
  ic : Nat
/-- A slice. -/
structure S3 where
  d : Option Addr
  n : Nat
  c : Nat
def S3.v (s : S3) : Value := .slice s.d s.n s.c
/-- A datum: its head and its items. -/
structure Dt where
  h : Hd
  k : Fo
def Dt.cs (d : Dt) (m : Dm) : Array Value := d.h.cells m.pa m.pc m.ia d.k.len m.ic
structure Dt.ok (d : Dt) : Prop where
  h : d.h.ok
  k : d.k.ok
  len : d.k.len ≤ 1034834473170
def Dt.at (d : Dt) (w : World) (S : Nat → Prop) (m : Dm) : Prop := DatAt w S d.h d.k m.pa m.pc m.ia m.ic
theorem Dt.at.keep {d : Dt} {w w' : World} {S S' : Nat → Prop} {m : Dm} (h : d.at w S m) (hk : ∀ b, S b → b < w.heap.size → w'.heap[b]? = w.heap[b]?) (hS : ∀ b, S b → b < w.heap.size → S' b) : d.at w' S' m := DatAt.keep h hk hS
theorem Dt.at.old {d : Dt} {w w' : World} {S : Nat → Prop} {m : Dm} (h : d.at w S m) (hb : Below w.heap.size w w') : d.at w' S m := DatAt.keep h (fun b _ h => hb.block b h) (fun _ h _ => h)
theorem Dt.cs_size (d : Dt) (m : Dm) : (d.cs m).size = 11 := rfl
theorem foldSet_size : ∀ (vs : List Value) (cs : Array Value) (o : Nat), (vs.foldl (fun (p : Array Value × Nat) v => (p.1.setIfInBounds p.2 v, p.2 + 1)) (cs, o)).1.size = cs.size
  | [], _, _ => rfl
  | v :: r, cs, o => (foldSet_size r _ _).trans (by simp)
theorem ret_c {P : Program} {fn : Func} {R : Ending → World → Prop} {a : Act} {w : World} {n c : Nat} {l : List (Nat × Value)} {ty : TypeId} {p : Addr} {z : Value} (hr : fn.results = #[.cell c ty]) (hs : Sl n a l) (e3 : l.lookup c = some (.pointer (some p))) (hl : Lds P ty (.pointer (some p)) z w) (h : R (.returned z) w) : bodyPost P fn R .ret a w :=
  bodyPost_ret (v := z) (by simp [results, hr, look_getD hs e3, asAddr, var_run hl]) hs.defers h
/-- An element's address, where the row begins within a block. -/
theorem ix_at2 {P : Program} {t e : TypeId} {sz b o n cap : Nat} (k : Nat) (ht : P.underlying t = some (.slice e)) (hi : (P.info? e).map (·.size) = some sz) (hk : k < n) (w : World) :
    (Instr.indexAt t (.slice (some ⟨b, o, none⟩) n cap) (.int .i64 (k : Int))).run P w = .ok (.pointer (some ⟨b, o + k * sz, none⟩)) w := by
  obtain ⟨i, hi1, hi2⟩ := Option.map_eq_some_iff.1 hi
  have ha : (⟨b, o, none⟩ : Addr).add (k * sz) = ⟨b, o + k * sz, none⟩ := by
    unfold Addr.add
    split
    · rename_i h; simp [h]
    · rfl
  simp [Instr.indexAt, asIntOf, run_underlying ht, sizeOf, typeInfo, hi1, hi2, ha]
  omega
theorem then_exit' {id : Nat} {K : Act → World → Prop} {Q : Exit → Act → World → Prop} {a : Act} {w : World} (h : Q (.exit id) a w) : Exit.then K Q (.exit id) a w := h
theorem in_block2 {id : Nat} {Q : Exit → Act → World → Prop} {a : Act} {w : World} (h : Q .normal a w) : Exit.inBlock id Q (.exit id) a w := by simpa [Exit.inBlock] using h
end Go.Proofs.YtlhfickniegooaaDoor

namespace Go.Proofs.YtlhfickniegooaaDoor
open Go.RowKit
variable {df : List Deferred}
set_option maxRecDepth 100000

def evKB (P : Program) (C : World → Prop) (l : List (Nat × Value)) (k : Value → List Giv → Prop) : Op → List Giv → Prop
  | .binOp op _ x y _, .bit b :: g => match cmpP op (rho l x) (rho l y) with
    | some c => c = b ∧ k (.bool b) g
    | none => False
  | .binOp op t x y _, .bin v :: g => (∀ w' : World, (do eqGuard op t x y (rho l x) (rho l y); binOp op t (rho l x) (rho l y) : Sem Value).run P w' = .ok v w') ∧ k v g
  | .index t x i, .val v :: g => (∀ w' : World, (Instr.index t (rho l x) (rho l i)).run P w' = .ok v w') ∧ k v g
  | .indexAddr t x i, .val v :: g => (∀ w' : World, (Instr.indexAt t (rho l x) (rho l i)).run P w' = .ok v w') ∧ k v g
  | .slice t x a b c, .val v :: g => (∀ w' : World, (Instr.sliceAt t (rho l x) (a.map (rho l)) (b.map (rho l)) (c.map (rho l))).run P w' = .ok v w') ∧ k v g
  | .convert s d x, .val v :: g => (∀ w' : World, (convert s d (rho l x)).run P w' = .ok v w') ∧ k v g
  | .load t x, .val v :: g => (∀ u, C u → (Instr.loadAt t (rho l x)).run P u = .ok v u) ∧ k v g
  | .call c, .val v :: g => (∀ u, C u → callK P l u c (fun e w' => e = .returned v ∧ C w')) ∧ k v g
  | .binOp op _ x y _, .ari :: g => match ariP op (rho l x) (rho l y) with
    | some z => inK z.1 z.2 ∧ k (.int z.1 z.2) g
    | none => False
  | _, _ => False
def evOpB (P : Program) (C : World → Prop) (l : List (Nat × Value)) (o : Oper) (g : List Giv) (k : Value → List Giv → Prop) : Prop :=
  match isSel o.op, o.op.operands.toList.all (knO l) with
  | false, true => match pureV P l o with
    | some v => k v g
    | none => evKB P C l k o.op g
  | _, _ => False
theorem evOpB_quiet {P : Program} {C : World → Prop} {l : List (Nat × Value)} {o : Oper} {g : List Giv} {k : Value → List Giv → Prop} {a : Act} {N : Act → Prop} (ha : Agr a l) (h : evOpB P C l o g k)
    (hk : ∀ v g', k v g' → N (a.put o.dst v)) : o.quiet P a C N := by
  unfold evOpB at h
  split at h
  · rename_i hs hkn
    have hsel : ∀ cs b, o.op ≠ .select cs b := fun cs b e => by rw [e] at hs; cases hs
    have he : execOp a.eval o = execOp (rho l) o := execOp_congr o hsel fun x hx => ha.rho (List.all_eq_true.1 hkn x (by simpa using hx))
    have hval : ∀ v g', (∀ w' : World, C w' → (execOp (rho l) o).run P w' = .ok (.value v) w') → k v g' → o.quiet P a C N := fun v g' hr hh =>
      ⟨v, fun w' hw => by
        unfold Oper.quietAt
        rw [he, hr w' hw]
        exact ⟨rfl, rfl⟩, hk v g' hh⟩
    split at h
    · rename_i v hv
      exact hval v g (fun _ _ => pure_run hv) h
    · generalize ho : o.op = op at h
      unfold evKB at h
      split at h
      · split at h
        · rename_i c hc
          obtain ⟨rfl, h⟩ := h
          exact hval _ _ (fun _ _ => cmp_run ho hc) h
        · exact h.elim
      · rename_i op' t1 x1 y1 t2 v1 g1
        have h1 := h.1
        exact hval _ _ (fun w' _ => by
          have : execOp (rho l) o = (do pure (.value (← (do eqGuard op' t1 x1 y1 (rho l x1) (rho l y1); binOp op' t1 (rho l x1) (rho l y1) : Sem Value))) : Sem Next) := by unfold execOp; rw [ho]
          rw [this, Sem.run_bind, h1 w']
          rfl) h.2
      · exact hval _ _ (fun w' _ => by simp [execOp, ho, h.1]) h.2
      · exact hval _ _ (fun w' _ => by simp [execOp, ho, h.1]) h.2
      · exact hval _ _ (fun w' _ => by simp [execOp, ho, h.1]) h.2
      · exact hval _ _ (fun w' _ => by simp [execOp, ho, h.1]) h.2
      · exact hval _ _ (fun w' hw => by simp [execOp, ho, h.1 w' hw]) h.2
      · rename_i c v1 g1
        refine ⟨v1, fun w' hw' => ?_, hk _ _ h.2⟩
        obtain ⟨i, hr, hC⟩ := call_run ho (h.1 w' hw')
        unfold Oper.quietAt
        rw [he, hr]
        exact ⟨rfl, hC⟩
      · split at h
        · rename_i z hz
          exact hval _ _ (fun _ _ => ari_run ho hz h.1) h.2
        · exact h.elim
      · exact h.elim
  · exact h.elim
def evB (P : Program) (n : Nat) (ops : Array Oper) (C : World → Prop) : List Oper → List Giv → List (Nat × Value) → (List (Nat × Value) → Prop) → Prop
  | [], _, l, K => K l
  | o :: r, g, l, K => match dstOk n o.dst, gdL ops l o with
    | true, some true => evOpB P C l o g (fun v g' => evB P n ops C r g' (putL o.dst v l) K)
    | true, some false => evB P n ops C r g (putL o.dst undef l) K
    | _, _ => False
theorem evB_wp {P : Program} {n : Nat} {ops : Array Oper} {C : World → Prop} {Q : Act → Prop} : ∀ (r : List Oper) (g : List Giv) (l : List (Nat × Value)) (K : List (Nat × Value) → Prop) (a : Act),
    a.tmps.size = n → a.defers = df → Agr a l → evB P n ops C r g l K →
    (∀ a' l', a'.tmps.size = n → a'.defers = df → Agr a' l' → (∀ k, some k ∉ r.map (·.dst) → slot a' k = slot a k) → K l' → Q a') → wpQuiet P ops C Q r a
  | [], g, l, K, a, h1, h2, h3, h, hQ => hQ a l h1 h2 h3 (fun _ _ => rfl) h
  | o :: r, g, l, K, a, h1, h2, h3, h, hQ => by
    unfold evB at h
    have next : ∀ v g', dstOk n o.dst = true → evB P n ops C r g' (putL o.dst v l) K → wpQuiet P ops C Q r (a.put o.dst v) := fun v g' hd hh =>
      evB_wp r g' _ K (a.put o.dst v) ((act_put_size _ _ _).trans h1) ((put_defers _ _ _).trans h2) (agr_put h3 h1 hd) hh fun a' l' q1 q2 q3 q4 q5 =>
        hQ a' l' q1 q2 q3 (fun k hk => (q4 k (fun hm => hk (List.mem_cons_of_mem _ hm))).trans (put_slot a _ v k fun e => hk (by rw [List.map_cons, e]; exact List.mem_cons_self))) q5
    split at h
    · rename_i hd hg
      refine wpQuiet_step fun N hN => ?_
      rw [if_pos (by rw [gd_wanted h3 hg])]
      exact evOpB_quiet h3 h fun v g' hh => hN _ (next v g' hd hh)
    · rename_i hd hg
      refine wpQuiet_step fun N hN => ?_
      rw [if_neg (by rw [gd_wanted h3 hg]; simp)]
      exact hN _ (next undef g hd h)
    · exact h.elim
def evCB (P : Program) (n : Nat) (ds : List Nat) (C : World → Prop) (w : World) (g : List Giv) (l0 : List (Nat × Value)) (K : List (Nat × Value) → Prop) : Code → Prop
  | .region _ ops true => match dstIn ds ops.toList, P.follows .mixedOrders, Region.lexB .any ops with
    | true, true, true => C (w.drewN 1) ∧ evB P n ops C ops.toList g l0 K
    | _, _, _ => False
  | _ => False
/-- A region that draws its order, over a class of worlds. -/
theorem regB {P : Program} {n : Nat} {a : Act} {w : World} {l l0 : List (Nat × Value)} {c : Code} {N : Act → World → Prop} {Q : Exit → Act → World → Prop} {T : Prop} (C : World → Prop) (keep ds : List Nat) (g : List Giv) (hs : Sl n a l df) (h0 : AllL l l0) (hT : T)
    (he : T = evCB P n ds C w g l0 (fun l1 => ∀ a' u, C u → Sl n a' (outL keep l1 (dropL ds l)) df → N a' u) c) : rg P (Exit.then N Q) a w c := by
  rw [he] at hT
  unfold evCB at hT
  split at hT
  · rename_i id ops
    split at hT
    · rename_i hd hm hl
      refine rg_quiet (C := C) hm hl hT.1 (evB_wp ops.toList g l0 _ a hs.size hs.defers (hs.to h0).agr hT.2 ?_)
      rintro a' l' q1 q2 q3 q4 q5 w' hw
      refine q5 a' w' hw (outL_sl q3 keep ⟨q1, q2, fun p hp => ?_⟩)
      unfold dropL at hp
      obtain ⟨hp1, hp2⟩ := List.mem_filter.1 hp
      rw [q4 p.1 (dstIn_spec hd p.1 (by simpa using hp2))]
      exact hs.known p hp1
    · exact hT.elim
  · exact hT.elim
end Go.Proofs.YtlhfickniegooaaDoor

namespace Go.Proofs.YtlhfickniegooaaDoor
open Go.RowKit Go.Sort
set_option maxRecDepth 100000
variable {a : Act} {w : World} {df : List Deferred} {N : Act → World → Prop} {Q : Exit → Act → World → Prop} {l : List (Nat × Value)}
noncomputable def r_lw (n : Nat) : Code := ((Tryd.f8.body.bind (findR n)).getD .skip)
noncomputable def lwBody : Code := (.seq (r_lw 0) (.seq (r_lw 1) .ret))
theorem lw_body : Tryd.f8.body = some lwBody := by kernel_rfl
theorem lw_r0 (hs : Sl 5 a l df)
    (hN : ∀ a', Sl 5 a' ((2, .pointer (some (⟨w.heap.size, 0, none⟩))) :: dropL [2] l) df → N a' (w.alloc (.cells #[.int .i64 0, .string (⟨#[]⟩), .int .i64 0, .int .u64 0, .string (⟨#[]⟩), .int .i64 0, .int .i64 0, .int .i64 0, .int .i64 0, .slice none 0 0, .slice none 0 0] 31))) : rg Tryd.prog (Exit.then N Q) a w (r_lw 0) :=
  reg (l0 := []) [2] [2] [.raw] hs trivial (fun a' => hN a') (by kernel_rfl)
theorem lw_r1 {n : Int} {g2 : Nat} (hs : Sl 5 a l df) (e0 : l.lookup 0 = some (.int .i64 n)) (e2 : l.lookup 2 = some (.pointer (some (⟨g2, 0, none⟩)))) (s0 : (Instr.storeAt 31 (.pointer (some (⟨g2, 0, none⟩))) (.agg #[.int .i64 2, .string (⟨#[105, 110, 116]⟩), .int .i64 n, .int .u64 0, .string (⟨#[]⟩), .int .i64 0, .int .i64 0, .int .i64 0, .int .i64 0, .slice none 0 0, .slice none 0 0])).run Tryd.prog w = .ok () (w.setCells g2 0 [.int .i64 2, .string (⟨#[105, 110, 116]⟩), .int .i64 n, .int .u64 0, .string (⟨#[]⟩), .int .i64 0, .int .i64 0, .int .i64 0, .int .i64 0, .slice none 0 0, .slice none 0 0]))
    (hN : ∀ a', Sl 5 a' (dropL [3, 4] l) df → N a' (w.setCells g2 0 [.int .i64 2, .string (⟨#[105, 110, 116]⟩), .int .i64 n, .int .u64 0, .string (⟨#[]⟩), .int .i64 0, .int .i64 0, .int .i64 0, .int .i64 0, .slice none 0 0, .slice none 0 0])) : rg Tryd.prog (Exit.then N Q) a w (r_lw 1) :=
  reg (l0 := [(0, .int .i64 n), (2, .pointer (some (⟨g2, 0, none⟩)))]) [] [3, 4] [.raw, .sto] hs ⟨e0, e2, trivial⟩ (And.intro s0 (fun a' => hN a')) (by kernel_rfl)
noncomputable def r_lt (n : Nat) : Code := ((Tryd.f20.body.bind (findR n)).getD .skip)
noncomputable def ltBody : Code := (.seq (r_lt 0) (.seq (r_lt 1) .ret))
theorem lt_body : Tryd.f20.body = some ltBody := by kernel_rfl
theorem lt_r0 (hs : Sl 5 a l df)
    (hN : ∀ a', Sl 5 a' ((2, .pointer (some (⟨w.heap.size, 0, none⟩))) :: dropL [2] l) df → N a' (w.alloc (.cells #[.int .i64 0, .string (⟨#[]⟩), .int .i64 0, .int .u64 0, .string (⟨#[]⟩), .int .i64 0, .int .i64 0, .int .i64 0, .int .i64 0, .slice none 0 0, .slice none 0 0] 31))) : rg Tryd.prog (Exit.then N Q) a w (r_lt 0) :=
  reg (l0 := []) [2] [2] [.raw] hs trivial (fun a' => hN a') (by kernel_rfl)
theorem lt_r1 {s : ByteArray} {g2 : Nat} (hs : Sl 5 a l df) (e0 : l.lookup 0 = some (.string s)) (e2 : l.lookup 2 = some (.pointer (some (⟨g2, 0, none⟩)))) (s0 : (Instr.storeAt 31 (.pointer (some (⟨g2, 0, none⟩))) (.agg #[.int .i64 4, .string (⟨#[116, 101, 120, 116]⟩), .int .i64 0, .int .u64 0, .string s, .int .i64 0, .int .i64 0, .int .i64 0, .int .i64 0, .slice none 0 0, .slice none 0 0])).run Tryd.prog w = .ok () (w.setCells g2 0 [.int .i64 4, .string (⟨#[116, 101, 120, 116]⟩), .int .i64 0, .int .u64 0, .string s, .int .i64 0, .int .i64 0, .int .i64 0, .int .i64 0, .slice none 0 0, .slice none 0 0]))
    (hN : ∀ a', Sl 5 a' (dropL [3, 4] l) df → N a' (w.setCells g2 0 [.int .i64 4, .string (⟨#[116, 101, 120, 116]⟩), .int .i64 0, .int .u64 0, .string s, .int .i64 0, .int .i64 0, .int .i64 0, .int .i64 0, .slice none 0 0, .slice none 0 0])) : rg Tryd.prog (Exit.then N Q) a w (r_lt 1) :=
  reg (l0 := [(0, .string s), (2, .pointer (some (⟨g2, 0, none⟩)))]) [] [3, 4] [.raw, .sto] hs ⟨e0, e2, trivial⟩ (And.intro s0 (fun a' => hN a')) (by kernel_rfl)
noncomputable def r_ls (n : Nat) : Code := ((Tryd.f13.body.bind (findR n)).getD .skip)
noncomputable def lsBody : Code := (.seq (r_ls 0) (.seq (r_ls 1) (.seq (r_ls 2) .ret)))
theorem ls_body : Tryd.f13.body = some lsBody := by kernel_rfl
theorem ls_r0 {da : Dt} {ma : Dm} {db : Dt} {mb : Dm} (hs : Sl 10 a l df) (e0 : l.lookup 0 = some (.agg (da.cs ma))) (e1 : l.lookup 1 = some (.agg (db.cs mb)))
    (hN : ∀ a', Sl 10 a' ((2, .pointer (some (⟨w.heap.size, 0, none⟩))) :: (3, .pointer (some (⟨(w.alloc (.cells (da.cs ma) 31)).heap.size, 0, none⟩))) :: (4, .bool false) :: dropL [2, 3, 4] l) df → N a' ((w.alloc (.cells (da.cs ma) 31)).alloc (.cells (db.cs mb) 31))) : rg Tryd.prog (Exit.then N Q) a w (r_ls 0) :=
  reg (l0 := [(0, .agg (da.cs ma)), (1, .agg (db.cs mb))]) [2, 3, 4] [2, 3, 4] [.raw, .raw] hs ⟨e0, e1, trivial⟩ (fun a' => hN a') (by kernel_rfl)
theorem ls_r1 {g2 : Nat} {da : Dt} {ma : Dm} {g3 : Nat} {db : Dt} {mb : Dm} {b5 : Bool} {C0 : World → Prop} (hs : Sl 10 a l df) (e2 : l.lookup 2 = some (.pointer (some (⟨g2, 0, none⟩)))) (e3 : l.lookup 3 = some (.pointer (some (⟨g3, 0, none⟩)))) (l0 : Lds Tryd.prog 31 (.pointer (some (⟨g2, 0, none⟩))) (.agg (da.cs ma)) w) (l1 : Lds Tryd.prog 31 (.pointer (some (⟨g3, 0, none⟩))) (.agg (db.cs mb)) w) (k2 : Calls Tryd.prog 29 #[.agg (da.cs ma), .agg (db.cs mb)] w fun e w' => e = .returned (.bool b5) ∧ C0 w')
    (hN : ∀ a' (w1 : World), C0 w1 → Sl 10 a' ((5, .bool b5) :: dropL [5, 6, 7, 8] l) df → N a' w1) : rg Tryd.prog (Exit.then N Q) a w (r_ls 1) :=
  reg (l0 := [(2, .pointer (some (⟨g2, 0, none⟩))), (3, .pointer (some (⟨g3, 0, none⟩)))]) [5] [5, 6, 7, 8] [.val (.agg (da.cs ma)), .val (.agg (db.cs mb)), .ret (.bool b5) C0] hs ⟨e2, e3, trivial⟩ (And.intro (l0).run (And.intro (l1).run (And.intro k2 (fun (w1 : World) (hc0 : C0 w1) => (fun a' => hN a' w1 hc0))))) (by kernel_rfl)
theorem ls_r2 {b5 : Bool} (hs : Sl 10 a l df) (e5 : l.lookup 5 = some (.bool b5))
    (hN : ∀ a', Sl 10 a' ((4, .bool b5) :: dropL [4, 9] l) df → N a' w) : rg Tryd.prog (Exit.then N Q) a w (r_ls 2) :=
  reg (l0 := [(5, .bool b5)]) [4] [4, 9] [] hs ⟨e5, trivial⟩ (fun a' => hN a') (by kernel_rfl)
noncomputable def r_lp (n : Nat) : Code := ((Tryd.f18.body.bind (findR n)).getD .skip)
noncomputable def lpBody : Code := (.seq (r_lp 0) (.seq (.seq (r_lp 1) (.cond (.tmp 6) (r_lp 2) .skip)) (.seq (r_lp 3) .ret)))
theorem lp_body : Tryd.f18.body = some lpBody := by kernel_rfl
theorem lp_r0 (hs : Sl 13 a l df)
    (hN : ∀ a', Sl 13 a' ((4, .int .i64 0) :: dropL [4] l) df → N a' w) : rg Tryd.prog (Exit.then N Q) a w (r_lp 0) :=
  reg (l0 := []) [4] [4] [] hs trivial (fun a' => hN a') (by kernel_rfl)
theorem lp_r1 {c : Int} {b6 : Bool} (hs : Sl 13 a l df) (e0 : l.lookup 0 = some (.int .i64 c)) (h0 : decide (c < 0) = b6)
    (hN : ∀ a', Sl 13 a' ((6, .bool b6) :: dropL [5, 6] l) df → N a' w) : rg Tryd.prog (Exit.then N Q) a w (r_lp 1) :=
  reg (l0 := [(0, .int .i64 c)]) [6] [5, 6] [.bit b6] hs ⟨e0, trivial⟩ (And.intro h0 (fun a' => hN a')) (by kernel_rfl)
theorem lp_r2 {c : Int} {v9 : Int} (hs : Sl 13 a l df) (e0 : l.lookup 0 = some (.int .i64 c)) (h0 : -9223372036854775808 ≤ c + 1 ∧ c + 1 ≤ 9223372036854775807) (h1 : ∀ w, (Op.unary .neg (.int .i64 (c + 1))).run Tryd.prog w = .ok (.int .i64 v9) w)
    (hN : ∀ a', Sl 13 a' ((0, .int .i64 v9) :: dropL [0, 7, 8, 9] l) df → N a' w) : rg Tryd.prog (Exit.then N Q) a w (r_lp 2) :=
  reg (l0 := [(0, .int .i64 c)]) [0] [0, 7, 8, 9] [.ari, .val (.int .i64 v9)] hs ⟨e0, trivial⟩ (And.intro h0 (And.intro (h1 w) (fun a' => hN a'))) (by kernel_rfl)
theorem lp_r3 {c : Int} {n : Int} {v12 : Int} (hs : Sl 13 a l df) (e0 : l.lookup 0 = some (.int .i64 c)) (e1 : l.lookup 1 = some (.int .i64 n)) (h0 : ∀ w, (binOp .rem 3 (.int .i64 c) (.int .i64 n)).run Tryd.prog w = .ok (.int .i64 v12) w)
    (hN : ∀ a', Sl 13 a' ((4, .int .i64 v12) :: dropL [4, 10, 11, 12] l) df → N a' w) : rg Tryd.prog (Exit.then N Q) a w (r_lp 3) :=
  reg (l0 := [(0, .int .i64 c), (1, .int .i64 n)]) [4] [4, 10, 11, 12] [.bin (.int .i64 v12)] hs ⟨e0, e1, trivial⟩ (And.intro (bin_run (x := .tmp 10) (y := .tmp 11) (by kernel_rfl) (h0 w)) (fun a' => hN a')) (by kernel_rfl)
end Go.Proofs.YtlhfickniegooaaDoor
