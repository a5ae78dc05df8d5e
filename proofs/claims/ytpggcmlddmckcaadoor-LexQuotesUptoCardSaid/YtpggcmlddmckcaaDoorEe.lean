/-
  Regions by evaluation: reading operations that float beside effects in one order. Written by an AI agent.
-/
import Derived.Test.YtpggcmlddmckcaaDoorEv
import Derived.Test.YtpggcmlddmckcaaDoorQE
namespace Go.Proofs.YtpggcmlddmckcaaDoor
open Go.RowKit
set_option maxRecDepth 100000

def evKE (P : Program) (C : World → Prop) (l : List (Nat × Value)) (k : Value → List Giv → Prop) : Op → List Giv → Prop
  | .binOp op _ x y _, .bit b :: g => match cmpP op (rho l x) (rho l y) with
    | some c => c = b ∧ k (.bool b) g
    | none => False
  | .binOp op t x y _, .val v :: g => (∀ w' : World, (do eqGuard op t x y (rho l x) (rho l y); binOp op t (rho l x) (rho l y) : Sem Value).run P w' = .ok v w') ∧ k v g
  | .index t x i, .val v :: g => (∀ w' : World, (Instr.index t (rho l x) (rho l i)).run P w' = .ok v w') ∧ k v g
  | .indexAddr t x i, .val v :: g => (∀ w' : World, (Instr.indexAt t (rho l x) (rho l i)).run P w' = .ok v w') ∧ k v g
  | .slice t x a b c, .val v :: g => (∀ w' : World, (Instr.sliceAt t (rho l x) (a.map (rho l)) (b.map (rho l)) (c.map (rho l))).run P w' = .ok v w') ∧ k v g
  | .build t ps, .val v :: g => (∀ w' : World, (Instr.build t (ps.map fun (i, x) => (i, rho l x))).run P w' = .ok v w') ∧ k v g
  | .load t x, .val v :: g => (∀ u, C u → (Instr.loadAt t (rho l x)).run P u = .ok v u) ∧ k v g
  | .binOp op _ x y _, .ari :: g => match ariP op (rho l x) (rho l y) with
    | some z => inK z.1 z.2 ∧ k (.int z.1 z.2) g
    | none => False
  | _, _ => False
def evOpE (P : Program) (C : World → Prop) (l : List (Nat × Value)) (o : Oper) (g : List Giv) (k : Value → List Giv → Prop) : Prop :=
  match isSel o.op, o.op.operands.toList.all (knO l) with
  | false, true => match pureV P l o with
    | some v => k v g
    | none => evKE P C l k o.op g
  | _, _ => False
theorem evOpE_stays {P : Program} {C : World → Prop} {l : List (Nat × Value)} {o : Oper} {g : List Giv} {k : Value → List Giv → Prop} {a : Act} (ha : Agr a l) (h : evOpE P C l o g k) :
    ∃ v g', (∀ w, C w → o.wp P a w (fun b u => b = a.put o.dst v ∧ u = w) (fun _ _ _ => False)) ∧ k v g' := by
  unfold evOpE at h
  split at h
  · rename_i hs hkn
    have hsel : ∀ cs b, o.op ≠ .select cs b := fun cs b e => by rw [e] at hs; cases hs
    have he : execOp a.eval o = execOp (rho l) o := execOp_congr o hsel fun x hx => ha.rho (List.all_eq_true.1 hkn x (by simpa using hx))
    have hval : ∀ v g', (∀ w', C w' → (execOp (rho l) o).run P w' = .ok (.value v) w') → k v g' → ∃ v g', (∀ w, C w → o.wp P a w (fun b u => b = a.put o.dst v ∧ u = w) (fun _ _ _ => False)) ∧ k v g' := fun v g' hr hh =>
      ⟨v, g', fun w hw => by
        unfold Oper.wp
        rw [he, hr w hw]
        exact ⟨rfl, rfl⟩, hh⟩
    split at h
    · rename_i v hv
      exact hval v g (fun _ _ => pure_run hv) h
    · generalize ho : o.op = op at h
      unfold evKE at h
      split at h
      · split at h
        · rename_i c hc
          obtain ⟨rfl, h⟩ := h
          exact hval _ _ (fun _ _ => cmp_run ho hc) h
        · exact h.elim
      · rename_i op' t1 x1 y1 t2 v1 g1
        have h1 := h.1
        exact hval _ _ (fun w' _ => by
          have : execOp (rho l) o = (do pure (.value (← (do eqGuard op' t1 x1 y1 (rho l x1) (rho l y1); binOp op' t1 (rho l x1) (rho l y1) : Sem Value))) : Sem Next) := by unfold execOp; rw [ho]
          rw [this, Sem.run_bind, h1 w']
          rfl) h.2
      · exact hval _ _ (fun w' _ => by simp [execOp, ho, h.1]) h.2
      · exact hval _ _ (fun w' _ => by simp [execOp, ho, h.1]) h.2
      · exact hval _ _ (fun w' _ => by simp [execOp, ho, h.1]) h.2
      · exact hval _ _ (fun w' _ => by simp [execOp, ho, h.1]) h.2
      · exact hval _ _ (fun w' hw' => by simp [execOp, ho, h.1 w' hw']) h.2
      · split at h
        · rename_i z hz
          exact hval _ _ (fun _ _ => ari_run ho hz h.1) h.2
        · exact h.elim
      · exact h.elim
  · exact h.elim
def evE (P : Program) (n : Nat) (ops : Array Oper) (C : World → Prop) : List Oper → List Giv → List (Nat × Value) → (List (Nat × Value) → Prop) → Prop
  | [], _, l, K => K l
  | o :: r, g, l, K => match o.dst, gdL ops l o with
    | some d, some true => match decide (d < n) with
      | true => evOpE P C l o g (fun v g' => evE P n ops C r g' ((d, v) :: l) K)
      | false => False
    | _, _ => False
theorem evE_wp {P : Program} {n : Nat} {ops : Array Oper} {C : World → Prop} {Z : Act → Prop} : ∀ (r : List Oper) (g : List Giv) (l : List (Nat × Value)) (K : List (Nat × Value) → Prop) (a : Act),
    a.tmps.size = n → a.defers = [] → Agr a l → evE P n ops C r g l K →
    (∀ a' l', a'.tmps.size = n → a'.defers = [] → Agr a' l' → (∀ k, some k ∉ r.map (·.dst) → slot a' k = slot a k) → K l' → Z a') → wpP P ops C Z r a
  | [], g, l, K, a, h1, h2, h3, h, hZ => hZ a l h1 h2 h3 (fun _ _ => rfl) h
  | o :: r, g, l, K, a, h1, h2, h3, h, hZ => by
    unfold evE at h
    split at h
    · rename_i d hd hg
      split at h
      · rename_i hdn
        have hdn : d < n := by simpa using hdn
        obtain ⟨v, g', hw, hh⟩ := evOpE_stays h3 h
        refine ⟨v, ⟨by rw [gd_wanted h3 hg], ⟨d, hd, by rw [h1]; exact hdn⟩, hw⟩, ?_⟩
        have hag : Agr (a.put o.dst v) ((d, v) :: l) := by
          have := agr_put (d := some d) (v := v) h3 h1 (by simpa [dstOk] using hdn)
          rw [hd]
          exact this
        exact evE_wp r g' _ K (a.put o.dst v) ((act_put_size _ _ _).trans h1) ((put_defers _ _ _).trans h2) hag hh fun a' l' q1 q2 q3 q4 q5 =>
          hZ a' l' q1 q2 q3 (fun k hk => (q4 k (fun hm => hk (List.mem_cons_of_mem _ hm))).trans (put_slot a _ v k fun e => hk (by rw [List.map_cons, e]; exact List.mem_cons_self))) q5
      · exact h.elim
    · exact h.elim
def evF (P : Program) (n : Nat) (ops : Array Oper) (C : World → Prop) : List Oper → List Giv → List (Nat × Value) → World → (List (Nat × Value) → World → List Giv → Prop) → Prop
  | [], g, l, w, K => C w ∧ K l w g
  | o :: r, g, l, w, K => C w ∧ match dstOk n o.dst, gdL ops l o with
    | true, some true => evOp P l w o g (fun v w' g' => evF P n ops C r g' (putL o.dst v l) w' K)
    | _, _ => False
theorem evF_wp {P : Program} {n : Nat} {ops : Array Oper} {C : World → Prop} {T : Act → World → Prop} : ∀ (r : List Oper) (g : List Giv) (l : List (Nat × Value)) (w : World) (K : List (Nat × Value) → World → List Giv → Prop) (a : Act),
    a.tmps.size = n → a.defers = [] → Agr a l → evF P n ops C r g l w K →
    (∀ a' l' w' g', a'.tmps.size = n → a'.defers = [] → Agr a' l' → (∀ k, some k ∉ r.map (·.dst) → slot a' k = slot a k) → K l' w' g' → T a' w') → effC P ops C T r a w
  | [], g, l, w, K, a, h1, h2, h3, h, hT => ⟨h.1, hT a l w g h1 h2 h3 (fun _ _ => rfl) h.2⟩
  | o :: r, g, l, w, K, a, h1, h2, h3, h, hT => by
    refine ⟨h.1, ?_⟩
    have h := h.2
    split at h
    · rename_i hd hg
      refine wpList_step fun N hN => ?_
      rw [if_pos (by rw [gd_wanted h3 hg])]
      refine evOp_wp h3 h fun v w' g' hh => hN _ _ ?_
      refine evF_wp r g' _ w' K (a.put o.dst v) ((act_put_size _ _ _).trans h1) ((put_defers _ _ _).trans h2) (agr_put h3 h1 hd) hh fun a' l' w'' g'' q1 q2 q3 q4 q5 =>
        hT a' l' w'' g'' q1 q2 q3 (fun k hk => (q4 k (fun hm => hk (List.mem_cons_of_mem _ hm))).trans (put_slot a _ v k fun e => hk (by rw [List.map_cons, e]; exact List.mem_cons_self))) q5
    · exact h.elim
def pickO (ops : List Oper) : List Nat → List Oper
  | [] => []
  | i :: r => match ops[i]? with
    | some o => o :: pickO ops r
    | none => pickO ops r
theorem pickO_map {ops : List Oper} : ∀ (is : List Nat), is.all (fun i => decide (i < ops.length)) = true → is.map (fun i => ops.toArray[i]?) = (pickO ops is).map some
  | [], _ => rfl
  | i :: r, h => by
    simp only [List.all_cons, Bool.and_eq_true, decide_eq_true_iff] at h
    unfold pickO
    rw [List.getElem?_eq_getElem h.1]
    simp only [List.map_cons]
    rw [← pickO_map r h.2]
    simp [h.1]
theorem pickO_sub {ops : List Oper} : ∀ (is : List Nat), ∀ o ∈ pickO ops is, o ∈ ops
  | [], o, h => by cases h
  | i :: r, o, h => by
    unfold pickO at h
    split at h
    · rename_i o' ho
      rcases List.mem_cons.1 h with rfl | h
      · exact List.mem_of_getElem? ho
      · exact pickO_sub r o h
    · exact pickO_sub r o h
def effB (ops : List Oper) (is js : List Nat) (n : Nat) : Bool :=
  is.all (fun i => decide (i < ops.length)) && js.all (fun i => decide (i < ops.length)) && decide (is.length + js.length = n) &&
  (Region.noSelect ops.toArray && decide (n < ops.length) && Region.sinkB .any ops.toArray n && Region.chainB .any ops.toArray n && lexE .any ops.toArray n (ops.length - n) js is (Array.replicate ops.length false))
def evCE (P : Program) (n k : Nat) (is js ds : List Nat) (C : World → Prop) (g1 g2 : List Giv) (l0 : List (Nat × Value)) (w : World) (K : List (Nat × Value) → World → Prop) : Code → Prop
  | .region _ ⟨ops⟩ true => match dstIn ds ops, P.follows .mixedOrders, effB ops is js k with
    | true, true, true => evE P n ⟨ops⟩ C (pickO ops is) g1 l0 (fun l1 => evF P n ⟨ops⟩ C (pickO ops js) g2 l1 (w.drewN 1) (fun l2 w2 g3 => evL P n ⟨ops⟩ (ops.drop k) g3 l2 w2 K))
    | _, _, _ => False
  | _ => False
/-- A region whose reading operations float beside its effects. -/
theorem regE {P : Program} {n : Nat} {a : Act} {w : World} {l l0 : List (Nat × Value)} {c : Code} {N : Act → World → Prop} {Q : Exit → Act → World → Prop} {T : Prop} (k : Nat) (is js : List Nat) (C : World → Prop) (keep ds : List Nat) (g1 g2 : List Giv) (hs : Sl n a l) (h0 : AllL l l0) (hT : T)
    (he : T = evCE P n k is js ds C g1 g2 l0 w (fun l1 w' => ∀ a', Sl n a' (outL keep l1 (dropL ds l)) → N a' w') c) : c.wp P (Exit.then N Q) a w := by
  rw [he] at hT
  unfold evCE at hT
  split at hT
  · rename_i id ops
    split at hT
    · rename_i hd hm hB
      unfold effB at hB
      simp only [Bool.and_eq_true] at hB
      obtain ⟨⟨⟨b1, b2⟩, b3⟩, b4⟩ := hB
      have hno : ∀ p ∈ dropL ds l, ∀ o ∈ ops, o.dst ≠ some p.1 := fun p hp o ho e => by
        obtain ⟨_, hp2⟩ := List.mem_filter.1 hp
        exact dstIn_spec hd p.1 (by simpa using hp2) (List.mem_map.2 ⟨o, ho, e⟩)
      refine wp_region_eff C is js (pickO ops is) (pickO ops js) (ops.drop k) k hm (pickO_map is b1) (pickO_map js b2) rfl (by simpa using b3) (by simpa using b4) ?_
      refine evE_wp _ g1 l0 _ a hs.size hs.defers (hs.to h0).agr hT ?_
      intro a1 l1 p1 p2 p3 p4 p5
      refine evF_wp _ g2 l1 _ _ a1 p1 p2 p3 p5 ?_
      intro a2 l2 w2 g3 r1 r2 r3 r4 r5
      refine evL_wp (ops.drop k) g3 l2 w2 _ a2 r1 r2 r3 r5 ?_
      intro a' l' w' q1 q2 q3 q4 q5
      refine q5 a' (outL_sl q3 keep ⟨q1, q2, fun p hp => ?_⟩)
      have hn := hno p hp
      rw [q4 p.1 (fun hm => by obtain ⟨o, ho, e⟩ := List.mem_map.1 hm; exact hn o (List.mem_of_mem_drop ho) e), r4 p.1 (fun hm => by obtain ⟨o, ho, e⟩ := List.mem_map.1 hm; exact hn o (pickO_sub js o ho) e),
        p4 p.1 (fun hm => by obtain ⟨o, ho, e⟩ := List.mem_map.1 hm; exact hn o (pickO_sub is o ho) e)]
      exact hs.known p (List.mem_filter.1 hp).1
    · exact hT.elim
  · exact hT.elim
end Go.Proofs.YtpggcmlddmckcaaDoor
