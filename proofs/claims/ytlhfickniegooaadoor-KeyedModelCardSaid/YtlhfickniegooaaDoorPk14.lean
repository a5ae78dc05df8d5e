/-
  Regions by evaluation: reading operations and effects in one plan; a reading operation may come between two effects. The regions of keyed's iterators. Written by an AI agent.
-/
import Derived.Test.YtlhfickniegooaaDoorPk04
import Derived.Test.YtlhfickniegooaaDoorProg
import Derived.Test.YtlhfickniegooaaDoorPk13
namespace Go.Proofs.YtlhfickniegooaaDoor
open Go.RowKit
variable {df : List Deferred}
set_option maxRecDepth 100000

section
variable {P : Program} {md : Region.Mode} {ops : Array Oper} {C : World → Prop}
/-- May the operations come up by this plan, and then the tail? (true: it reads.) -/
def planB (md : Region.Mode) (ops : Array Oper) (n g : Nat) : List (Bool × Nat) → Array Bool → Bool
  | [], done => Region.seqB md ops g n done
  | (true, i) :: r, done => (Region.ready md ops done).contains i && decide (i < n) && Region.free md ops done i && planB md ops n g r (done.setIfInBounds i true)
  | (false, j) :: r, done => decide (Region.ready md ops done = [j]) && decide (j < n) && planB md ops n g r (done.setIfInBounds j true)
def effP (P : Program) (ops : Array Oper) (C : World → Prop) (T : Act → World → Prop) : List (Bool × Oper) → Act → World → Prop
  | [], a, w => C w ∧ T a w
  | (true, o) :: r, a, w => C w ∧ ∃ v, Stays P ops C o v a ∧ effP P ops C T r (a.put o.dst v) w
  | (false, o) :: r, a, w => C w ∧ wpList P ops (outQ (effP P ops C T r)) [o] a w
theorem headC_plan {Q : Exit → Act → World → Prop} {n g : Nat} {T : Act → World → Prop} (hQ : ∀ c a b w, Q (.panic c) a w → Q (.panic c) b w) (hsel : Region.noSelect ops = true) (hs : Region.sinkB md ops n = true) (hc : Region.chainB md ops n = true) (hn : n < ops.size) (is : List (Bool × Nat)) :
    ∀ (l : List (Bool × Oper)) (done : Array Bool) (a : Act) (w : World), is.map (fun i => (i.1, ops[i.2]?)) = l.map (fun o => (o.1, some o.2)) → HeadInv md ops n done → planB md ops n g is done = true → effP P ops C T l a w →
      headC P md ops C Q n (fun d a' w' => Region.seqB md ops g n d = true ∧ T a' w') is.length done a w := by
  induction is with
  | nil =>
    intro l done a w hl inv hB h
    cases l with
    | cons o l => simp at hl
    | nil => exact ⟨h.1, hB, h.2⟩
  | cons i is ih =>
    intro l done a w hl inv hB h
    cases l with
    | nil => simp at hl
    | cons o l =>
      obtain ⟨b, i⟩ := i
      obtain ⟨b', o⟩ := o
      simp only [List.map_cons, List.cons.injEq, Prod.mk.injEq] at hl
      obtain ⟨⟨rfl, hio⟩, hl2⟩ := hl
      cases b with
      | true =>
        simp only [planB, Bool.and_eq_true, decide_eq_true_eq] at hB
        obtain ⟨⟨⟨hr, hin⟩, hf⟩, hB2⟩ := hB
        have hr2 : i ∈ Region.ready md ops done := by simpa using hr
        obtain ⟨_, v, hy, hK⟩ := h
        exact headC_first (fun c a w => hQ c _ _ w) hio (Region.noSelect_spec hsel) hs hc hn hin (fun d a' w' hd => seqB_ready hd.1) is.length done a w inv (Region.free_spec hio hf) hr2 hy
          (ih l _ _ w hl2 (inv.set hr2 hin) hB2 hK)
      | false =>
        simp only [planB, Bool.and_eq_true, decide_eq_true_eq] at hB
        obtain ⟨⟨hr, hjn⟩, hB2⟩ := hB
        refine ⟨h.1, by rw [hr]; simp, fun k hk => ?_⟩
        rw [hr] at hk
        have hij : k = i := by simpa using hk
        subst hij
        exact ⟨hjn, wpOp_of_list hio (fun b u hb => ih l _ b u hl2 (inv.set (by rw [hr]; simp) hjn) hB2 hb) h.2⟩
end
def pickP (ops : List Oper) : List (Bool × Nat) → List (Bool × Oper)
  | [] => []
  | i :: r => match ops[i.2]? with
    | some o => (i.1, o) :: pickP ops r
    | none => pickP ops r
theorem pickP_map {ops : List Oper} : ∀ (is : List (Bool × Nat)), is.all (fun i => decide (i.2 < ops.length)) = true → is.map (fun i => (i.1, ops.toArray[i.2]?)) = (pickP ops is).map (fun o => (o.1, some o.2))
  | [], _ => rfl
  | i :: r, h => by
    simp only [List.all_cons, Bool.and_eq_true, decide_eq_true_iff] at h
    unfold pickP
    rw [List.getElem?_eq_getElem h.1]
    simp only [List.map_cons]
    rw [← pickP_map r h.2]
    simp [h.1]
theorem pickP_sub {ops : List Oper} : ∀ (is : List (Bool × Nat)), ∀ o ∈ pickP ops is, o.2 ∈ ops
  | [], o, h => by cases h
  | i :: r, o, h => by
    unfold pickP at h
    split at h
    · rename_i o' ho
      rcases List.mem_cons.1 h with rfl | h
      · exact List.mem_of_getElem? ho
      · exact pickP_sub r o h
    · exact pickP_sub r o h
def planOk (ops : List Oper) (is : List (Bool × Nat)) (n : Nat) : Bool :=
  is.all (fun i => decide (i.2 < ops.length)) && decide (is.length = n) &&
  (Region.noSelect ops.toArray && decide (n < ops.length) && Region.sinkB .any ops.toArray n && Region.chainB .any ops.toArray n && planB .any ops.toArray n (ops.length - n) is (Array.replicate ops.length false))
theorem rg_plan {P : Program} {id : Nat} {Q : Exit → Act → World → Prop} {a : Act} {w : World} {l : List Oper} (C : World → Prop) (is : List (Bool × Nat)) (n : Nat) (hm : P.follows .mixedOrders = true) (hB : planOk l is n = true)
    (h : effP P l.toArray C (fun b u => wpList P l.toArray (outQ (Q .normal)) (l.drop n) b u) (pickP l is) a { w with drawn := w.drawn + 1 }) : rg P Q a w (.region id l.toArray true) := by
  unfold planOk at hB
  simp only [Bool.and_eq_true, decide_eq_true_eq] at hB
  obtain ⟨⟨hall, hlen⟩, ⟨⟨⟨hsel, hn⟩, hs⟩, hc⟩, hplan⟩ := hB
  have hn2 : n < l.toArray.size := by simpa using hn
  have inv : HeadInv .any l.toArray n (Array.replicate l.length false) :=
    ⟨by simp, fun j oj _ hl => (by rw [getD_replicate_false] at hl; cases hl), fun t _ ht => getD_in (by simpa using ht) (getD_replicate_false _ _)⟩
  have H := headC_plan (P := P) (md := .any) (C := C) (Q := NoPanic Q) (T := fun b u => wpList P l.toArray (outQ (Q .normal)) (l.drop n) b u) (g := l.length - n) (fun c a b w h => h) hsel hs hc hn2 is (pickP l is) _ a _ (pickP_map is hall) inv hplan h
  refine ⟨hm, NoPanic Q, NoPanic.imp, ?_⟩
  have hdl : (l.drop n).length = l.length - n := by simp
  have := headC_any (Q := NoPanic Q) (g := l.length - n) (fun done a' w' hL => by
    have hw : wpList P l.toArray (NoPanic Q) (l.drop n) a' w' := wpList_weaken (fun _ _ h => h) _ a' w' hL.2
    have := wpAny_of_seq (md := .any) (Q' := NoPanic Q) (l.drop n) n done a' w' (fun j => by simp [List.getElem?_drop]) (by rw [hdl]; exact hL.1) hw
    rwa [hdl] at this) _ _ a _ H
  rw [hlen, show n + (l.length - n) = l.toArray.size by simp; omega] at this
  exact this

def evP (P : Program) (n : Nat) (ops : Array Oper) (C : World → Prop) : List (Bool × Oper) → List Giv → List (Nat × Value) → World → (List (Nat × Value) → World → List Giv → Prop) → Prop
  | [], g, l, w, K => C w ∧ K l w g
  | (true, o) :: r, g, l, w, K => C w ∧ match o.dst, gdL ops l o with
    | some d, some true => match decide (d < n) with
      | true => evOpE P C l o g (fun v g' => evP P n ops C r g' ((d, v) :: l) w K)
      | false => False
    | _, _ => False
  | (false, o) :: r, g, l, w, K => C w ∧ match dstOk n o.dst, gdL ops l o with
    | true, some true => evOp P l w o g (fun v w' g' => evP P n ops C r g' (putL o.dst v l) w' K)
    | _, _ => False
theorem evP_wp {P : Program} {n : Nat} {ops : Array Oper} {C : World → Prop} {T : Act → World → Prop} : ∀ (r : List (Bool × Oper)) (g : List Giv) (l : List (Nat × Value)) (w : World) (K : List (Nat × Value) → World → List Giv → Prop) (a : Act),
    a.tmps.size = n → a.defers = df → Agr a l → evP P n ops C r g l w K →
    (∀ a' l' w' g', a'.tmps.size = n → a'.defers = df → Agr a' l' → (∀ k, some k ∉ r.map (·.2.dst) → slot a' k = slot a k) → K l' w' g' → T a' w') → effP P ops C T r a w
  | [], g, l, w, K, a, h1, h2, h3, h, hT => ⟨h.1, hT a l w g h1 h2 h3 (fun _ _ => rfl) h.2⟩
  | (true, o) :: r, g, l, w, K, a, h1, h2, h3, h, hT => by
    unfold evP at h
    refine ⟨h.1, ?_⟩
    have h := h.2
    split at h
    · rename_i d hd hg
      split at h
      · rename_i hdn
        have hdn : d < n := by simpa using hdn
        obtain ⟨v, g', hw, hh⟩ := evOpE_stays h3 h
        refine ⟨v, ⟨by rw [gd_wanted h3 hg], ⟨d, hd, by rw [h1]; exact hdn⟩, hw⟩, ?_⟩
        have hag : Agr (a.put o.dst v) ((d, v) :: l) := by
          have := agr_put (d := some d) (v := v) h3 h1 (by simpa [dstOk] using hdn)
          rw [hd]
          exact this
        exact evP_wp r g' _ w K (a.put o.dst v) ((act_put_size _ _ _).trans h1) ((put_defers _ _ _).trans h2) hag hh fun a' l' w' g'' q1 q2 q3 q4 q5 =>
          hT a' l' w' g'' q1 q2 q3 (fun k hk => (q4 k (fun hm => hk (List.mem_cons_of_mem _ hm))).trans (put_slot a _ v k fun e => hk (by rw [List.map_cons, e]; exact List.mem_cons_self))) q5
      · exact h.elim
    · exact h.elim
  | (false, o) :: r, g, l, w, K, a, h1, h2, h3, h, hT => by
    unfold evP at h
    refine ⟨h.1, ?_⟩
    have h := h.2
    split at h
    · rename_i hd hg
      refine wpList_step fun N hN => ?_
      rw [if_pos (by rw [gd_wanted h3 hg])]
      refine evOp_wp h3 h fun v w' g' hh => hN _ _ ?_
      exact evP_wp r g' _ w' K (a.put o.dst v) ((act_put_size _ _ _).trans h1) ((put_defers _ _ _).trans h2) (agr_put h3 h1 hd) hh fun a' l' w'' g'' q1 q2 q3 q4 q5 =>
        hT a' l' w'' g'' q1 q2 q3 (fun k hk => (q4 k (fun hm => hk (List.mem_cons_of_mem _ hm))).trans (put_slot a _ v k fun e => hk (by rw [List.map_cons, e]; exact List.mem_cons_self))) q5
    · exact h.elim
def evCP (P : Program) (n k : Nat) (is : List (Bool × Nat)) (ds : List Nat) (C : World → Prop) (g : List Giv) (l0 : List (Nat × Value)) (w : World) (K : List (Nat × Value) → World → Prop) : Code → Prop
  | .region _ ⟨ops⟩ true => match dstIn ds ops, P.follows .mixedOrders, planOk ops is k with
    | true, true, true => evP P n ⟨ops⟩ C (pickP ops is) g l0 (w.drewN 1) (fun l2 w2 g3 => evL P n ⟨ops⟩ (ops.drop k) g3 l2 w2 K)
    | _, _, _ => False
  | _ => False
/-- A region by a plan. -/
theorem regP {P : Program} {n : Nat} {a : Act} {w : World} {l l0 : List (Nat × Value)} {c : Code} {N : Act → World → Prop} {Q : Exit → Act → World → Prop} {T : Prop} (k : Nat) (is : List (Bool × Nat)) (C : World → Prop) (keep ds : List Nat) (g : List Giv) (hs : Sl n a l df) (h0 : AllL l l0) (hT : T)
    (he : T = evCP P n k is ds C g l0 w (fun l1 w' => ∀ a', Sl n a' (outL keep l1 (dropL ds l)) df → N a' w') c) : rg P (Exit.then N Q) a w c := by
  rw [he] at hT
  unfold evCP at hT
  split at hT
  · rename_i id ops
    split at hT
    · rename_i hd hm hB
      have hno : ∀ p ∈ dropL ds l, ∀ o ∈ ops, o.dst ≠ some p.1 := fun p hp o ho e => by
        obtain ⟨_, hp2⟩ := List.mem_filter.1 hp
        exact dstIn_spec hd p.1 (by simpa using hp2) (List.mem_map.2 ⟨o, ho, e⟩)
      refine rg_plan C is k hm hB ?_
      refine evP_wp _ g l0 _ _ a hs.size hs.defers (hs.to h0).agr hT ?_
      intro a2 l2 w2 g3 r1 r2 r3 r4 r5
      refine evL_wp (ops.drop k) g3 l2 w2 _ a2 r1 r2 r3 r5 ?_
      intro a' l' w' q1 q2 q3 q4 q5
      refine q5 a' (outL_sl q3 keep ⟨q1, q2, fun p hp => ?_⟩)
      have hn := hno p hp
      rw [q4 p.1 (fun hm => by obtain ⟨o, ho, e⟩ := List.mem_map.1 hm; exact hn o (List.mem_of_mem_drop ho) e), r4 p.1 (fun hm => by obtain ⟨o, ho, e⟩ := List.mem_map.1 hm; exact hn o.2 (pickP_sub is o ho) e)]
      exact hs.known p (List.mem_filter.1 hp).1
    · exact hT.elim
  · exact hT.elim
end Go.Proofs.YtlhfickniegooaaDoor

namespace Go.Proofs.YtlhfickniegooaaDoor
open Go.RowKit Go.Sort
set_option maxRecDepth 100000
variable {a : Act} {w : World} {df : List Deferred} {N : Act → World → Prop} {Q : Exit → Act → World → Prop} {l : List (Nat × Value)}
noncomputable def r_k1 (n : Nat) : Code := ((Tryd.f53.body.bind (findR n)).getD .skip)
noncomputable def k1L0 : Code := (.seq (.seq (r_k1 1) (.cond (.tmp 9) .skip (.exit 0))) (.seq (.block 1 (.seq (r_k1 3) (.cond (.tmp 17) .ret .skip))) (r_k1 2)))
noncomputable def k1Body : Code := (.seq (r_k1 0) (.block 0 (.loop k1L0)))
theorem k1_body : Tryd.f53.body = some k1Body := by kernel_rfl
theorem k1_r0 {g1 : Nat} {gm : Nat} {p7 : Option Addr} (hs : Sl 18 a l df) (e1 : l.lookup 1 = some (.pointer (some (⟨g1, 0, none⟩)))) (l0 : Lds Tryd.prog 24 (.pointer (some (⟨g1, 0, none⟩))) (.pointer (some (⟨gm, 0, none⟩))) w) (l1 : Lds Tryd.prog 72 (.pointer (some (⟨gm, 9, none⟩))) (.pointer p7) w)
    (hN : ∀ a', Sl 18 a' ((3, .pointer p7) :: dropL [3, 4, 5, 6, 7] l) df → N a' w) : rg Tryd.prog (Exit.then N Q) a w (r_k1 0) :=
  reg (l0 := [(1, .pointer (some (⟨g1, 0, none⟩)))]) [3] [3, 4, 5, 6, 7] [.val (.pointer (some (⟨gm, 0, none⟩))), .val (.pointer p7)] hs ⟨e1, trivial⟩ (And.intro (l0).run (And.intro (l1).run (fun a' => hN a'))) (by kernel_rfl)
theorem k1_r1n {b9 : Bool} (hs : Sl 18 a l df) (e3 : l.lookup 3 = some (.pointer none)) (h0 : ∀ w, (binOp .neq 72 (.pointer none) (.pointer none)).run Tryd.prog w = .ok (.bool b9) w)
    (hN : ∀ a', Sl 18 a' ((9, .bool b9) :: dropL [8, 9] l) df → N a' w) : rg Tryd.prog (Exit.then N Q) a w (r_k1 1) :=
  reg (l0 := [(3, .pointer none)]) [9] [8, 9] [.bin (.bool b9)] hs ⟨e3, trivial⟩ (And.intro (bin_run (x := .tmp 8) (y := .const (.pointer none)) (by kernel_rfl) (h0 w)) (fun a' => hN a')) (by kernel_rfl)
theorem k1_r1e {ge : Nat} {b9 : Bool} (hs : Sl 18 a l df) (e3 : l.lookup 3 = some (.pointer (some (⟨ge, 0, none⟩)))) (h0 : ∀ w, (binOp .neq 72 (.pointer (some (⟨ge, 0, none⟩))) (.pointer none)).run Tryd.prog w = .ok (.bool b9) w)
    (hN : ∀ a', Sl 18 a' ((9, .bool b9) :: dropL [8, 9] l) df → N a' w) : rg Tryd.prog (Exit.then N Q) a w (r_k1 1) :=
  reg (l0 := [(3, .pointer (some (⟨ge, 0, none⟩)))]) [9] [8, 9] [.bin (.bool b9)] hs ⟨e3, trivial⟩ (And.intro (bin_run (x := .tmp 8) (y := .const (.pointer none)) (by kernel_rfl) (h0 w)) (fun a' => hN a')) (by kernel_rfl)
theorem k1_r2 {ge : Nat} {p13 : Option Addr} (hs : Sl 18 a l df) (e3 : l.lookup 3 = some (.pointer (some (⟨ge, 0, none⟩)))) (l0 : Lds Tryd.prog 72 (.pointer (some (⟨ge, 25, none⟩))) (.pointer p13) w)
    (hN : ∀ a', Sl 18 a' ((3, .pointer p13) :: dropL [3, 10, 11, 12, 13] l) df → N a' w) : rg Tryd.prog (Exit.then N Q) a w (r_k1 2) :=
  reg (l0 := [(3, .pointer (some (⟨ge, 0, none⟩)))]) [3] [3, 10, 11, 12, 13] [.val (.pointer p13)] hs ⟨e3, trivial⟩ (And.intro (l0).run (fun a' => hN a')) (by kernel_rfl)
theorem k1_r3 {yl : Nat} {ge : Nat} {C0 : Bool → World → Prop} (hs : Sl 18 a l df) (e0 : l.lookup 0 = some (.func (.yield yl) #[] #[])) (e3 : l.lookup 3 = some (.pointer (some (⟨ge, 0, none⟩)))) (k0 : YieldAt Fence.wide 7 Tryd.prog yl #[.pointer (some (⟨ge, 0, none⟩))] w fun e w' => ∃ x16 : Bool, e = .returned (.bool x16) ∧ C0 x16 w')
    (hN : ∀ a' (x16 : Bool) (w1 : World), C0 x16 w1 → Sl 18 a' ((17, .bool (!x16)) :: dropL [14, 15, 16, 17] l) df → N a' w1) : (r_k1 3).wp Tryd.prog (Exit.then N Q) a w :=
  regY (l0 := [(0, .func (.yield yl) #[] #[]), (3, .pointer (some (⟨ge, 0, none⟩)))]) [17] [14, 15, 16, 17] [.ex Bool (fun x16 => .bool x16) C0] hs ⟨e0, e3, trivial⟩ (And.intro k0 (fun (x16 : Bool) (w1 : World) (hc0 : C0 x16 w1) => (fun a' => hN a' x16 w1 hc0))) (by kernel_rfl)
noncomputable def r_k2 (n : Nat) : Code := ((Tryd.f30.body.bind (findR n)).getD .skip)
noncomputable def k2L0 : Code := (.seq (r_k2 1) (.seq (.cond (.tmp 9) .skip (.exit 0)) (.seq (.block 1 (.seq (r_k2 2) (.seq (r_k2 3) (.cond (.tmp 18) .ret .skip)))) (r_k2 4))))
noncomputable def k2Body : Code := (.seq (r_k2 0) (.block 0 (.loop k2L0)))
theorem k2_body : Tryd.f30.body = some k2Body := by kernel_rfl
theorem k2_r0 {g1 : Nat} {gm : Nat} {np : Nat} {C0 : S3 → World → Prop} (hs : Sl 20 a l df) (e1 : l.lookup 1 = some (.pointer (some (⟨g1, 0, none⟩)))) (l0 : Lds Tryd.prog 24 (.pointer (some (⟨g1, 0, none⟩))) (.pointer (some (⟨gm, 0, none⟩))) w) (k1 : Calls Tryd.prog 28 #[.pointer (some (⟨gm, 0, none⟩))] w fun e w' => ∃ x6 : S3, e = .returned (.slice x6.d np x6.c) ∧ C0 x6 w')
    (hN : ∀ a' (x6 : S3) (w1 : World), C0 x6 w1 → Sl 20 a' ((6, .slice x6.d np x6.c) :: (7, .int .i64 (np : Int)) :: (8, .int .i64 0) :: dropL [5, 6, 7, 8] l) df → N a' w1) : rg Tryd.prog (Exit.then N Q) a w (r_k2 0) :=
  reg (l0 := [(1, .pointer (some (⟨g1, 0, none⟩)))]) [6, 7, 8] [5, 6, 7, 8] [.val (.pointer (some (⟨gm, 0, none⟩))), .ex (S3) (fun x6 => .slice x6.d np x6.c) C0] hs ⟨e1, trivial⟩ (And.intro (l0).run (And.intro k1 (fun (x6 : S3) (w1 : World) (hc0 : C0 x6 w1) => (fun a' => hN a' x6 w1 hc0)))) (by kernel_rfl)
theorem k2_r1 {j : Nat} {n6 : Nat} {b9 : Bool} (hs : Sl 20 a l df) (e8 : l.lookup 8 = some (.int .i64 (j : Int))) (e7 : l.lookup 7 = some (.int .i64 (n6 : Int))) (h0 : decide ((j : Int) < (n6 : Int)) = b9)
    (hN : ∀ a', Sl 20 a' ((9, .bool b9) :: dropL [9] l) df → N a' w) : rg Tryd.prog (Exit.then N Q) a w (r_k2 1) :=
  reg (l0 := [(8, .int .i64 (j : Int)), (7, .int .i64 (n6 : Int))]) [9] [9] [.bit b9] hs ⟨e8, e7, trivial⟩ (And.intro h0 (fun a' => hN a')) (by kernel_rfl)
theorem k2_r2 {d6 : Option Addr} {n6 : Nat} {c6 : Nat} {j : Nat} {g10 : Nat} {o10 : Nat} {dk : Dt} {mk : Dm} {dv : Dt} {mv : Dm} {ow : Bool} (hs : Sl 20 a l df) (e6 : l.lookup 6 = some (.slice d6 n6 c6)) (e8 : l.lookup 8 = some (.int .i64 (j : Int))) (i0 : ∀ w, (Instr.indexAt 86 (.slice d6 n6 c6) (.int .i64 (j : Int))).run Tryd.prog w = .ok (.pointer (some (⟨g10, o10, none⟩))) w) (l1 : Lds Tryd.prog 89 (.pointer (some (⟨g10, o10, none⟩))) (.agg #[.int .i64 dk.h.kind, .string dk.h.type, .int .i64 dk.h.n, .int .u64 dk.h.f, .string dk.h.s, .int .i64 dk.h.obj, .int .i64 dk.h.frm, .int .i64 dk.h.len, .int .i64 dk.h.cap, .slice mk.pa dk.h.path.length mk.pc, .slice mk.ia dk.k.len mk.ic, .int .i64 dv.h.kind, .string dv.h.type, .int .i64 dv.h.n, .int .u64 dv.h.f, .string dv.h.s, .int .i64 dv.h.obj, .int .i64 dv.h.frm, .int .i64 dv.h.len, .int .i64 dv.h.cap, .slice mv.pa dv.h.path.length mv.pc, .slice mv.ia dv.k.len mv.ic, .bool ow]) w) (s2 : (Instr.storeAt 89 (.pointer (some (⟨w.heap.size, 0, none⟩))) (.agg #[.int .i64 dk.h.kind, .string dk.h.type, .int .i64 dk.h.n, .int .u64 dk.h.f, .string dk.h.s, .int .i64 dk.h.obj, .int .i64 dk.h.frm, .int .i64 dk.h.len, .int .i64 dk.h.cap, .slice mk.pa dk.h.path.length mk.pc, .slice mk.ia dk.k.len mk.ic, .int .i64 dv.h.kind, .string dv.h.type, .int .i64 dv.h.n, .int .u64 dv.h.f, .string dv.h.s, .int .i64 dv.h.obj, .int .i64 dv.h.frm, .int .i64 dv.h.len, .int .i64 dv.h.cap, .slice mv.pa dv.h.path.length mv.pc, .slice mv.ia dv.k.len mv.ic, .bool ow])).run Tryd.prog (w.alloc (.cells #[.int .i64 0, .string (⟨#[]⟩), .int .i64 0, .int .u64 0, .string (⟨#[]⟩), .int .i64 0, .int .i64 0, .int .i64 0, .int .i64 0, .slice none 0 0, .slice none 0 0, .int .i64 0, .string (⟨#[]⟩), .int .i64 0, .int .u64 0, .string (⟨#[]⟩), .int .i64 0, .int .i64 0, .int .i64 0, .int .i64 0, .slice none 0 0, .slice none 0 0, .bool false] 89)) = .ok () ((w.alloc (.cells #[.int .i64 0, .string (⟨#[]⟩), .int .i64 0, .int .u64 0, .string (⟨#[]⟩), .int .i64 0, .int .i64 0, .int .i64 0, .int .i64 0, .slice none 0 0, .slice none 0 0, .int .i64 0, .string (⟨#[]⟩), .int .i64 0, .int .u64 0, .string (⟨#[]⟩), .int .i64 0, .int .i64 0, .int .i64 0, .int .i64 0, .slice none 0 0, .slice none 0 0, .bool false] 89)).setCells w.heap.size 0 [.int .i64 dk.h.kind, .string dk.h.type, .int .i64 dk.h.n, .int .u64 dk.h.f, .string dk.h.s, .int .i64 dk.h.obj, .int .i64 dk.h.frm, .int .i64 dk.h.len, .int .i64 dk.h.cap, .slice mk.pa dk.h.path.length mk.pc, .slice mk.ia dk.k.len mk.ic, .int .i64 dv.h.kind, .string dv.h.type, .int .i64 dv.h.n, .int .u64 dv.h.f, .string dv.h.s, .int .i64 dv.h.obj, .int .i64 dv.h.frm, .int .i64 dv.h.len, .int .i64 dv.h.cap, .slice mv.pa dv.h.path.length mv.pc, .slice mv.ia dv.k.len mv.ic, .bool ow]))
    (hN : ∀ a', Sl 20 a' ((4, .pointer (some (⟨w.heap.size, 0, none⟩))) :: dropL [4, 10, 11] l) df → N a' ((w.alloc (.cells #[.int .i64 0, .string (⟨#[]⟩), .int .i64 0, .int .u64 0, .string (⟨#[]⟩), .int .i64 0, .int .i64 0, .int .i64 0, .int .i64 0, .slice none 0 0, .slice none 0 0, .int .i64 0, .string (⟨#[]⟩), .int .i64 0, .int .u64 0, .string (⟨#[]⟩), .int .i64 0, .int .i64 0, .int .i64 0, .int .i64 0, .slice none 0 0, .slice none 0 0, .bool false] 89)).setCells w.heap.size 0 [.int .i64 dk.h.kind, .string dk.h.type, .int .i64 dk.h.n, .int .u64 dk.h.f, .string dk.h.s, .int .i64 dk.h.obj, .int .i64 dk.h.frm, .int .i64 dk.h.len, .int .i64 dk.h.cap, .slice mk.pa dk.h.path.length mk.pc, .slice mk.ia dk.k.len mk.ic, .int .i64 dv.h.kind, .string dv.h.type, .int .i64 dv.h.n, .int .u64 dv.h.f, .string dv.h.s, .int .i64 dv.h.obj, .int .i64 dv.h.frm, .int .i64 dv.h.len, .int .i64 dv.h.cap, .slice mv.pa dv.h.path.length mv.pc, .slice mv.ia dv.k.len mv.ic, .bool ow])) : rg Tryd.prog (Exit.then N Q) a w (r_k2 2) :=
  reg (l0 := [(6, .slice d6 n6 c6), (8, .int .i64 (j : Int))]) [4] [4, 10, 11] [.val (.pointer (some (⟨g10, o10, none⟩))), .val (.agg #[.int .i64 dk.h.kind, .string dk.h.type, .int .i64 dk.h.n, .int .u64 dk.h.f, .string dk.h.s, .int .i64 dk.h.obj, .int .i64 dk.h.frm, .int .i64 dk.h.len, .int .i64 dk.h.cap, .slice mk.pa dk.h.path.length mk.pc, .slice mk.ia dk.k.len mk.ic, .int .i64 dv.h.kind, .string dv.h.type, .int .i64 dv.h.n, .int .u64 dv.h.f, .string dv.h.s, .int .i64 dv.h.obj, .int .i64 dv.h.frm, .int .i64 dv.h.len, .int .i64 dv.h.cap, .slice mv.pa dv.h.path.length mv.pc, .slice mv.ia dv.k.len mv.ic, .bool ow]), .raw, .sto] hs ⟨e6, e8, trivial⟩ (And.intro (i0 w) (And.intro (l1).run (And.intro s2 (fun a' => hN a')))) (by kernel_rfl)
theorem k2_r3 {yl : Nat} {g4 : Nat} {dk : Dt} {mk : Dm} {dv : Dt} {mv : Dm} {C0 : Bool → World → Prop} (hs : Sl 20 a l df) (e0 : l.lookup 0 = some (.func (.yield yl) #[] #[])) (e4 : l.lookup 4 = some (.pointer (some (⟨g4, 0, none⟩)))) (l0 : Lds Tryd.prog 31 (.pointer (some (⟨g4, 0, none⟩))) (.agg (dk.cs mk)) w) (l1 : Lds Tryd.prog 31 (.pointer (some (⟨g4, 11, none⟩))) (.agg (dv.cs mv)) w) (k2 : YieldAt Fence.wide 7 Tryd.prog yl #[.agg (dk.cs mk), .agg (dv.cs mv)] w fun e w' => ∃ x17 : Bool, e = .returned (.bool x17) ∧ C0 x17 w')
    (hN : ∀ a' (x17 : Bool) (w1 : World), C0 x17 w1 → Sl 20 a' ((18, .bool (!x17)) :: dropL (List.range' 12 7) l) df → N a' w1) : (r_k2 3).wp Tryd.prog (Exit.then N Q) a w :=
  regY (l0 := [(0, .func (.yield yl) #[] #[]), (4, .pointer (some (⟨g4, 0, none⟩)))]) [18] (List.range' 12 7) [.val (.agg (dk.cs mk)), .val (.agg (dv.cs mv)), .ex Bool (fun x17 => .bool x17) C0] hs ⟨e0, e4, trivial⟩ (And.intro (l0).run (And.intro (l1).run (And.intro k2 (fun (x17 : Bool) (w1 : World) (hc0 : C0 x17 w1) => (fun a' => hN a' x17 w1 hc0))))) (by kernel_rfl)
theorem k2_r4 {j : Nat} (hs : Sl 20 a l df) (e8 : l.lookup 8 = some (.int .i64 (j : Int))) (h0 : -9223372036854775808 ≤ (j : Int) + 1 ∧ (j : Int) + 1 ≤ 9223372036854775807)
    (hN : ∀ a', Sl 20 a' ((8, .int .i64 ((j : Int) + 1)) :: dropL [8, 19] l) df → N a' w) : rg Tryd.prog (Exit.then N Q) a w (r_k2 4) :=
  reg (l0 := [(8, .int .i64 (j : Int))]) [8] [8, 19] [.ari] hs ⟨e8, trivial⟩ (And.intro h0 (fun a' => hN a')) (by kernel_rfl)
noncomputable def r_k3 (n : Nat) : Code := ((Tryd.f27.body.bind (findR n)).getD .skip)
noncomputable def k3L0 : Code := (.seq (r_k3 1) (.seq (.cond (.tmp 12) .skip (.exit 0)) (.seq (.block 1 (.seq (r_k3 2) (.seq (.seq (r_k3 3) (.cond (.tmp 16) (.seq (r_k3 4) (.seq (.seq (r_k3 5) (.cond (.tmp 26) (.exit 1) .skip)) (r_k3 6))) .skip)) (.seq (r_k3 7) (.cond (.tmp 45) .ret .skip))))) (r_k3 8))))
noncomputable def k3Body : Code := (.seq (r_k3 0) (.block 0 (.loop k3L0)))
theorem k3_body : Tryd.f27.body = some k3Body := by kernel_rfl
theorem k3_r0 {g1 : Nat} {gm : Nat} {np : Nat} {C0 : S3 → World → Prop} (hs : Sl 47 a l df) (e1 : l.lookup 1 = some (.pointer (some (⟨g1, 0, none⟩)))) (l0 : Lds Tryd.prog 24 (.pointer (some (⟨g1, 0, none⟩))) (.pointer (some (⟨gm, 0, none⟩))) w) (k1 : Calls Tryd.prog 28 #[.pointer (some (⟨gm, 0, none⟩))] w fun e w' => ∃ x9 : S3, e = .returned (.slice x9.d np x9.c) ∧ C0 x9 w')
    (hN : ∀ a' (x9 : S3) (w1 : World), C0 x9 w1 → Sl 47 a' ((9, .slice x9.d np x9.c) :: (10, .int .i64 (np : Int)) :: (11, .int .i64 0) :: dropL [8, 9, 10, 11] l) df → N a' w1) : rg Tryd.prog (Exit.then N Q) a w (r_k3 0) :=
  reg (l0 := [(1, .pointer (some (⟨g1, 0, none⟩)))]) [9, 10, 11] [8, 9, 10, 11] [.val (.pointer (some (⟨gm, 0, none⟩))), .ex (S3) (fun x9 => .slice x9.d np x9.c) C0] hs ⟨e1, trivial⟩ (And.intro (l0).run (And.intro k1 (fun (x9 : S3) (w1 : World) (hc0 : C0 x9 w1) => (fun a' => hN a' x9 w1 hc0)))) (by kernel_rfl)
theorem k3_r1 {j : Nat} {n6 : Nat} {b12 : Bool} (hs : Sl 47 a l df) (e11 : l.lookup 11 = some (.int .i64 (j : Int))) (e10 : l.lookup 10 = some (.int .i64 (n6 : Int))) (h0 : decide ((j : Int) < (n6 : Int)) = b12)
    (hN : ∀ a', Sl 47 a' ((12, .bool b12) :: dropL [12] l) df → N a' w) : rg Tryd.prog (Exit.then N Q) a w (r_k3 1) :=
  reg (l0 := [(11, .int .i64 (j : Int)), (10, .int .i64 (n6 : Int))]) [12] [12] [.bit b12] hs ⟨e11, e10, trivial⟩ (And.intro h0 (fun a' => hN a')) (by kernel_rfl)
theorem k3_r2 {d6 : Option Addr} {n6 : Nat} {c6 : Nat} {j : Nat} {g13 : Nat} {o13 : Nat} {dk : Dt} {mk : Dm} {dv : Dt} {mv : Dm} {ow : Bool} (hs : Sl 47 a l df) (e9 : l.lookup 9 = some (.slice d6 n6 c6)) (e11 : l.lookup 11 = some (.int .i64 (j : Int))) (i0 : ∀ w, (Instr.indexAt 86 (.slice d6 n6 c6) (.int .i64 (j : Int))).run Tryd.prog w = .ok (.pointer (some (⟨g13, o13, none⟩))) w) (l1 : Lds Tryd.prog 89 (.pointer (some (⟨g13, o13, none⟩))) (.agg #[.int .i64 dk.h.kind, .string dk.h.type, .int .i64 dk.h.n, .int .u64 dk.h.f, .string dk.h.s, .int .i64 dk.h.obj, .int .i64 dk.h.frm, .int .i64 dk.h.len, .int .i64 dk.h.cap, .slice mk.pa dk.h.path.length mk.pc, .slice mk.ia dk.k.len mk.ic, .int .i64 dv.h.kind, .string dv.h.type, .int .i64 dv.h.n, .int .u64 dv.h.f, .string dv.h.s, .int .i64 dv.h.obj, .int .i64 dv.h.frm, .int .i64 dv.h.len, .int .i64 dv.h.cap, .slice mv.pa dv.h.path.length mv.pc, .slice mv.ia dv.k.len mv.ic, .bool ow]) w) (s2 : (Instr.storeAt 89 (.pointer (some (⟨w.heap.size, 0, none⟩))) (.agg #[.int .i64 dk.h.kind, .string dk.h.type, .int .i64 dk.h.n, .int .u64 dk.h.f, .string dk.h.s, .int .i64 dk.h.obj, .int .i64 dk.h.frm, .int .i64 dk.h.len, .int .i64 dk.h.cap, .slice mk.pa dk.h.path.length mk.pc, .slice mk.ia dk.k.len mk.ic, .int .i64 dv.h.kind, .string dv.h.type, .int .i64 dv.h.n, .int .u64 dv.h.f, .string dv.h.s, .int .i64 dv.h.obj, .int .i64 dv.h.frm, .int .i64 dv.h.len, .int .i64 dv.h.cap, .slice mv.pa dv.h.path.length mv.pc, .slice mv.ia dv.k.len mv.ic, .bool ow])).run Tryd.prog (w.alloc (.cells #[.int .i64 0, .string (⟨#[]⟩), .int .i64 0, .int .u64 0, .string (⟨#[]⟩), .int .i64 0, .int .i64 0, .int .i64 0, .int .i64 0, .slice none 0 0, .slice none 0 0, .int .i64 0, .string (⟨#[]⟩), .int .i64 0, .int .u64 0, .string (⟨#[]⟩), .int .i64 0, .int .i64 0, .int .i64 0, .int .i64 0, .slice none 0 0, .slice none 0 0, .bool false] 89)) = .ok () ((w.alloc (.cells #[.int .i64 0, .string (⟨#[]⟩), .int .i64 0, .int .u64 0, .string (⟨#[]⟩), .int .i64 0, .int .i64 0, .int .i64 0, .int .i64 0, .slice none 0 0, .slice none 0 0, .int .i64 0, .string (⟨#[]⟩), .int .i64 0, .int .u64 0, .string (⟨#[]⟩), .int .i64 0, .int .i64 0, .int .i64 0, .int .i64 0, .slice none 0 0, .slice none 0 0, .bool false] 89)).setCells w.heap.size 0 [.int .i64 dk.h.kind, .string dk.h.type, .int .i64 dk.h.n, .int .u64 dk.h.f, .string dk.h.s, .int .i64 dk.h.obj, .int .i64 dk.h.frm, .int .i64 dk.h.len, .int .i64 dk.h.cap, .slice mk.pa dk.h.path.length mk.pc, .slice mk.ia dk.k.len mk.ic, .int .i64 dv.h.kind, .string dv.h.type, .int .i64 dv.h.n, .int .u64 dv.h.f, .string dv.h.s, .int .i64 dv.h.obj, .int .i64 dv.h.frm, .int .i64 dv.h.len, .int .i64 dv.h.cap, .slice mv.pa dv.h.path.length mv.pc, .slice mv.ia dv.k.len mv.ic, .bool ow]))
    (hN : ∀ a', Sl 47 a' ((4, .pointer (some (⟨w.heap.size, 0, none⟩))) :: dropL [4, 13, 14] l) df → N a' ((w.alloc (.cells #[.int .i64 0, .string (⟨#[]⟩), .int .i64 0, .int .u64 0, .string (⟨#[]⟩), .int .i64 0, .int .i64 0, .int .i64 0, .int .i64 0, .slice none 0 0, .slice none 0 0, .int .i64 0, .string (⟨#[]⟩), .int .i64 0, .int .u64 0, .string (⟨#[]⟩), .int .i64 0, .int .i64 0, .int .i64 0, .int .i64 0, .slice none 0 0, .slice none 0 0, .bool false] 89)).setCells w.heap.size 0 [.int .i64 dk.h.kind, .string dk.h.type, .int .i64 dk.h.n, .int .u64 dk.h.f, .string dk.h.s, .int .i64 dk.h.obj, .int .i64 dk.h.frm, .int .i64 dk.h.len, .int .i64 dk.h.cap, .slice mk.pa dk.h.path.length mk.pc, .slice mk.ia dk.k.len mk.ic, .int .i64 dv.h.kind, .string dv.h.type, .int .i64 dv.h.n, .int .u64 dv.h.f, .string dv.h.s, .int .i64 dv.h.obj, .int .i64 dv.h.frm, .int .i64 dv.h.len, .int .i64 dv.h.cap, .slice mv.pa dv.h.path.length mv.pc, .slice mv.ia dv.k.len mv.ic, .bool ow])) : rg Tryd.prog (Exit.then N Q) a w (r_k3 2) :=
  reg (l0 := [(9, .slice d6 n6 c6), (11, .int .i64 (j : Int))]) [4] [4, 13, 14] [.val (.pointer (some (⟨g13, o13, none⟩))), .val (.agg #[.int .i64 dk.h.kind, .string dk.h.type, .int .i64 dk.h.n, .int .u64 dk.h.f, .string dk.h.s, .int .i64 dk.h.obj, .int .i64 dk.h.frm, .int .i64 dk.h.len, .int .i64 dk.h.cap, .slice mk.pa dk.h.path.length mk.pc, .slice mk.ia dk.k.len mk.ic, .int .i64 dv.h.kind, .string dv.h.type, .int .i64 dv.h.n, .int .u64 dv.h.f, .string dv.h.s, .int .i64 dv.h.obj, .int .i64 dv.h.frm, .int .i64 dv.h.len, .int .i64 dv.h.cap, .slice mv.pa dv.h.path.length mv.pc, .slice mv.ia dv.k.len mv.ic, .bool ow]), .raw, .sto] hs ⟨e9, e11, trivial⟩ (And.intro (i0 w) (And.intro (l1).run (And.intro s2 (fun a' => hN a')))) (by kernel_rfl)
theorem k3_r3 {g4 : Nat} {ow : Bool} (hs : Sl 47 a l df) (e4 : l.lookup 4 = some (.pointer (some (⟨g4, 0, none⟩)))) (l0 : Lds Tryd.prog 4 (.pointer (some (⟨g4, 22, none⟩))) (.bool ow) w)
    (hN : ∀ a', Sl 47 a' ((16, .bool ow) :: dropL [15, 16] l) df → N a' w) : rg Tryd.prog (Exit.then N Q) a w (r_k3 3) :=
  reg (l0 := [(4, .pointer (some (⟨g4, 0, none⟩)))]) [16] [15, 16] [.val (.bool ow)] hs ⟨e4, trivial⟩ (And.intro (l0).run (fun a' => hN a')) (by kernel_rfl)
theorem k3_r4 {g1 : Nat} {gm : Nat} {g4 : Nat} {dk : Dt} {mk : Dm} {C0 : Value → Value → Value → World → Prop} (hs : Sl 47 a l df) (e1 : l.lookup 1 = some (.pointer (some (⟨g1, 0, none⟩)))) (e4 : l.lookup 4 = some (.pointer (some (⟨g4, 0, none⟩)))) (l0 : Lds Tryd.prog 24 (.pointer (some (⟨g1, 0, none⟩))) (.pointer (some (⟨gm, 0, none⟩))) w) (l1 : Lds Tryd.prog 31 (.pointer (some (⟨g4, 0, none⟩))) (.agg (dk.cs mk)) w) (k2 : Calls Tryd.prog 22 #[.pointer (some (⟨gm, 0, none⟩)), .agg (dk.cs mk)] w fun e w' => ∃ x21a x21b x21c, e = .returned (.tuple #[x21a, x21b, x21c]) ∧ C0 x21a x21b x21c w')
    (hN : ∀ a' (x21a : Value) (x21b : Value) (x21c : Value) (w1 : World), C0 x21a x21b x21c w1 → Sl 47 a' ((5, x21a) :: dropL (5 :: 6 :: 7 :: List.range' 17 8) l) df → N a' w1) : rg Tryd.prog (Exit.then N Q) a w (r_k3 4) :=
  reg (l0 := [(1, .pointer (some (⟨g1, 0, none⟩))), (4, .pointer (some (⟨g4, 0, none⟩)))]) [5] (5 :: 6 :: 7 :: List.range' 17 8) [.val (.pointer (some (⟨gm, 0, none⟩))), .val (.agg (dk.cs mk)), .con3 C0] hs ⟨e1, e4, trivial⟩ (And.intro (l0).run (And.intro (l1).run (And.intro k2 (fun (x21a : Value) (x21b : Value) (x21c : Value) (w1 : World) (hc0 : C0 x21a x21b x21c w1) => (fun a' => hN a' x21a x21b x21c w1 hc0))))) (by kernel_rfl)
theorem k3_r5n {b26 : Bool} (hs : Sl 47 a l df) (e5 : l.lookup 5 = some (.pointer none)) (h0 : ∀ w, (binOp .eql 72 (.pointer none) (.pointer none)).run Tryd.prog w = .ok (.bool b26) w)
    (hN : ∀ a', Sl 47 a' ((26, .bool b26) :: dropL [25, 26] l) df → N a' w) : rg Tryd.prog (Exit.then N Q) a w (r_k3 5) :=
  reg (l0 := [(5, .pointer none)]) [26] [25, 26] [.bin (.bool b26)] hs ⟨e5, trivial⟩ (And.intro (bin_run (x := .tmp 25) (y := .const (.pointer none)) (by kernel_rfl) (h0 w)) (fun a' => hN a')) (by kernel_rfl)
theorem k3_r5e {ge : Nat} {b26 : Bool} (hs : Sl 47 a l df) (e5 : l.lookup 5 = some (.pointer (some (⟨ge, 0, none⟩)))) (h0 : ∀ w, (binOp .eql 72 (.pointer (some (⟨ge, 0, none⟩))) (.pointer none)).run Tryd.prog w = .ok (.bool b26) w)
    (hN : ∀ a', Sl 47 a' ((26, .bool b26) :: dropL [25, 26] l) df → N a' w) : rg Tryd.prog (Exit.then N Q) a w (r_k3 5) :=
  reg (l0 := [(5, .pointer (some (⟨ge, 0, none⟩)))]) [26] [25, 26] [.bin (.bool b26)] hs ⟨e5, trivial⟩ (And.intro (bin_run (x := .tmp 25) (y := .const (.pointer none)) (by kernel_rfl) (h0 w)) (fun a' => hN a')) (by kernel_rfl)
theorem k3_r6 {C : World → Prop} {ge : Nat} {ek : Dt} {mek : Dm} {ev : Dt} {mev : Dm} {C0 : Dm → World → Prop} {g4 : Nat} {C1 : World → Dm → World → Prop} (hs : Sl 47 a l df) (e5 : l.lookup 5 = some (.pointer (some (⟨ge, 0, none⟩)))) (e4 : l.lookup 4 = some (.pointer (some (⟨g4, 0, none⟩)))) (c0 : C (w.drewN 1)) (l1 : ∀ u, C u → Lds Tryd.prog 31 (.pointer (some (⟨ge, 0, none⟩))) (.agg (ek.cs mek)) u) (l2 : ∀ u, C u → Lds Tryd.prog 31 (.pointer (some (⟨ge, 11, none⟩))) (.agg (ev.cs mev)) u) (k3 : Calls Tryd.prog 23 #[.agg (ek.cs mek)] (w.drewN 1) fun e w' => ∃ x31 : Dm, e = .returned (.agg (ek.cs x31)) ∧ C0 x31 w') (c4 : ∀ (x31 : Dm) (w1 : World), C0 x31 w1 → C w1) (k5 : ∀ (x31 : Dm) (w1 : World), C0 x31 w1 → Calls Tryd.prog 23 #[.agg (ev.cs mev)] w1 fun e w' => ∃ x36 : Dm, e = .returned (.agg (ev.cs x36)) ∧ C1 w1 x36 w') (c6 : ∀ (x31 : Dm) (w1 : World), C0 x31 w1 → ∀ (x36 : Dm) (w2 : World), C1 w1 x36 w2 → C w2) (s7 : ∀ (x31 : Dm) (w1 : World), C0 x31 w1 → ∀ (x36 : Dm) (w2 : World), C1 w1 x36 w2 → (Instr.storeAt 31 (.pointer (some (⟨g4, 0, none⟩))) (.agg (ek.cs x31))).run Tryd.prog w2 = .ok () (w2.setCells g4 0 (ek.cs x31).toList)) (s8 : ∀ (x31 : Dm) (w1 : World), C0 x31 w1 → ∀ (x36 : Dm) (w2 : World), C1 w1 x36 w2 → (Instr.storeAt 31 (.pointer (some (⟨g4, 11, none⟩))) (.agg (ev.cs x36))).run Tryd.prog (w2.setCells g4 0 (ek.cs x31).toList) = .ok () ((w2.setCells g4 0 (ek.cs x31).toList).setCells g4 11 (ev.cs x36).toList))
    (hN : ∀ a' (x31 : Dm) (w1 : World) (x36 : Dm) (w2 : World), C0 x31 w1 → C1 w1 x36 w2 → Sl 47 a' (dropL (List.range' 27 12) l) df → N a' ((w2.setCells g4 0 (ek.cs x31).toList).setCells g4 11 (ev.cs x36).toList)) : rg Tryd.prog (Exit.then N Q) a w (r_k3 6) :=
  regP (l0 := [(5, .pointer (some (⟨ge, 0, none⟩))), (4, .pointer (some (⟨g4, 0, none⟩)))]) 11 [(true, 0), (true, 1), (true, 2), (true, 3), (true, 5), (true, 6), (true, 7), (true, 8), (false, 4), (true, 10), (false, 9)] C [] (List.range' 27 12) [.val (.agg (ek.cs mek)), .val (.agg (ev.cs mev)), .ex (Dm) (fun x31 => .agg (ek.cs x31)) C0, .exw (Dm) (fun x36 => .agg (ev.cs x36)) C1, .sto, .sto] hs ⟨e5, e4, trivial⟩ (And.intro c0 (And.intro c0 (And.intro c0 (And.intro c0 (And.intro (fun u hu => (l1 u hu).run) (And.intro c0 (And.intro c0 (And.intro c0 (And.intro c0 (And.intro (fun u hu => (l2 u hu).run) (And.intro c0 (And.intro k3 (fun (x31 : Dm) (w1 : World) (hc0 : C0 x31 w1) => (And.intro (c4 x31 w1 hc0) (And.intro (c4 x31 w1 hc0) (And.intro (k5 x31 w1 hc0) (fun (x36 : Dm) (w2 : World) (hc1 : C1 w1 x36 w2) => (And.intro (c6 x31 w1 hc0 x36 w2 hc1) (And.intro (s7 x31 w1 hc0 x36 w2 hc1) (And.intro (s8 x31 w1 hc0 x36 w2 hc1) (fun a' => hN a' x31 w1 x36 w2 hc0 hc1))))))))))))))))))))) (by kernel_rfl)
theorem k3_r7 {yl : Nat} {g4 : Nat} {dk : Dt} {mk : Dm} {dv : Dt} {mv : Dm} {C0 : Bool → World → Prop} (hs : Sl 47 a l df) (e0 : l.lookup 0 = some (.func (.yield yl) #[] #[])) (e4 : l.lookup 4 = some (.pointer (some (⟨g4, 0, none⟩)))) (l0 : Lds Tryd.prog 31 (.pointer (some (⟨g4, 0, none⟩))) (.agg (dk.cs mk)) w) (l1 : Lds Tryd.prog 31 (.pointer (some (⟨g4, 11, none⟩))) (.agg (dv.cs mv)) w) (k2 : YieldAt Fence.wide 7 Tryd.prog yl #[.agg (dk.cs mk), .agg (dv.cs mv)] w fun e w' => ∃ x44 : Bool, e = .returned (.bool x44) ∧ C0 x44 w')
    (hN : ∀ a' (x44 : Bool) (w1 : World), C0 x44 w1 → Sl 47 a' ((45, .bool (!x44)) :: dropL (List.range' 39 7) l) df → N a' w1) : (r_k3 7).wp Tryd.prog (Exit.then N Q) a w :=
  regY (l0 := [(0, .func (.yield yl) #[] #[]), (4, .pointer (some (⟨g4, 0, none⟩)))]) [45] (List.range' 39 7) [.val (.agg (dk.cs mk)), .val (.agg (dv.cs mv)), .ex Bool (fun x44 => .bool x44) C0] hs ⟨e0, e4, trivial⟩ (And.intro (l0).run (And.intro (l1).run (And.intro k2 (fun (x44 : Bool) (w1 : World) (hc0 : C0 x44 w1) => (fun a' => hN a' x44 w1 hc0))))) (by kernel_rfl)
theorem k3_r8 {j : Nat} (hs : Sl 47 a l df) (e11 : l.lookup 11 = some (.int .i64 (j : Int))) (h0 : -9223372036854775808 ≤ (j : Int) + 1 ∧ (j : Int) + 1 ≤ 9223372036854775807)
    (hN : ∀ a', Sl 47 a' ((11, .int .i64 ((j : Int) + 1)) :: dropL [11, 46] l) df → N a' w) : rg Tryd.prog (Exit.then N Q) a w (r_k3 8) :=
  reg (l0 := [(11, .int .i64 (j : Int))]) [11] [11, 46] [.ari] hs ⟨e11, trivial⟩ (And.intro h0 (fun a' => hN a')) (by kernel_rfl)
end Go.Proofs.YtlhfickniegooaaDoor
