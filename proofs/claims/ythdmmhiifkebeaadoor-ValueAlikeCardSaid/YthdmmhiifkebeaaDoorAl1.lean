/-
  For the law ValueAlike: its plain law (of right data: equal goes both ways and on; each is equal to itself or held; equal ones have one number); a region that draws its order and reads behind a call; made data in a row, Makers beside a Maker that is called, and what the calls of package value answer of made data. Written by an AI agent.
-/
import Derived.Test.YthdmmhiifkebeaaDoorKyLaw
import Derived.Test.YthdmmhiifkebeaaDoorBr
import Derived.Test.YthdmmhiifkebeaaDoorQE
import Derived.Test.YthdmmhiifkebeaaDoorMk7
import Derived.Test.YthdmmhiifkebeaaDoorB3
namespace Go.Proofs.YthdmmhiifkebeaaDoor
open Go.RowKit Go.Sort

theorem feq_symm (a b : Nat) : feqB a b = feqB b a := by
  unfold feqB
  rw [dec_symm (placeF a) (placeF b)]
  cases nanB a <;> cases nanB b <;> rfl
theorem equalH_symm {h h' : Hd} (ho : oneB h h' = true) : equalH h h' = equalH h' h := by
  obtain ⟨hk, ht⟩ := oneB_parts ho
  unfold equalH
  by_cases h3 : h.kind = 3
  · rw [if_pos h3, if_pos (hk ▸ h3), feq_symm]
  rw [if_neg h3, if_neg (show ¬ h'.kind = 3 by omega)]
  by_cases h5 : h.kind = 5 ∨ h.kind = 6 ∨ h.kind = 7
  · rw [if_pos h5, if_pos (show h'.kind = 5 ∨ h'.kind = 6 ∨ h'.kind = 7 by omega), ht]
  rw [if_neg h5, if_neg (show ¬ (h'.kind = 5 ∨ h'.kind = 6 ∨ h'.kind = 7) by omega)]
  by_cases h9 : h.kind = 9
  · rw [if_pos h9, if_pos (show h'.kind = 9 by omega)]
    refine Prod.ext (decide_eq_decide.2 ⟨fun ⟨a, b⟩ => ⟨a.symm, b.symm⟩, fun ⟨a, b⟩ => ⟨a.symm, b.symm⟩⟩) rfl
  · rw [if_neg h9, if_neg (show ¬ h'.kind = 9 by omega)]
    refine Prod.ext (decide_eq_decide.2 ⟨fun ⟨a, b⟩ => ⟨a.symm, b.symm⟩, fun ⟨a, b⟩ => ⟨a.symm, b.symm⟩⟩) rfl
theorem equalD_symm' {h h' : Hd} {k k' : Fo} (hF : equalF k k' = equalF k' k) : equalD h k h' k' = equalD h' k' h k := by
  unfold equalD
  rw [oneB_symm h' h]
  by_cases ho : oneB h h' = false
  · rw [if_pos ho, if_pos ho]
  have ho' : oneB h h' = true := by revert ho; cases oneB h h' <;> simp
  have hk := (oneB_parts ho').1
  rw [if_neg ho, if_neg ho]
  by_cases h8 : h.kind = 8
  · rw [if_pos h8, if_pos (show h'.kind = 8 by omega)]
    by_cases hl : k.len ≠ k'.len
    · rw [if_pos hl, if_pos (Ne.symm hl)]
    · rw [if_neg hl, if_neg (fun e => hl (Ne.symm e)), hF]
  · rw [if_neg h8, if_neg (show ¬ h'.kind = 8 by omega), equalH_symm ho']
theorem equalF_symm : ∀ f g : Fo, equalF f g = equalF g f
  | .nil, .nil => rfl
  | .nil, .cons .. => by simp [equalF]
  | .cons .., .nil => by simp [equalF]
  | .cons h k r, .cons h' k' r' => by
    rw [equalF_cons, equalF_cons, equalD_symm' (h := h) (h' := h') (equalF_symm k k'), equalF_symm r r']
theorem equalD_symm (h : Hd) (k : Fo) (h' : Hd) (k' : Fo) : equalD h k h' k' = equalD h' k' h k := equalD_symm' (equalF_symm k k')

theorem oneB_trans {a b c : Hd} (h1 : oneB a b = true) (h2 : oneB b c = true) : oneB a c = true := by
  obtain ⟨p1, p2⟩ := oneB_parts h1
  obtain ⟨q1, q2⟩ := oneB_parts h2
  exact decide_eq_true ⟨p1.trans q1, p2.trans q2⟩
theorem equalH_trans {a b c : Hd} (o1 : oneB a b = true) (h1 : (equalH a b).1 = true) (h2 : (equalH b c).1 = true) : (equalH a c).1 = true := by
  have hk := (oneB_parts o1).1
  unfold equalH at *
  by_cases h3 : a.kind = 3
  · rw [if_pos h3] at h1 ⊢
    rw [if_pos (show b.kind = 3 by omega)] at h2
    obtain ⟨p1, p2, p3⟩ := feq_nan h1
    obtain ⟨q1, q2, q3⟩ := feq_nan h2
    exact feq_mk p1 q2 (p3.trans q3)
  rw [if_neg h3] at h1 ⊢
  rw [if_neg (show ¬ b.kind = 3 by omega)] at h2
  by_cases h5 : a.kind = 5 ∨ a.kind = 6 ∨ a.kind = 7
  · rw [if_pos h5] at h1; cases h1
  rw [if_neg h5] at h1 ⊢
  rw [if_neg (show ¬ (b.kind = 5 ∨ b.kind = 6 ∨ b.kind = 7) by omega)] at h2
  by_cases h9 : a.kind = 9
  · rw [if_pos h9] at h1 ⊢
    rw [if_pos (show b.kind = 9 by omega)] at h2
    have e1 : a.obj = b.obj ∧ a.path = b.path := of_decide_eq_true h1
    have e2 : b.obj = c.obj ∧ b.path = c.path := of_decide_eq_true h2
    exact decide_eq_true ⟨e1.1.trans e2.1, e1.2.trans e2.2⟩
  · rw [if_neg h9] at h1 ⊢
    rw [if_neg (show ¬ b.kind = 9 by omega)] at h2
    have e1 : a.n = b.n ∧ a.s = b.s := of_decide_eq_true h1
    have e2 : b.n = c.n ∧ b.s = c.s := of_decide_eq_true h2
    exact decide_eq_true ⟨e1.1.trans e2.1, e1.2.trans e2.2⟩
theorem eqD_open {h h' : Hd} {k k' : Fo} (ht : (equalD h k h' k').1 = true) : oneB h h' = true ∧ (h.kind = 8 → k.len = k'.len ∧ (equalF k k').1 = true) ∧ (h.kind ≠ 8 → (equalH h h').1 = true) := by
  unfold equalD at ht
  by_cases ho : oneB h h' = false
  · rw [if_pos ho] at ht; cases ht
  rw [if_neg ho] at ht
  have ho' : oneB h h' = true := by revert ho; cases oneB h h' <;> simp
  refine ⟨ho', fun h8 => ?_, fun h8 => ?_⟩
  · rw [if_pos h8] at ht
    by_cases hl : k.len ≠ k'.len
    · rw [if_pos hl] at ht; cases ht
    · rw [if_neg hl] at ht; exact ⟨by omega, ht⟩
  · rw [if_neg h8] at ht; exact ht
theorem eqD_shut {h h' : Hd} {k k' : Fo} (ho : oneB h h' = true) (h1 : h.kind = 8 → k.len = k'.len ∧ (equalF k k').1 = true) (h2 : h.kind ≠ 8 → (equalH h h').1 = true) : (equalD h k h' k').1 = true := by
  unfold equalD
  rw [if_neg (by rw [ho]; simp)]
  by_cases h8 : h.kind = 8
  · rw [if_pos h8, if_neg (by have := (h1 h8).1; omega)]; exact (h1 h8).2
  · rw [if_neg h8]; exact h2 h8
theorem eqD_trans' {a b c : Hd} {k l m : Fo} (hF : k.len = l.len → l.len = m.len → (equalF k l).1 = true → (equalF l m).1 = true → (equalF k m).1 = true) (h1 : (equalD a k b l).1 = true) (h2 : (equalD b l c m).1 = true) : (equalD a k c m).1 = true := by
  obtain ⟨p1, p2, p3⟩ := eqD_open h1
  obtain ⟨q1, q2, q3⟩ := eqD_open h2
  have hk := (oneB_parts p1).1
  refine eqD_shut (oneB_trans p1 q1) (fun h8 => ?_) (fun h8 => equalH_trans p1 (p3 h8) (q3 (by omega)))
  obtain ⟨x1, x2⟩ := p2 h8
  obtain ⟨y1, y2⟩ := q2 (by omega)
  exact ⟨x1.trans y1, hF x1 y1 x2 y2⟩
theorem eqF_trans : ∀ (f g m : Fo), f.len = g.len → g.len = m.len → (equalF f g).1 = true → (equalF g m).1 = true → (equalF f m).1 = true
  | .nil, g, m, _, _, _, _ => by simp [equalF]
  | .cons h k r, .nil, m, l1, _, _, _ => by simp [Fo.len] at l1
  | .cons h k r, .cons h' k' r', .nil, _, l2, _, _ => by simp [Fo.len] at l2
  | .cons h k r, .cons h' k' r', .cons h2 k2 r2, l1, l2, e1, e2 => by
    simp only [Fo.len, Nat.add_right_cancel_iff] at l1 l2
    rw [equalF_cons] at e1 e2 ⊢
    by_cases t1 : (equalD h k h' k').1 = true
    · rw [if_pos t1] at e1
      by_cases t2 : (equalD h' k' h2 k2).1 = true
      · rw [if_pos t2] at e2
        rw [if_pos (eqD_trans' (eqF_trans k k' k2) t1 t2)]
        exact eqF_trans r r' r2 l1 l2 e1 e2
      · rw [if_neg t2] at e2; cases e2
    · rw [if_neg t1] at e1; cases e1
theorem eqD_trans {a b c : Hd} {k l m : Fo} (h1 : (equalD a k b l).1 = true) (h2 : (equalD b l c m).1 = true) : (equalD a k c m).1 = true := eqD_trans' (eqF_trans k l m) h1 h2

theorem own_H {h : Hd} {n : Nat} (hh : headB h n = true) (hb : brH h = false) : (equalH h h).1 = decide ((equalH h h).2 = emp) := by
  obtain ⟨_, _, _, _, ant⟩ := head_facts hh
  unfold equalH
  by_cases h3 : h.kind = 3
  · rw [if_pos h3]
    unfold brH at hb
    rw [decide_eq_true h3] at hb
    have hb : nanB h.f.toNat = false := by simpa using hb
    rw [feq_mk hb hb rfl, decide_eq_true rfl]
  rw [if_neg h3]
  by_cases h5 : h.kind = 5 ∨ h.kind = 6 ∨ h.kind = 7
  · rw [if_pos h5, decide_eq_false (named_type ant h5)]
  rw [if_neg h5]
  by_cases h9 : h.kind = 9
  · rw [if_pos h9]; simp
  · rw [if_neg h9]; simp
theorem own_D' {h : Hd} {k : Fo} (hh : headB h k.len = true) (hb : brD h k = false) (hF : (equalF k k).1 = decide ((equalF k k).2 = emp)) : (equalD h k h k).1 = decide ((equalD h k h k).2 = emp) := by
  unfold brD at hb
  rw [Bool.or_eq_false_iff] at hb
  unfold equalD
  rw [if_neg (by rw [oneB_refl]; simp)]
  by_cases h8 : h.kind = 8
  · rw [if_pos h8, if_neg (by simp)]; exact hF
  · rw [if_neg h8]; exact own_H hh hb.1
theorem own_F : ∀ f : Fo, okF f = true → brF f = false → (equalF f f).1 = decide ((equalF f f).2 = emp)
  | .nil, _, _ => by simp [equalF]
  | .cons h k r, o, b => by
    simp only [okF, Bool.and_eq_true] at o
    rw [brF_cons, Bool.or_eq_false_iff] at b
    have hk : brF k = false := by have := b.1; unfold brD at this; rw [Bool.or_eq_false_iff] at this; exact this.2
    have hd := own_D' o.1.1 b.1 (own_F k o.1.2 hk)
    rw [equalF_cons]
    by_cases ht : (equalD h k h k).1 = true
    · rw [if_pos ht]; exact own_F r o.2 b.2
    · rw [if_neg ht]
      have hf : (equalD h k h k).1 = false := by revert ht; cases (equalD h k h k).1 <;> simp
      rw [hf] at hd
      exact hd
theorem own_D {h : Hd} {k : Fo} (hr : rightB h k = true) (hb : brD h k = false) : (equalD h k h k).1 = decide ((equalD h k h k).2 = emp) := by
  obtain ⟨h1, h2⟩ := right_ok hr
  have hk : brF k = false := by have := hb; unfold brD at this; rw [Bool.or_eq_false_iff] at this; exact this.2
  exact own_D' h1 hb (own_F k h2 hk)
theorem sameHd_eq {h h' : Hd} (e : sameHd h h' = true) (hp : decide (h.path = h'.path) = true) : h = h' := by
  unfold sameHd at e
  simp only [Bool.and_eq_true, beq_iff_eq, decide_eq_true_iff] at e hp
  obtain ⟨ho, e1, e2, e3, e4, e5, e6, e7⟩ := e
  obtain ⟨o1, o2⟩ := oneB_parts ho
  obtain ⟨a1, a2, a3, a4, a5, a6, a7, a8, a9, a10⟩ := h
  obtain ⟨b1, b2, b3, b4, b5, b6, b7, b8, b9, b10⟩ := h'
  simp only at o1 o2 e1 e2 e3 e4 e5 e6 e7 hp
  subst o1 o2 e1 e2 e3 e4 e5 e6 e7 hp
  rfl
theorem sameF_eq : ∀ f g : Fo, sameF f g = true → f = g
  | .nil, .nil, _ => rfl
  | .nil, .cons .., e => by simp [sameF] at e
  | .cons .., .nil, e => by simp [sameF] at e
  | .cons h k r, .cons h' k' r', e => by
    simp only [sameF, Bool.and_eq_true] at e
    rw [sameHd_eq e.1.1.1 e.1.1.2, sameF_eq k k' e.1.2, sameF_eq r r' e.2]
theorem sameD_eq {h h' : Hd} {k k' : Fo} (e : sameD h k h' k' = true) : h = h' ∧ k = k' := by
  unfold sameD at e
  simp only [Bool.and_eq_true] at e
  exact ⟨sameHd_eq e.1.1 e.1.2, sameF_eq k k' e.2⟩

/-- Of one right datum. -/
theorem alike_one {h : Hd} {k : Fo} (hr : rightB h k = true) : (eqEr h k h k = .ok ↔ keyEr h k = .ok) ∧ (brD h k = false → (eqAns h k h k = true ↔ eqEr h k h k = .ok)) := by
  have hb : (rightB h k && rightB h k) = true := by rw [hr]; rfl
  have hkh := key_held hr
  have e1 : eqEr h k h k = .ok ↔ heldS h k = emp := by
    unfold eqEr
    rw [if_pos hb]
    show (if heldS h k = emp then Er.ok else .fault cmpW (heldS h k)) = .ok ↔ _
    by_cases he : heldS h k = emp
    · rw [if_pos he]; simp [he]
    · rw [if_neg he]; simp [he]
  refine ⟨?_, fun hn => ?_⟩
  · rw [e1]
    unfold keyEr
    rw [if_pos hr]
    by_cases he : heldS h k = emp
    · rw [decide_eq_true he] at hkh; rw [if_pos hkh]; simp [he]
    · rw [decide_eq_false he] at hkh; rw [if_neg (by rw [hkh]; simp)]; simp [he]
  · rw [e1]
    unfold eqAns
    rw [hb, Bool.true_and, own_D hr hn, decide_eq_true_iff]
    exact Iff.rfl
/-- Of two right data. -/
theorem alike_two {h h' : Hd} {k k' : Fo} (o : h.ok) (o' : h'.ok) (ok_ : k.ok) (ok' : k'.ok) (h1 : rightB h k = true) (h2 : rightB h' k' = true) :
    eqAns h k h' k' = eqAns h' k' h k ∧ eqEr h k h' k' = eqEr h' k' h k ∧ (eqAns h k h' k' = true → keyEr h k = .ok ∧ keyEr h' k' = .ok ∧ keyN h k = keyN h' k') ∧
    (sameD h k h' k' = true → brD h k = false → eqEr h k h k = .ok → eqAns h k h' k' = true) := by
  have hb : (rightB h k && rightB h' k') = true := by rw [h1, h2]; rfl
  have hb' : (rightB h' k' && rightB h k) = true := by rw [h1, h2]; rfl
  refine ⟨?_, ?_, fun ha => ?_, fun hs hn he => ?_⟩
  · unfold eqAns; rw [hb, hb', equalD_symm]
  · unfold eqEr; rw [hb, hb', equalD_symm]
  · unfold eqAns at ha
    rw [hb, Bool.true_and] at ha
    have k2 := key_equal h2 ha
    have ha' : (equalD h' k' h k).1 = true := by rw [← equalD_symm]; exact ha
    have k1 := key_equal h1 ha'
    refine ⟨by unfold keyEr; rw [if_pos h1, if_pos k1], by unfold keyEr; rw [if_pos h2, if_pos k2], ?_⟩
    unfold keyN
    rw [h1, h2, k1, k2]
    exact hashV_eq o o' ok_ ok' h1 h2 ha
  · obtain ⟨e1, e2⟩ := sameD_eq hs
    rw [← e1, ← e2]
    exact ((alike_one h1).2 hn).2 he
theorem alike_three {a b c : Hd} {k l m : Fo} (h1 : rightB a k = true) (h3 : rightB c m = true) (x : eqAns a k b l = true) (y : eqAns b l c m = true) : eqAns a k c m = true := by
  unfold eqAns at *
  rw [Bool.and_eq_true] at x y
  rw [h1, h3, Bool.true_and, Bool.true_and]
  exact eqD_trans x.2 y.2
theorem right_of {h : Hd} {k : Fo} (hh : headB h k.len = true) (hk : okF k = true) (hc : cntF k ≤ 99) : rightB h k = true := by
  unfold rightB rightD
  rw [if_neg (by decide), if_neg (by rw [hh]; simp), (rightF_ok k _ (by decide)).1, hk, decide_eq_true (show (cntF k : Int) ≤ 100 - 1 by omega)]
  rfl
section
variable {P : Program} {ops : Array Oper} {md : Region.Mode} {C : World → Prop}

/-- May the others come up in this order, each alone, and then the reading ones 'ks'? -/
def lexF2 (md : Region.Mode) (ops : Array Oper) (n g : Nat) (ks : List Nat) : List Nat → Array Bool → Bool
  | [], done => lexE md ops n g [] ks done
  | j :: js, done => decide (Region.ready md ops done = [j]) && decide (j < n) && lexF2 md ops n g ks js (done.setIfInBounds j true)
def lexF (md : Region.Mode) (ops : Array Oper) (n g : Nat) (ks js : List Nat) : List Nat → Array Bool → Bool
  | [], done => lexF2 md ops n g ks js done
  | i :: is, done => (Region.ready md ops done).contains i && decide (i < n) && Region.free md ops done i && lexF md ops n g ks js is (done.setIfInBounds i true)

/-- What is asked behind the others: the reading ones at the world that stands, then T. -/
def backC (P : Program) (ops : Array Oper) (C : World → Prop) (T : Act → World → Prop) (lk : List Oper) (a : Act) (w : World) : Prop :=
  wpP P ops C (fun a' => C w ∧ T a' w) lk a

theorem headC_eff2 {Q : Exit → Act → World → Prop} {n g : Nat} {T : Act → World → Prop} (hQ : ∀ c a b w, Q (.panic c) a w → Q (.panic c) b w) (hsel : Region.noSelect ops = true) (hs : Region.sinkB md ops n = true) (hc : Region.chainB md ops n = true) (hn : n < ops.size) (ks : List Nat) (lk : List Oper) (hk : ks.map (fun i => ops[i]?) = lk.map some) (js : List Nat) : ∀ (l : List Oper) (done : Array Bool) (a : Act) (w : World), js.map (fun i => ops[i]?) = l.map some → HeadInv md ops n done → lexF2 md ops n g ks js done = true → effC P ops C (backC P ops C T lk) l a w →
    headC P md ops C Q n (fun d a' w' => Region.seqB md ops g n d = true ∧ T a' w') (js.length + ks.length) done a w := by
  induction js with
  | nil =>
    intro l done a w hl inv hB h
    cases l with
    | cons o l => simp at hl
    | nil =>
      have := headC_text (P := P) (md := md) (C := C) (Q := Q) (T := T) (g := g) (lj := []) hQ hsel hs hc hn [] rfl w ks lk done a hk inv hB h.2
      simpa using this
  | cons j js ih =>
    intro l done a w hl inv hB h
    cases l with
    | nil => simp at hl
    | cons o l =>
      simp only [List.map_cons, List.cons.injEq] at hl
      simp only [lexF2, Bool.and_eq_true, decide_eq_true_eq] at hB
      obtain ⟨⟨hr, hjn⟩, hB2⟩ := hB
      rw [List.length_cons, Nat.add_right_comm]
      refine ⟨h.1, by rw [hr]; simp, fun i hi => ?_⟩
      rw [hr] at hi
      have hij : i = j := by simpa using hi
      subst hij
      exact ⟨hjn, wpOp_of_list hl.1 (fun b u hb => ih l _ b u hl.2 (inv.set (by rw [hr]; simp) hjn) hB2 hb) h.2⟩
theorem headC_text2 {Q : Exit → Act → World → Prop} {n g : Nat} {T : Act → World → Prop} {lj lk : List Oper} (hQ : ∀ c a b w, Q (.panic c) a w → Q (.panic c) b w) (hsel : Region.noSelect ops = true) (hs : Region.sinkB md ops n = true) (hc : Region.chainB md ops n = true) (hn : n < ops.size) (ks : List Nat) (hk : ks.map (fun i => ops[i]?) = lk.map some) (js : List Nat) (hj : js.map (fun i => ops[i]?) = lj.map some) (w : World) (is : List Nat) :
    ∀ (l : List Oper) (done : Array Bool) (a : Act), is.map (fun i => ops[i]?) = l.map some → HeadInv md ops n done → lexF md ops n g ks js is done = true → wpP P ops C (fun a' => effC P ops C (backC P ops C T lk) lj a' w) l a →
      headC P md ops C Q n (fun d a' w' => Region.seqB md ops g n d = true ∧ T a' w') (is.length + (js.length + ks.length)) done a w := by
  induction is with
  | nil =>
    intro l done a hl inv hB h
    cases l with
    | cons o l => simp at hl
    | nil => rw [List.length_nil, Nat.zero_add]; exact headC_eff2 hQ hsel hs hc hn ks lk hk js lj done a w hj inv hB h
  | cons i is ih =>
    intro l done a hl inv hB h
    cases l with
    | nil => simp at hl
    | cons o l =>
      simp only [List.map_cons, List.cons.injEq] at hl
      simp only [lexF, Bool.and_eq_true, decide_eq_true_eq] at hB
      obtain ⟨⟨⟨hr, hin⟩, hf⟩, hB2⟩ := hB
      have hr2 : i ∈ Region.ready md ops done := by simpa using hr
      obtain ⟨v, hy, hK⟩ := h
      rw [List.length_cons, Nat.add_right_comm]
      exact headC_first (fun c a w => hQ c _ _ w) hl.1 (Region.noSelect_spec hsel) hs hc hn hin (fun d a' w' hd => seqB_ready hd.1) (is.length + (js.length + ks.length)) done a w inv (Region.free_spec hl.1 hf) hr2 hy
        (ih l _ _ hl.2 (inv.set hr2 hin) hB2 hK)
end

/-- The region: reading operations 'is', then 'js', then reading operations 'ks', then the others in their order. -/
theorem wp_region_eff2 {P : Program} {id : Nat} {Q : Exit → Act → World → Prop} {a : Act} {w : World} {l : List Oper} (C : World → Prop) (is js ks : List Nat) (li lj lk lt : List Oper) (n : Nat) (hm : P.follows .mixedOrders = true)
    (hli : is.map (fun i => l.toArray[i]?) = li.map some) (hlj : js.map (fun i => l.toArray[i]?) = lj.map some) (hlk : ks.map (fun i => l.toArray[i]?) = lk.map some) (hst : l.drop n = lt) (hlen : is.length + (js.length + ks.length) = n)
    (hB : (Region.noSelect l.toArray && decide (n < l.length) && Region.sinkB .any l.toArray n && Region.chainB .any l.toArray n && lexF .any l.toArray n (l.length - n) ks js is (Array.replicate l.length false)) = true)
    (h : wpP P l.toArray C (fun a' => effC P l.toArray C (backC P l.toArray C (fun b u => wpList P l.toArray (outQ (Q .normal)) lt b u) lk) lj a' { w with drawn := w.drawn + 1 }) li a) : (Code.region id l.toArray true).wp P Q a w := by
  simp only [Bool.and_eq_true, decide_eq_true_eq] at hB
  obtain ⟨⟨⟨⟨hsel, hn⟩, hs⟩, hc⟩, hlex⟩ := hB
  have hn2 : n < l.toArray.size := by simpa using hn
  have inv : HeadInv .any l.toArray n (Array.replicate l.length false) :=
    ⟨by simp, fun j oj _ hl => (by rw [getD_replicate_false] at hl; cases hl), fun t _ ht => getD_in (by simpa using ht) (getD_replicate_false _ _)⟩
  have H := headC_text2 (P := P) (md := .any) (C := C) (Q := NoPanic Q) (T := fun b u => wpList P l.toArray (outQ (Q .normal)) lt b u) (g := l.length - n) (fun c a b w h => h) hsel hs hc hn2 ks hlk js hlj { w with drawn := w.drawn + 1 } is li _ a hli inv hlex h
  refine wp_region_noPanic (wp_region_any hm ?_)
  have hdl : (l.drop n).length = l.length - n := by simp
  have := headC_any (Q := NoPanic Q) (g := l.length - n) (fun done a' w' hL => by
    have hw : wpList P l.toArray (NoPanic Q) (l.drop n) a' w' := by
      rw [hst]
      exact wpList_weaken (fun _ _ h => h) lt a' w' hL.2
    have := wpAny_of_seq (md := .any) (Q' := NoPanic Q) (l.drop n) n done a' w' (fun j => by simp [List.getElem?_drop]) (by rw [hdl]; exact hL.1) hw
    rwa [hdl] at this) _ _ a _ H
  rw [hlen, show n + (l.length - n) = l.toArray.size by simp; omega] at this
  exact this

/-- A call on one Maker leaves another. -/
theorem Mk.other {w w' : World} {g g' B : Nat} {a : Int} (hm : Mk w g B a) (hg : w.grownBy w' (some g')) (hne : g ≠ g') (hB : B ≤ g') : Mk w' g B a := by
  have hl := hm.lt
  obtain ⟨ra, l, rc, h1, h2, h3, h4, h5, h6⟩ := hm
  exact ⟨ra, l, rc, h1.grown hg (by simp; omega), h2.keep (fun b hb hlt => hg.block b hlt (by have : b < B := hb; simp; omega)) (fun _ h _ => h), h3, h4, h5, h6⟩

/-- A made datum: what it is, and where it lies. -/
structure Md where
  h : Hd
  k : Fo
  pa : Option Addr
  pc : Nat
  ia : Option Addr
  ic : Nat
def Md.cells (d : Md) : Array Value := d.h.cells d.pa d.pc d.ia d.k.len d.ic
def Md.At (d : Md) (w : World) (S : Nat → Prop) : Prop := DatAt w S d.h d.k d.pa d.pc d.ia d.ic
structure Md.Good (d : Md) : Prop where
  ho : d.h.ok
  ko : d.k.ok
  hl : d.k.len ≤ 1034834473170
  right : rightB d.h d.k = true
/-- Three data one behind the other, in old memory. -/
def RowM (w : World) (g : Nat) (xs : Nat → Md) : Prop := ∀ i, i < 3 → CellsAt w g (i * 11) (xs i).cells ∧ (xs i).At w (fun b => b < w.heap.size)
theorem RowM.below {w w' : World} {g : Nat} {xs : Nat → Md} (h : RowM w g xs) (hb : Below w.heap.size w w') : RowM w' g xs := fun i hi =>
  ⟨(h i hi).1.below hb (cell_lt ((h i hi).1 0 _ rfl)), (h i hi).2.keep (fun b hB _ => hb.block b hB) (fun _b hB _ => Nat.lt_of_lt_of_le hB hb.size)⟩

theorem equalA_any {d e : Md} (hd : d.Good) (he : e.Good) (w : World) (hown : OwnAt w) (h1 : d.At w (fun b => b < w.heap.size)) (h2 : e.At w (fun b => b < w.heap.size)) :
    Calls Tryd.prog 21 #[.agg d.cells, .agg e.cells] w fun x w' => ∃ v, x = .returned (.tuple #[.bool (eqAns d.h d.k e.h e.k), v]) ∧ ErrAt w w' v (eqEr d.h d.k e.h e.k) ∧ Below w.heap.size w w' :=
  (Equal_any d.h d.k e.h e.k hd.ho hd.ko he.ho he.ko w _ _ _ _ _ _ _ _ _ _ h1 h2 hown).mono fun _ _ hp => equal_post hp
theorem keyA_any {d : Md} (hd : d.Good) (w : World) (hown : OwnAt w) (h1 : d.At w (fun b => b < w.heap.size)) :
    Calls Tryd.prog 25 #[.agg d.cells] w fun x w' => ∃ v, x = .returned v ∧ ErrAt w w' v (keyEr d.h d.k) ∧ Below w.heap.size w w' :=
  (key_any d.h d.k hd.ho hd.ko hd.hl w _ _ _ _ _ h1 hown).mono fun _ _ ⟨hb, v, e, hv⟩ => ⟨v, e, key_err hv, hb⟩
theorem hashA_any {d : Md} (hd : d.Good) (w : World) (hown : OwnAt w) (h1 : d.At w (fun b => b < w.heap.size)) :
    Calls Tryd.prog 26 #[.agg d.cells] w fun x w' => ∃ v, x = .returned (.tuple #[.int .u64 (keyN d.h d.k), v]) ∧ ErrAt w w' v (keyEr d.h d.k) ∧ Below w.heap.size w w' :=
  (Hash_any d.h d.k hd.ho hd.ko hd.hl w _ _ _ _ _ h1 hown).mono fun _ _ ⟨hb, n, v, e, hv, hn⟩ => ⟨v, by rw [e, hn]; rfl, key_err hv, hb⟩
theorem rightA_any {d : Md} (hd : d.Good) (w : World) (hown : OwnAt w) (h1 : d.At w (fun b => b < w.heap.size)) :
    Calls Tryd.prog 16 #[.agg d.cells] w fun x w' => x = .returned (.bool true) ∧ Below w.heap.size w w' :=
  (Right_any d.h d.k hd.ho hd.ko w _ _ _ _ _ h1 hown).mono fun _ _ ⟨e, hb⟩ => ⟨by rw [e, hd.right], hb⟩
theorem brokenA_any {d : Md} (hd : d.Good) (w : World) (h1 : d.At w (fun b => b < w.heap.size)) :
    Calls Tryd.prog 33 #[.agg d.cells] w fun x w' => x = .returned (.bool (brD d.h d.k)) ∧ Below w.heap.size w w' :=
  broken_any d.h d.k hd.ho hd.ko hd.hl w _ _ _ _ _ h1
theorem sameA_any {d e : Md} (hd : d.Good) (he : e.Good) (w : World) (h1 : d.At w (fun b => b < w.heap.size)) (h2 : e.At w (fun b => b < w.heap.size)) :
    Calls Tryd.prog 30 #[.agg d.cells, .agg e.cells] w fun x w' => x = .returned (.bool (sameD d.h d.k e.h e.k)) ∧ Below w.heap.size w w' :=
  same_any d.h d.k e.h e.k hd.ho hd.ko hd.hl he.ho he.ko he.hl w _ _ _ _ _ _ _ _ _ _ h1 h2
/-- What the law's made hands back. -/
theorem madeA_any (g B : Nat) (a : Int) (w : World) (ha : a ≤ 1000) (hm : Mk w g B a) :
    Calls Tryd.prog 32 #[.pointer (some ⟨g, 0, none⟩), .int .i64 0] w fun x w' => ∃ d : Md, x = .returned (.agg d.cells) ∧ d.Good ∧ d.At w' (fun b => w.heap.size ≤ b ∧ b < w'.heap.size) ∧ w.grownBy w' (some g) := by
  have h3 := made_all 3 (Nat.le_refl _) g B a w (by have : aM 3 = 426 := rfl; omega) hm
  rw [show ((3 : Int) - ((3 : Nat) : Int)) = 0 from rfl] at h3
  refine h3.mono ?_
  rintro x w' ⟨h, k, pa, pc, ia, ic, e, hd, ho, ko, kl, hh, hk, hc, _, hg⟩
  refine ⟨⟨h, k, pa, pc, ia, ic⟩, e, ⟨ho, ko, by show k.len ≤ _; omega, right_of hh hk (Nat.le_trans hc (by decide))⟩, hd.keep (fun _ _ _ => rfl) (fun b hb hlt => ⟨hb, hlt⟩), hg⟩
theorem Md.At.other {d : Md} {w w' : World} {n m g : Nat} (h : d.At w (fun b => n ≤ b ∧ b < m)) (hg : w.grownBy w' (some g)) (hn : g < n) : d.At w' (fun b => n ≤ b ∧ b < m) :=
  h.keep (fun b hb hlt => hg.block b hlt (by have := hb.1; simp; omega)) (fun _ h _ => h)
theorem Md.At.top {d : Md} {w : World} {n m : Nat} (h : d.At w (fun b => n ≤ b ∧ b < m)) (_hm : m ≤ w.heap.size) (o : Obj) : d.At (w.alloc o) (fun b => b < (w.alloc o).heap.size) :=
  h.keep (fun b _ hlt => Below.heap_alloc _ _ _ hlt) (fun b hb _ => by have := hb.2; simp; omega)
theorem cellsM_size (d : Md) : d.cells.size = 11 := by simp [Md.cells, Hd.cells]
theorem rowM_of {w : World} {g : Nat} {t : TypeId} {a b c : Md} (hB : Blk w g t (a.cells ++ (b.cells ++ c.cells))) (ha : a.At w (fun b => b < w.heap.size)) (hb : b.At w (fun b => b < w.heap.size)) (hc : c.At w (fun b => b < w.heap.size)) :
    RowM w g (fun i => if i = 0 then a else if i = 1 then b else c) := by
  have hj : ∀ (h : Md) (j : Nat) (v : Value), h.cells[j]? = some v → j < 11 := fun h j v e => by
    rcases Nat.lt_or_ge j 11 with h1 | h1
    · exact h1
    · rw [Array.getElem?_eq_none (by rw [cellsM_size]; exact h1)] at e; cases e
  intro i hi
  have h3 : i = 0 ∨ i = 1 ∨ i = 2 := by omega
  rcases h3 with rfl | rfl | rfl
  · refine ⟨fun j v hv => ?_, ha⟩
    rw [hB.cell]
    have hv : a.cells[j]? = some v := hv
    have := hj a j v hv
    rw [Array.getElem?_append_left (by rw [cellsM_size]; omega), Nat.zero_mul, Nat.zero_add]
    exact hv
  · refine ⟨fun j v hv => ?_, hb⟩
    rw [hB.cell]
    have hv : b.cells[j]? = some v := hv
    have := hj b j v hv
    rw [Array.getElem?_append_right (by rw [cellsM_size]; omega), cellsM_size, Array.getElem?_append_left (by rw [cellsM_size]; omega), show 1 * 11 + j - 11 = j by omega]
    exact hv
  · refine ⟨fun j v hv => ?_, hc⟩
    rw [hB.cell]
    have hv : c.cells[j]? = some v := hv
    have := hj c j v hv
    rw [Array.getElem?_append_right (by rw [cellsM_size]; omega), cellsM_size, Array.getElem?_append_right (by rw [cellsM_size]; omega), cellsM_size, show 2 * 11 + j - 11 - 11 = j by omega]
    exact hv
theorem good_row {a b c : Md} (ha : a.Good) (hb : b.Good) (hc : c.Good) : ∀ i, i < 3 → ((fun i => if i = 0 then a else if i = 1 then b else c) i).Good := by
  intro i hi
  have h3 : i = 0 ∨ i = 1 ∨ i = 2 := by omega
  rcases h3 with rfl | rfl | rfl
  · exact ha
  · exact hb
  · exact hc
/-- A slice of raw numbers, in old memory. -/
def RawAt (w : World) (r : Option Addr) (l : List Int) : Prop := l.length ≤ 17592186043904 ∧ (∀ (j : Nat) (x : Int), l[j]? = some x → okInt x) ∧ PathAt w (fun b => b < w.heap.size) r l
theorem RawAt.mk_new {w w1 : World} {r : Option Addr} {l : List Int} {c : Nat} (h : RawAt w r l) (hb : Below w.heap.size w w1) : Mk (w1.alloc (.cells #[.slice r l.length c, .int .i64 0] 60)) w1.heap.size w.heap.size 0 :=
  ⟨r, l, c, Blk.new _ _ _, h.2.2.keep (fun b hb' _ => (Below.heap_alloc _ _ _ (Nat.lt_of_lt_of_le hb' hb.size)).trans (hb.block b hb')) (fun _ h _ => h), h.2.1, h.1, by omega, hb.size⟩
/-- What is asked of an error: nil, or an interface that holds something. -/
def ErrV (v : Value) (e : Er) : Prop := (e = .ok ∧ v = .nilIface) ∨ (e ≠ .ok ∧ ∃ t g, v = .iface t (.pointer (some ⟨g, 0, none⟩)))
theorem err_v {w w' : World} {v : Value} {e : Er} (h : ErrAt w w' v e) : ErrV v e := by
  cases e with
  | ok => exact .inl ⟨rfl, h⟩
  | wrong => obtain ⟨g, h, _⟩ := h; exact .inr ⟨by simp, _, g, h⟩
  | fault a b => obtain ⟨g, h, _⟩ := h; exact .inr ⟨by simp, _, g, h⟩
theorem bl_grown {w w1 w2 : World} {g : Nat} (hb : Below w.heap.size w w1) (hg : w1.grownBy w2 (some g)) (hle : w.heap.size ≤ g) : Below w.heap.size w w2 :=
  ⟨hg.os.trans hb.os, hg.tape.trans hb.tape, hg.output.trans hb.output, Nat.le_trans hb.size hg.size, fun k hk => (hg.block k (Nat.lt_of_lt_of_le hk hb.size) (by simp; omega)).trans (hb.block k hk)⟩
theorem below_drawn (w : World) : Below w.heap.size w { w with drawn := w.drawn + 1 } := ⟨rfl, rfl, rfl, Nat.le_refl _, fun _ _ => rfl⟩
end Go.Proofs.YthdmmhiifkebeaaDoor
