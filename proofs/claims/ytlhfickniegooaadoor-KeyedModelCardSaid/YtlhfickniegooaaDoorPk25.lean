/-
  KeyedNever: what its range tells. Contract of KeyedNever. KeyedNever answers true. The keys of KeyedModel: right, and told apart by their numbers. Written by an AI agent.
-/
import Derived.Test.YtlhfickniegooaaDoorPk24
namespace Go.Proofs.YtlhfickniegooaaDoor
open Go.RowKit
set_option maxRecDepth 100000

theorem cN_append (L M : List (Option Int × Dt)) : cN (L ++ M) = cN L + cN M := by unfold cN; rw [List.map_append, List.countP_append]
theorem cN_step {M : List (Option Int × Dt)} {b : Nat} {p : Option Int × Dt} (h : M[b]? = some p) : cN (M.take (b + 1)) = cN (M.take b) + (if p.1.isNone = true then 1 else 0) := by
  rw [List.take_add_one, h, cN_append]
  congr 1
  unfold cN
  simp only [Option.toList_some, List.map_cons, List.map_nil, List.countP_cons, List.countP_nil]
  omega
theorem cN_stay {M : List (Option Int × Dt)} {a : Nat} : ∀ (n : Nat), (∀ i p, a ≤ i → i < a + n → M[i]? = some p → p.1 ≠ none) → cN (M.take (a + n)) = cN (M.take a)
  | 0, _ => rfl
  | n + 1, h => by
    have ih := cN_stay n (fun i p h1 h2 h3 => h i p h1 (by omega) h3)
    rw [show a + (n + 1) = (a + n) + 1 by omega]
    cases hp : M[a + n]? with
    | none => rw [List.take_add_one, hp]; simpa using ih
    | some p =>
      have := h (a + n) p (by omega) (by omega) hp
      rw [cN_step hp, ih, if_neg (by cases hq : p.1 with | none => exact absurd hq this | some _ => simp), Nat.add_zero]
theorem cN_take {M : List (Option Int × Dt)} {a b : Nat} (hab : a ≤ b) (h : ∀ i p, a ≤ i → i < b → M[i]? = some p → p.1 ≠ none) : cN (M.take b) = cN (M.take a) := by
  obtain ⟨n, rfl⟩ : ∃ n, b = a + n := ⟨b - a, by omega⟩
  exact cN_stay n h
theorem cN_rev (L : List (Option Int × Dt)) : cN L.reverse = cN L := by unfold cN; rw [List.map_reverse]; exact List.countP_reverse
theorem cN_all {L : List (Option Int × Dt)} (h : ∀ p ∈ L, p.1 = none) : cN L = L.length := by
  unfold cN
  have e : (L.map (·.1)).countP (·.isNone) = (L.map (·.1)).length := List.countP_eq_length.2 (fun a ha => by
    obtain ⟨p, hp, rfl⟩ := List.mem_map.1 ha
    rw [h p hp]
    rfl)
  rw [e, List.length_map]
/-- What is so between two rounds. -/
structure PI (R0 : List En) (L0 : List (Option Int × Dt)) (cn : Nat) (R : List En) (L : List (Option Int × Dt)) (pre : List Wn) (tn : Nat) : Prop where
  start : pre = [] → R = R0 ∧ L = L0
  after : pre ≠ [] → ∀ p ∈ L, p.1 = none
  sub : ∀ p ∈ L, p ∈ L0
  cnt : cN L = cn
  len : L.length ≤ 100
  told : tn = cN (L0.reverse.take (nx pre))
section
variable {nan : Dt} {xs : List Int} {N cn : Nat} {R0 R : List En} {L0 L : List (Option Int × Dt)} {pre : List Wn} {tn : Nat}
theorem gone_some (hn : NanOk nan) (hK0 : KeysOk R0) (h0 : Rep (kdN nan) R0 L0) {lo hi : Nat} (hg : GoneB R R0 lo hi) : ∀ i p, lo ≤ i → i < hi → L0.reverse[i]? = some p → p.1 ≠ none := fun i p h1 h2 hp hne => by
  have hlen := h0.len
  have hi' : i < R0.reverse.length := by
    have := (List.getElem?_eq_some_iff.1 hp).1
    simp only [List.length_reverse] at this ⊢
    omega
  obtain ⟨e, he⟩ : ∃ e, R0.reverse[i]? = some e := ⟨R0.reverse[i], List.getElem?_eq_getElem hi'⟩
  obtain ⟨q, hq, hk, _⟩ := h0.rev.at he
  rw [hp] at hq
  injection hq with hq
  subst hq
  have heR : e ∈ R0 := by simpa using List.mem_of_getElem? he
  have := rep_own (fam_nan hn) hK0 heR hk
  rw [hne] at this
  have h3 := (hg i e h1 h2 he).1
  rw [this] at h3
  cases h3
/-- One round: the key that is equal to none, or a whole with itself. -/
theorem pi_round (hn : NanOk nan) (hK0 : KeysOk R0) (hK : KeysOk R) (h0 : Rep (kdN nan) R0 L0) (hR : Rep (kdN nan) R L) (hN : NI xs N cn L0) (hP : PI R0 L0 cn R L pre tn) {x : Wn} {Hd : Nat → Prop} {A : World} (hy : WalkY (fun R : List En => R) R0 R pre x Hd A) :
    (x.h.k = nan ∧ tn + 1 = cN (L0.reverse.take (x.j + 1)) ∧ (∃ e ∈ R0, x.h.v = e.val)) ∨ (∃ (n : Int) (i : Nat), xs[i]? = some n ∧ x.h.k = wholeD n ∧ x.h.v = wholeD n ∧ tn = cN (L0.reverse.take (x.j + 1))) := by
  obtain ⟨⟨e, he, hx⟩, hle, hg, _⟩ := hy
  obtain ⟨p, hp, hk, hv⟩ := h0.rev.at he
  have heR : e ∈ R0 := by simpa using List.mem_of_getElem? he
  have ho := rep_own (fam_nan hn) hK0 heR hk
  have ht : cN (L0.reverse.take x.j) = tn := by
    rw [hP.told]
    exact cN_take hle (gone_some hn hK0 h0 hg)
  rw [cN_step hp, ht]
  cases hp1 : p.1 with
  | none =>
    rw [hp1] at ho hk
    rw [ho, if_neg (by simp)] at hx
    exact .inl ⟨hx.1.trans hk, by simp, e, heR, hx.2⟩
  | some n =>
    rw [hp1] at ho hk
    rw [ho, if_pos (by simp), hk] at hx
    obtain ⟨f, hf, h1, h2⟩ := hx
    have hin : some n ∈ L.map (·.1) := Classical.byContradiction fun q => by
      have := rep_none (fam_nan hn) hK hR (i := some n) (fun h => q h.2)
      rw [hf] at this
      cases this
    obtain ⟨f', v, hf', k1, k2, hm⟩ := rep_has (fam_nan hn) hK hR (i := some n) rfl hin
    rw [hf] at hf'
    injection hf' with hf'
    subst hf'
    rcases hN.val _ (hP.sub _ hm) with q | ⟨y, i, q1, q2, _, q4, _⟩
    · cases q
    · injection q1 with q1
      subst q1
      exact .inr ⟨n, i, q4, h1.trans k1, h2.trans (k2.trans q2), by simp⟩
/-- At the end: as many were told as there are, and no others are left. -/
theorem pi_end (hn : NanOk nan) (hK0 : KeysOk R0) (h0 : Rep (kdN nan) R0 L0) (hR : Rep (kdN nan) R L) (hN : NI xs N cn L0) (hP : PI R0 L0 cn R L pre tn) {A : World} (he : WalkE (fun R : List En => R) R0 R pre A) : tn = cn ∧ R.length = cn := by
  have hg : GoneB R R0 (nx pre) R0.length := he
  have hlen := h0.len
  constructor
  · rw [hP.told, ← hN.cnt, ← cN_rev L0]
    rcases Nat.le_total (nx pre) R0.length with q | q
    · rw [← cN_take q (gone_some hn hK0 h0 hg), List.take_of_length_le (by rw [List.length_reverse]; omega)]
    · rw [List.take_of_length_le (by rw [List.length_reverse]; omega)]
  · rw [hR.len]
    by_cases hp : pre = []
    · obtain ⟨rfl, rfl⟩ := hP.start hp
      subst hp
      cases hR0 : R.reverse with
      | nil =>
        have : R.length = 0 := by rw [← List.length_reverse, hR0]; rfl
        have hl : L = [] := List.length_eq_zero_iff.1 (by omega)
        rw [hl, ← hP.cnt, hl]
        rfl
      | cons e Z =>
        have hpos : 0 < R.length := by rw [← List.length_reverse, hR0]; simp
        obtain ⟨g1, g2⟩ := hg 0 e (Nat.zero_le _) hpos (by rw [hR0]; rfl)
        have heR : e ∈ R := by
          have : e ∈ R.reverse := by rw [hR0]; simp
          simpa using this
        obtain ⟨i, hi⟩ := List.mem_iff_getElem?.1 heR
        obtain ⟨p, hp, hk, _⟩ := h0.at hi
        have ho := rep_own (fam_nan hn) hK0 heR hk
        rw [g1] at ho
        obtain ⟨x, _, hf, _⟩ := rep_has (fam_nan hn) hK0 h0 ho.symm (List.mem_map.2 ⟨p, List.mem_of_getElem? hp, rfl⟩)
        rw [← hk, g2] at hf
        cases hf
    · rw [← cN_all (hP.after hp), hP.cnt]
end
end Go.Proofs.YtlhfickniegooaaDoor

namespace Go.Proofs.YtlhfickniegooaaDoor
open Go.RowKit
set_option maxRecDepth 100000

theorem Sl.yield2 {n : Nat} {a : Act} {l : List (Nat × Value)} {df : List Deferred} (h : Sl n a l df) (p q : Nat) (hp : p < n) (hq : q < n) (v z : Value) : Sl n { tmps := (#[p, q].zip #[v, z]).foldl (fun t (x : Nat × Value) => t.setIfInBounds x.1 x.2) a.tmps, defers := [] } ((q, z) :: dropL [q] ((p, v) :: dropL [p] l)) := by
  have h2 := (h.yield1 p hp v).yield1 q hq z
  have e : (#[p, q].zip #[v, z]).foldl (fun t (x : Nat × Value) => t.setIfInBounds x.1 x.2) a.tmps = (#[q].zip #[z]).foldl (fun t (x : Nat × Value) => t.setIfInBounds x.1 x.2) ((#[p].zip #[v]).foldl (fun t (x : Nat × Value) => t.setIfInBounds x.1 x.2) a.tmps) := by simp
  rw [e]
  exact h2
theorem results_cell {P : Program} {fn : Func} {a : Act} {w : World} {n c : Nat} {l : List (Nat × Value)} {df : List Deferred} {ty : TypeId} {p : Addr} {z : Value} (hr : fn.results = #[.cell c ty]) (hs : Sl n a l df) (e3 : l.lookup c = some (.pointer (some p))) (hl : Lds P ty (.pointer (some p)) z w) : (results fn a.tmps).run P w = .ok z w := by
  have h1 := hs.look c e3
  unfold slot at h1
  simp only [Array.getD_eq_getD_getElem?] at h1
  simp [results, hr, h1, asAddr, var_run hl]
theorem MapAt.ext {w w' : World} {m : Nat} {R : List En} {D O : Nat → Prop} {B : Nat} (h : MapAt w m R D O) (e : Ext B w w') : MapAt w' m R D O :=
  let ⟨hb, n, H, N, b, A, n0, n1, hR, h4, h5, h6, o1, o2, o3, o4⟩ := h
  ⟨hb, n, H, N, b, A, n0, n1, hR.ext e, h4, h5, h6, o1, o2, o3, fun b hb => Nat.lt_of_lt_of_le (o4 b hb) e.size⟩
theorem KS.ext {w0 u u' : World} {K : Nat → Prop} {m : Nat} {R : List En} {D O : Nat → Prop} {B : Nat} (h : KS w0 K u m R D O) (e : Ext B u u') (hB : w0.heap.size ≤ B) : KS w0 K u' m R D O :=
  ⟨h.map.ext e, h.lo, fun b hk => Nat.lt_of_lt_of_le (h.kl b hk) e.size, Below.ext' h.low e hB⟩
section
variable {c : NvP} {K D O : Nat → Prop} {R : List En} {L : List (Option Int × Dt)} {u u' : World}
theorem NvM.ext {B : Nat} (h : NvM c K D O R L u) (e : Ext B u u') (hB : c.w0.heap.size ≤ B) : NvM c K D O R L u' :=
  ⟨⟨h.1.ks.ext e hB, h.1.b6.ext e, h.1.b7.ext e, h.1.na.ext e, h.1.k6, h.1.k7, h.1.ki⟩, h.2⟩
theorem NvM.add (h : NvM c K D O R L u) (hb : Below u.heap.size u u') {K' : Nat → Prop} (hK : ∀ b, K' b → K b ∨ (u.heap.size ≤ b ∧ b < u'.heap.size)) (hK' : ∀ b, K b → K' b) : NvM c K' D O R L u' := ⟨h.1.add hb hK hK', h.2⟩
theorem NvM.set (h : NvM c K D O R L u) {g : Nat} (hg : K g) (hl : c.w0.heap.size ≤ g) (h6 : g ≠ c.g6) (h7 : g ≠ c.g7) (hs : ¬ c.SI g) (o : Nat) (vs : List Value) : NvM c K D O R L (u.setCells g o vs) :=
  ⟨⟨h.1.ks.set hg hl o vs, Blk.farL (Ne.symm h6) _ _ _ h.1.b6, Blk.farL (Ne.symm h7) _ _ _ h.1.b7, dat_far _ _ h.1.na hs, h.1.k6, h.1.k7, h.1.ki⟩, h.2⟩
end
theorem eql_walk (g : Nat) (w : World) : (binOp .eql 41 (.func (.func 27) #[] #[.pointer (some ⟨g, 0, none⟩)]) .nilFunc).run Tryd.prog w = .ok (.bool false) w := by kernel_rfl
/-- What the range of KeyedNever keeps. -/
def NvI (c : NvP) (K D O : Nat → Prop) (gw g22 cn : Nat) (R0 : List En) (L0 : List (Option Int × Dt)) (R : List En) (pre : List Wn) (A : World) : Prop :=
  ∃ (L : List (Option Int × Dt)) (tn : Nat), NvM c K D O R L A ∧ Blk A g22 3 #[.int .i64 (tn : Int)] ∧ Blk A gw 24 #[.pointer (some ⟨c.m, 0, none⟩)] ∧ PI R0 L0 cn R L pre tn
theorem keepsFrom_moved {B : Nat} {O : Nat → Prop} {W W' : World} (h : Moved O W W') (hO : ∀ b, O b → b < B) : KeepsFrom B W W' :=
  ⟨h.size, fun k _ hk ho _ => (h.block k (Array.getElem?_eq_some_iff.1 ho).1 (fun q => by have := hO k q; omega)).trans ho⟩

set_option maxHeartbeats 4000000 in
/-- The range, and what is answered. -/
theorem lv_range {B0 : Nat} {wB : World} {c : NvP} (hc : c.ok) {K D O : Nat → Prop} {R0 : List En} {L0 : List (Option Int × Dt)} {cn g4 gw g22 : Nat} {u : World} {a : Act} (hs : Sl 208 a [(21, .func (.func 27) #[] #[.pointer (some ⟨gw, 0, none⟩)]), (22, .pointer (some ⟨g22, 0, none⟩)), (8, .int .i64 (cn : Int)), (7, .pointer (some ⟨c.g7, 0, none⟩)), (6, .pointer (some ⟨c.g6, 0, none⟩)), (4, .pointer (some ⟨g4, 0, none⟩)), (2, .pointer (some ⟨c.g2, 0, none⟩))] [])
    (hM : NvM c K D O R0 L0 u) (hN : NI c.xs (nvN c) cn L0) (hU : UL Option.isSome L0) (hg : Blk u gw 24 #[.pointer (some ⟨c.m, 0, none⟩)]) (ht : Blk u g22 3 #[.int .i64 ((0 : Nat) : Int)]) (hKw : K gw) (hKt : K g22) (hlw : c.w0.heap.size ≤ g22) (n6 : g22 ≠ c.g6) (n7 : g22 ≠ c.g7) (ns : ¬ c.SI g22) (nw : gw ≠ g22)
    (h4 : Blk c.w0 g4 4 #[.bool false]) (hB4 : B0 ≤ g4) (hB0 : B0 ≤ c.w0.heap.size) (hbB : Below B0 wB c.w0) :
    (Code.seq (.seq (r_lv 35) (.block 4 (.rangeFunc (.tmp 157) #[158, 159] (.seq (r_lv 36) (r_lv 37)) (.block 5 (.seq (r_lv 38) (.seq (.seq (r_lv 39) (.cond (.tmp 163) (r_lv 40) (.seq (r_lv 41) (.cond (.tmp 170) (.seq (r_lv 42) .ret) .skip)))) (.seq (r_lv 43) (.block 6 (.loop lvL0))))))))) (.seq (r_lv 50) .ret)).wp Tryd.prog (bodyPostM Fence.wide 9 Tryd.prog Tryd.f3 fun e w' => e = .returned (.bool true) ∧ Below B0 wB w') a u := by
  refine wp_seq (wp_seq (rg_wp (lv_r35 hs rfl fun a1 h1 => ?_)))
  refine wp_block ?_
  have hlow := hM.1.ks.low.size
  have hK0 := hM.1.ks.map.keys
  have hOl : ∀ b, O b ∨ K b → b < u.heap.size := fun b hb => hb.elim (hM.1.ks.map.olt b) (hM.1.ks.kl b)
  have hl0 := hN.len
  have hN100 : nvN c ≤ 100 := Nat.min_le_right _ _
  refine range_z (σ := List En) (g := .tmp 157) (ps := #[158, 159]) (gf := 27) (lb := #[.pointer (some ⟨gw, 0, none⟩)]) (h1.look 157 rfl) (Go.Proofs.enters_of Tryd.func27 (by kernel_rfl) rfl)
    (walk_seq (fun R : List En => R) R0 gw c.m u) (Below.refl _ _) (fun _ => rfl) (fun _ b => O b ∨ K b) (NvI c K D O gw g22 cn R0 L0) (fun _ _ _ _ => False) ?hI (fun _ _ _ _ _ h _ => h) ?hM ?hO ?hY R0 ?h0
    (fun _ x _ a' A => ∃ g23 g24, Sl 208 a' [(24, .pointer (some ⟨g24, 0, none⟩)), (23, .pointer (some ⟨g23, 0, none⟩)), (22, .pointer (some ⟨g22, 0, none⟩)), (8, .int .i64 (cn : Int)), (7, .pointer (some ⟨c.g7, 0, none⟩)), (6, .pointer (some ⟨c.g6, 0, none⟩)), (4, .pointer (some ⟨g4, 0, none⟩)), (2, .pointer (some ⟨c.g2, 0, none⟩))] [] ∧ Blk A g23 31 (x.h.k.cs x.h.dk) ∧ Blk A g24 31 (x.h.v.cs x.h.dv)) ?hAx ?ha ?hb ?hd (fun _ _ _ _ h => h.elim) (fun _ _ _ _ h _ => h)
  case hI =>
    rintro R pre A C ⟨L, tn, q1, q2, q3, q4⟩ e
    exact ⟨L, tn, q1.ext e hlow, q2.ext e, q3.ext e, q4⟩
  case hM =>
    rintro R pre A ⟨L, tn, q1, q2, q3, q4⟩
    have := q4.len
    exact ⟨by rw [q3.cell]; rfl, ⟨D, O, q1.1.ks.map⟩, by rw [q1.2.1.len]; omega, fun h => (q4.start h).1, q1.1.ks.own hc.own⟩
  case hO =>
    rintro R pre A ⟨L, tn, q1, _⟩ b hb
    exact hb.elim (q1.1.ks.map.olt b) (q1.1.ks.kl b)
  case hY =>
    rintro R pre x Hd A C ⟨y1, y2, y3, y4⟩ e
    exact ⟨y1, y2, y3, y4.ext e⟩
  case h0 =>
    exact ⟨L0, 0, hM, ht, hg, ⟨fun _ => ⟨rfl, rfl⟩, fun h => absurd rfl h, fun _ h => h, hN.cnt, by omega, by rfl⟩⟩
  case hAx =>
    rintro R x Hd a' A C ⟨g23, g24, x1, x2, x3⟩ e
    exact ⟨g23, g24, x1, x2.ext e, x3.ext e⟩
  case ha =>
    rintro l R pre x Hd W Kn hi hy hHd hK
    refine wpsI (lv_r36 (dk := x.h.k) (mk := x.h.dk) (h1.yield2 158 159 (by omega) (by omega) _ _) rfl (dat_store (Blk.new W 31 zeroC) (by show 0 + 11 ≤ 11; omega)) fun a2 h2 => ?_) (by kernel_rfl) (fun ⟨_, _, h⟩ => h)
    have hB2 := over_dat (Blk.new W 31 zeroC) rfl x.h.k x.h.dk
    have hb2 : Below W.heap.size W ((W.alloc (.cells zeroC 31)).setCells W.heap.size 0 (x.h.k.cs x.h.dk).toList) := below_setCells _ _ _ (bl_alloc (Below.refl _ _) _) (Nat.le_refl _)
    show Code.wpIn _ _ _ _ _ a2 ((W.alloc (.cells zeroC 31)).setCells W.heap.size 0 (x.h.k.cs x.h.dk).toList)
    generalize (W.alloc (.cells zeroC 31)).setCells W.heap.size 0 (x.h.k.cs x.h.dk).toList = W2 at hB2 hb2 ⊢
    refine rg_in (lv_r37 (dv := x.h.v) (mv := x.h.dv) h2 rfl (dat_store (Blk.new W2 31 zeroC) (by show 0 + 11 ≤ 11; omega)) fun a3 h3 => ?_) (by kernel_rfl) (fun ⟨_, _, h⟩ => h)
    have hB3 := over_dat (Blk.new W2 31 zeroC) rfl x.h.v x.h.dv
    have hb3 : Below W2.heap.size W2 ((W2.alloc (.cells zeroC 31)).setCells W2.heap.size 0 (x.h.v.cs x.h.dv).toList) := below_setCells _ _ _ (bl_alloc (Below.refl _ _) _) (Nat.le_refl _)
    exact hK a3 _ (bl_trans hb2 hb3) ⟨_, _, h3.to ⟨rfl, rfl, rfl, rfl, rfl, rfl, rfl, rfl, trivial⟩, hB2.below hb3 hB2.lt, hB3⟩
  case hb =>
    rintro l R pre x Hd a2 W ⟨L, tn, q1, q2, q3, q4⟩ hy hHd ⟨g23, g24, h2, x2, x3⟩
    have hK := q1.1.ks.map.keys
    have hround := pi_round hc.nan hK0 hK hM.2.1 q1.2.1 hN q4 hy
    obtain ⟨_, _, _, lo, mid, hi, hka, hva, _, _, _⟩ := hy
    have hko : x.h.k.ok := by
      rcases hround with ⟨e, _⟩ | ⟨n, i, hn, e, _⟩
      · rw [e]; exact hc.nan.ok
      · rw [e]; exact whole_ok (hc.rng i n hn)
    have hin : ∀ {K : Act → World → Prop} {Q : Exit → Act → World → Prop}, ¬ LetsOut Q → ¬ LetsOut (Exit.then K Q) := fun h => then_outs h
    -- the loop, from a world in which as many have been told
    have go : ∀ (tn' : Nat) (a' : Act) (W' : World), tn' = cN (L0.reverse.take (x.j + 1)) → Sl 208 a' [(22, .pointer (some ⟨g22, 0, none⟩)), (8, .int .i64 (cn : Int)), (7, .pointer (some ⟨c.g7, 0, none⟩)), (6, .pointer (some ⟨c.g6, 0, none⟩)), (4, .pointer (some ⟨g4, 0, none⟩)), (2, .pointer (some ⟨c.g2, 0, none⟩))] → NvM c K D O R L W' → Blk W' g22 3 #[.int .i64 (tn' : Int)] → Blk W' gw 24 #[.pointer (some ⟨c.m, 0, none⟩)] → Moved (fun b => O b ∨ K b) W W' →
        (Code.seq (r_lv 43) (.block 6 (.loop lvL0))).wpIn (rounds l) 7 Tryd.prog (Exit.inBlock 5 (postZ (fun _ b => O b ∨ K b) u.heap.size (NvI c K D O gw g22 cn R0 L0) (fun _ _ _ _ => False) R Hd (pre ++ [x]) W)) a' W' := fun tn' a' W' htn h' m1 m2 m3 m4 => by
      refine lv_loop3 (fun ⟨_, _, h⟩ => h) hc h' m1 q4.len fun a3 W3 R3 L3 n1 n2 n3 n4 n5 n6 => block_norm ?_
      have hmv : Moved (fun b => O b ∨ K b) W W3 := m4.cont (n2.more fun _ h => .inl h)
      refine ⟨keepsFrom_moved hmv hOl, R3, ⟨L3, tn', n1, m2.stay (m1.1.ks.stay n2 hKt), m3.stay (m1.1.ks.stay n2 hKw), fun h => absurd h (by simp), fun _ p hp => ?_, fun p hp => q4.sub p (n3 p hp), n5.trans q4.cnt, by have := q4.len; omega, by rw [nx_snoc]; exact htn⟩, hmv.more (fun _ h => .inl h), fun b hb => .inl hb⟩
      rcases hN.val p (q4.sub p (n3 p hp)) with q | ⟨y, i, r1, _, r3, r4, r5⟩
      · exact q
      · exact absurd (List.mem_map.2 ⟨p, hp, r1⟩) (n4 i y r3 r4 r5)
    refine wpIn_block (wpsI (lv_r38 (C0 := fun u => Below W.heap.size W u) h2 rfl rfl (dat_whole x2) q1.1.l7 ((ksame_any hko hc.nan.ok hka q1.1.na).mono fun e u hh => hh) fun a3 W3 hb3 h3 => ?_) (by kernel_rfl) (fun ⟨_, _, h⟩ => h))
    have q1' := q1.old hb3
    have q2' := q2.below hb3 q2.lt
    have q3' := q3.below hb3 q3.lt
    have hm3 : Moved (fun b => O b ∨ K b) W W3 := Moved.of_below hb3
    rcases hround with ⟨e, ht', _⟩ | ⟨n, i, hn, e, ev, ht'⟩
    · rw [e, hc.nan.same] at h3
      refine wpIn_seq (wpsI (lv_r39 h3 rfl fun a4 h4 => wpIn_cond_true (h4.look 163 rfl) ?_) (by kernel_rfl) (fun ⟨_, _, h⟩ => h))
      have htn : tn ≤ 100 := by
        have h1 : tn + 1 ≤ (L0.reverse.take (x.j + 1)).length := by rw [ht']; unfold cN; rw [← List.length_map (f := fun p : Option Int × Dt => p.1)]; exact List.countP_le_length
        have h2 : (L0.reverse.take (x.j + 1)).length ≤ L0.length := by rw [List.length_take, List.length_reverse]; exact Nat.min_le_right _ _
        omega
      refine wplI (lv_r40 (tn := tn) h4 rfl (one_load q2' Tryd.underlying3 rfl rfl) (by omega) (one_store q2' intInf (by show 0 < 1; omega) rfl) fun a5 h5 => ?_) (by kernel_rfl) (fun ⟨_, _, h⟩ => h)
      exact go (tn + 1) a5 _ ht' (h5.to ⟨rfl, rfl, rfl, rfl, rfl, rfl, trivial⟩) (q1'.set hKt hlw n6 n7 ns _ _) (q2'.set_ 0 _) (Blk.farL nw _ _ _ q3') (hm3.set (.inl (.inr hKt)) _ _)
    · rw [e, hc.nan.diff] at h3
      refine wpIn_seq (wpsI (lv_r39 h3 rfl fun a4 h4 => wpIn_cond_false (h4.look 163 rfl) ?_) (by kernel_rfl) (fun ⟨_, _, h⟩ => h))
      have x2' := x2.below hb3 x2.lt
      have x3' := x3.below hb3 x3.lt
      refine wpsI (lv_r41 (kn := n) (vn := n) (b170 := false) h4 rfl rfl (one_load x2' Tryd.underlying3 rfl (by rw [e]; rfl)) (one_load x3' Tryd.underlying3 rfl (by rw [ev]; rfl)) (decide_eq_false (by simp)) fun a5 h5 => wpcI_off (h5.look 170 rfl) ?_) (by kernel_rfl) (fun ⟨_, _, h⟩ => h)
      exact go tn a5 W3 ht' (h5.to ⟨rfl, rfl, rfl, rfl, rfl, rfl, trivial⟩) q1' q2' q3' hm3
  case hd =>
    rintro R xs W hE ⟨L, tn, q1, q2, q3, q4⟩ hD
    obtain ⟨ht', hlen⟩ := pi_end hc.nan hK0 hM.2.1 q1.2.1 hN q4 hE
    refine block_norm ?_
    have h5 : Sl 208 { a1 with defers := { target := .collected u.heap.size, args := #[] } :: a1.defers } [(22, .pointer (some ⟨g22, 0, none⟩)), (8, .int .i64 (cn : Int)), (7, .pointer (some ⟨c.g7, 0, none⟩)), (6, .pointer (some ⟨c.g6, 0, none⟩)), (4, .pointer (some ⟨g4, 0, none⟩)), (2, .pointer (some ⟨c.g2, 0, none⟩))] [{ target := .collected u.heap.size, args := #[] }] := by
      have h6 := h1.to (l0 := [(22, .pointer (some ⟨g22, 0, none⟩)), (8, .int .i64 (cn : Int)), (7, .pointer (some ⟨c.g7, 0, none⟩)), (6, .pointer (some ⟨c.g6, 0, none⟩)), (4, .pointer (some ⟨g4, 0, none⟩)), (2, .pointer (some ⟨c.g2, 0, none⟩))]) ⟨rfl, rfl, rfl, rfl, rfl, rfl, trivial⟩
      exact ⟨h6.size, by simp [h6.defers], h6.known⟩
    have hb4 := h4.below q1.1.ks.low h4.lt
    refine wp_seq (rg_wp (lv_r50_t (tn := tn) (cl := R.length) (b206 := true) (C0 := fun u => u = W) h5 rfl rfl rfl rfl (one_load q2 Tryd.underlying3 rfl rfl) (decide_eq_true (by rw [ht'])) q1.1.l6 ((klen_any q1.1.ks.map).mono fun e u hh => hh) (decide_eq_true (by rw [hlen])) (fun u hu => by rw [hu]; exact one_store hb4 (by kernel_rfl) (by show 0 < 1; omega) rfl) fun a6 W6 hx h6 => wp_ret ?_))
    subst hx
    show LeavesInM _ _ _ _ _ _ a6.defers .returning _
    rw [h6.defers]
    have hb4' : Blk (W6.setCells g4 0 [.bool true]) g4 4 #[.bool true] := hb4.set_ 0 (.bool true)
    have hDb : (W6.setCells g4 0 [.bool true]).heap[u.heap.size]? = some (.deferred (some [])) := (setCells_other _ _ _ (by have := h4.lt; omega)).trans hD
    have hbl : Below B0 wB W6 := ⟨q1.1.ks.low.os.trans hbB.os, q1.1.ks.low.tape.trans hbB.tape, q1.1.ks.low.output.trans hbB.output, Nat.le_trans hbB.size q1.1.ks.low.size, fun k hk => (q1.1.ks.low.block k (by omega)).trans (hbB.block k hk)⟩
    refine leaves_ok (ds := [u.heap.size]) u.heap.size _ (by simp) (fun D hD' => by rw [List.mem_singleton.1 hD']; exact ⟨Nat.le_refl _, hDb⟩) fun W' hx => ⟨.bool true, results_cell rfl h6 rfl (one_load (hb4'.ext hx) Tryd.underlying4 rfl rfl), rfl, Below.ext' (below_setCells _ _ _ hbl hB4) hx (by omega)⟩
end Go.Proofs.YtlhfickniegooaaDoor

namespace Go.Proofs.YtlhfickniegooaaDoor
open Go.RowKit
set_option maxRecDepth 100000

theorem mapInf1 : (Tryd.prog.info? 24).map (·.size) = some 1 := by kernel_rfl
set_option maxHeartbeats 2000000 in
theorem never_main {B0 : Nat} {wB : World} {c : NvP} (hc : c.ok) {K D O : Nat → Prop} {g4 : Nat} {u : World} {a : Act} (hs : Sl 208 a [(7, .pointer (some ⟨c.g7, 0, none⟩)), (6, .pointer (some ⟨c.g6, 0, none⟩)), (4, .pointer (some ⟨g4, 0, none⟩)), (2, .pointer (some ⟨c.g2, 0, none⟩))])
    (hM : NvM c K D O [] [] u) (h4 : Blk c.w0 g4 4 #[.bool false]) (hB4 : B0 ≤ g4) (hB0 : B0 ≤ c.w0.heap.size) (hbB : Below B0 wB c.w0) :
    (Code.seq (r_lv 8) (.seq (.seq (r_lv 9) (.block 0 (.loop lvL2))) (.seq (r_lv 20) (.seq (r_lv 21) (.seq (.seq (r_lv 22) (.cond (.tmp 110) (.seq (r_lv 23) .ret) .skip)) (.seq (.seq (r_lv 24) (.block 2 (.loop lvL1))) (.seq (r_lv 31) (.seq (.seq (r_lv 32) (.cond (.tmp 156) (.seq (r_lv 33) .ret) .skip)) (.seq (r_lv 34) (.seq (.seq (r_lv 35) (.block 4 (.rangeFunc (.tmp 157) #[158, 159] (.seq (r_lv 36) (r_lv 37)) (.block 5 (.seq (r_lv 38) (.seq (.seq (r_lv 39) (.cond (.tmp 163) (r_lv 40) (.seq (r_lv 41) (.cond (.tmp 170) (.seq (r_lv 42) .ret) .skip)))) (.seq (r_lv 43) (.block 6 (.loop lvL0))))))))) (.seq (r_lv 50) .ret))))))))))).wp Tryd.prog (bodyPostM Fence.wide 9 Tryd.prog Tryd.f3 fun e w' => e = .returned (.bool true) ∧ Below B0 wB w') a u := by
  refine wp_seq (rg_wp (lv_r8 hs fun a1 h1 => ?_))
  refine wp_seq (lv_loop1 hc (h1.to ⟨rfl, rfl, rfl, rfl, rfl, trivial⟩) hM fun a2 u2 cn D O R L h2 hM2 hN => ?_)
  have hf : fE R c.nan = none := rep_none (fam_nan hc.nan) hM2.1.ks.map.keys hM2.2.1 (i := none) (fun q => by simp at q)
  refine wp_seq (rg_wp (lv_r20 (dz := noD) (mz := m0) (C0 := fun u => NvM c K D O R L u) h2 rfl rfl hM2.1.l6 hM2.1.l7 ((get_none hM2.1.ks.map hc.nan.ok hM2.1.na (hM2.1.ks.own hc.own) hc.nan.right hc.nan.key hf).mono fun e u' hh => ⟨hh.1, hM2.old hh.2⟩) (fun u hu => dat_store (Blk.new u 31 zeroC) (by show 0 + 11 ≤ 11; omega)) fun a3 u3 hM3 h3 => ?_))
  have hb3 : Below u3.heap.size u3 ((u3.alloc (.cells zeroC 31)).setCells u3.heap.size 0 (noD.cs m0).toList) := below_setCells _ _ _ (bl_alloc (Below.refl _ _) _) (Nat.le_refl _)
  have hM3 := hM3.old hb3
  show Code.wp _ _ _ a3 ((u3.alloc (.cells zeroC 31)).setCells u3.heap.size 0 (noD.cs m0).toList)
  generalize (u3.alloc (.cells zeroC 31)).setCells u3.heap.size 0 (noD.cs m0).toList = w3 at hM3 ⊢
  have hl := hN.len
  have hN100 : nvN c ≤ 100 := Nat.min_le_right _ _
  refine wp_seq (rg_wp (lv_r21 (C0 := fun u => NvM c K D O R L u) h3 rfl rfl hM3.1.l6 hM3.1.l7 ((drop_none hM3.1.ks.map (by rw [hM3.2.1.len]; omega) hc.nan.ok hM3.1.na (hM3.1.ks.own hc.own) hc.nan.right hc.nan.key hf).mono fun e u' hh => ⟨hh.1, hM3.old hh.2⟩) fun a5 w5 hM5 h5 => ?_))
  refine wp_seq (wp_seq (rg_wp (lv_r22 h5 rfl rfl rfl rfl fun a6 h6 => wpo (h6.look 110 rfl) ?_)))
  refine wp_seq (lv_loop2 hc (h6.to ⟨rfl, rfl, rfl, rfl, rfl, trivial⟩) hM5 hN fun a7 w7 h7 hM7 => ?_)
  refine wp_seq (rg_wp (lv_r31 (C0 := fun x u => x = w7.heap.size ∧ Blk u x 24 #[.pointer (some ⟨c.m, 0, none⟩)] ∧ Below w7.heap.size w7 u) h7 rfl hM7.1.l6 ((kwalk_any w7 c.m).mono fun e u hh => ⟨_, hh.1, rfl, hh.2.1, hh.2.2⟩) fun a8 gw w8 hx h8 => ?_))
  obtain ⟨hgw, hG8, hb8⟩ := hx
  refine wp_seq (wp_seq (rg_wp (lv_r32 h8 rfl (fun w => eql_walk gw w) fun a9 h9 => wpo (h9.look 156 rfl) ?_)))
  refine wp_seq (rg_wp (lv_r34 h9 (one_store (Blk.new w8 3 #[.int .i64 0]) intInf (by show 0 < 1; omega) rfl) fun a10 h10 => ?_))
  have hT : Blk ((w8.alloc (.cells #[.int .i64 0] 3)).setCells w8.heap.size 0 [.int .i64 0]) w8.heap.size 3 #[.int .i64 ((0 : Nat) : Int)] := (Blk.new w8 3 #[.int .i64 0]).set_ 0 (.int .i64 0)
  have hb10 : Below w8.heap.size w8 ((w8.alloc (.cells #[.int .i64 0] 3)).setCells w8.heap.size 0 [.int .i64 0]) := below_setCells _ _ _ (bl_alloc (Below.refl _ _) _) (Nat.le_refl _)
  generalize (w8.alloc (.cells #[.int .i64 0] 3)).setCells w8.heap.size 0 [.int .i64 0] = w10 at hT hb10 ⊢
  have s7 := hM7.1.ks.low.size
  have s8 := hG8.lt
  have s10 := hT.lt
  have z8 := hb8.size
  have l6 := hM7.1.b6.lt
  have l7 := hM7.1.b7.lt
  have hM10 := hM7.add (bl_trans hb8 hb10) (K' := fun b => K b ∨ b = gw ∨ b = w8.heap.size) (fun b hb => by
    rcases hb with hb | hb | hb
    · exact .inl hb
    · exact .inr ⟨by omega, by omega⟩
    · exact .inr ⟨by omega, by omega⟩) (fun b hb => .inl hb)
  exact lv_range hc (h10.to ⟨rfl, rfl, rfl, rfl, rfl, rfl, rfl, trivial⟩) hM10 hN hM7.2.2 (hG8.below hb10 hG8.lt) hT (.inr (.inl rfl)) (.inr (.inr rfl)) (by omega) (by omega) (by omega) (fun h => by have := hM7.1.ks.kl _ (hM7.1.ki _ h); omega) (by omega) h4 hB4 hB0 hbB

set_option maxHeartbeats 2000000 in
theorem never_any {w : World} (hown : OwnAt w) {xs : List Int} {pa : Option Addr} {pc : Nat} {deep : Bool} (hls : PathAt w (fun _ => True) pa xs) (hr : ∀ (j : Nat) (x : Int), xs[j]? = some x → okInt x) :
    Calls Tryd.prog 3 #[.slice pa xs.length pc, .bool deep] w fun e w' => e = .returned (.bool true) ∧ Below w.heap.size w w' := by
  refine calls_evM (vs := [.slice pa xs.length pc, .bool deep]) 208 Tryd.func3 lv_body (by kernel_rfl) (by simp) fun a0 h0 => ?_
  unfold lvBody
  refine wp_seq (rg_wp (lv_r0 h0 rfl fun a1 h1 => ?_))
  have hA1 := (Blk.new w 22 #[.slice pa xs.length pc]).alloc (.cells #[.bool false] 4)
  have hR1 := Blk.new1 w (.cells #[.slice pa xs.length pc] 22) 4 #[.bool false]
  have hb1 := bl_alloc (bl_alloc (Below.refl w.heap.size w) (.cells #[.slice pa xs.length pc] 22)) (.cells #[.bool false] 4)
  have hs1 : (w.alloc (.cells #[.slice pa xs.length pc] 22)).heap.size = w.heap.size + 1 := by simp
  rw [hs1] at h1
  generalize (w.alloc (.cells #[.slice pa xs.length pc] 22)).alloc (.cells #[.bool false] 4) = w1 at hA1 hR1 hb1 ⊢
  refine wp_seq (rg_wp (lv_r1 (C0 := fun u => Below w1.heap.size w1 u) h1 (known_any w1 (hown.old hb1)) fun a2 w2 hb2 h2 => ?_))
  have hb02 := bl_trans hb1 hb2
  have hown2 := hown.old hb02
  refine wp_seq (rg_wp (lv_r2 (gm := w2.heap.size) (C0 := fun u => KS w2 (fun _ => False) u w2.heap.size [] _ _) h2 (ks_new w2) (fun u _ => one_store (Blk.new u 24 #[.pointer none]) mapInf1 (by show 0 < 1; omega) rfl) fun a3 u3 hK3 h3 => ?_))
  have hB3 : Blk ((u3.alloc (.cells #[.pointer none] 24)).setCells u3.heap.size 0 [.pointer (some ⟨w2.heap.size, 0, none⟩)]) u3.heap.size 24 #[.pointer (some ⟨w2.heap.size, 0, none⟩)] := (Blk.new u3 24 #[.pointer none]).set_ 0 _
  have hb3 : Below u3.heap.size u3 ((u3.alloc (.cells #[.pointer none] 24)).setCells u3.heap.size 0 [.pointer (some ⟨w2.heap.size, 0, none⟩)]) := below_setCells _ _ _ (bl_alloc (Below.refl _ _) _) (Nat.le_refl _)
  have hK3 := hK3.add hb3 (K' := fun b => b = u3.heap.size) (fun b hb => .inr ⟨by omega, by rw [hb]; exact hB3.lt⟩)
  generalize (u3.alloc (.cells #[.pointer none] 24)).setCells u3.heap.size 0 [.pointer (some ⟨w2.heap.size, 0, none⟩)] = w3 at hB3 hK3 ⊢
  obtain ⟨g6, hg6⟩ : ∃ g, g = u3.heap.size := ⟨_, rfl⟩
  rw [← hg6] at hB3 hK3 h3
  refine wp_seq (wp_seq (rg_wp (lv_r3 (b35 := false) h3 rfl rfl (one_load hB3 Tryd.underlying24 rfl rfl) (fun w => eql_map w2.heap.size w) fun a4 h4 => wpo (h4.look 36 rfl) ?_)))
  refine wp_seq (rg_wp (lv_r5 h4 (dat_store (d := nan0) (m := m0) (Blk.new w3 31 zeroC) (by show 0 + 11 ≤ 11; omega)) fun a5 h5 => ?_))
  have hB5 := over_dat (Blk.new w3 31 zeroC) rfl nan0 m0
  have hb5 : Below w3.heap.size w3 ((w3.alloc (.cells zeroC 31)).setCells w3.heap.size 0 (nan0.cs m0).toList) := below_setCells _ _ _ (bl_alloc (Below.refl _ _) _) (Nat.le_refl _)
  have hK5 := hK3.add hb5 (K' := fun b => b = g6 ∨ b = w3.heap.size) (fun b hb => hb.elim .inl (fun h => .inr ⟨by omega, by rw [h]; exact hB5.lt⟩))
  have hB6 := hB3.below hb5 hB3.lt
  show Code.wp _ _ _ a5 ((w3.alloc (.cells zeroC 31)).setCells w3.heap.size 0 (nan0.cs m0).toList)
  generalize (w3.alloc (.cells zeroC 31)).setCells w3.heap.size 0 (nan0.cs m0).toList = w5 at hB5 hK5 hB6 ⊢
  obtain ⟨g7, hg7⟩ : ∃ g, g = w3.heap.size := ⟨_, rfl⟩
  have hlt6 := hB3.lt
  rw [← hg7] at hB5 hK5 h5 hlt6
  have hsz5 := hK5.low.size
  have hl67 : w2.heap.size ≤ g7 := by have := hK3.low.size; omega
  have hA2 := hA1.below hb2 hA1.lt
  have hR2 := hR1.below hb2 hR1.lt
  have hls2 : PathAt w2 (fun b => b < w2.heap.size) pa xs := hls.keep (fun b _ hl => hb02.block b hl) (fun b _ hl => Nat.lt_of_lt_of_le hl hb02.size)
  refine wp_seq (wp_seq (rg_wp (lv_r6 h5 rfl fun a6 h6 => ?_)))
  cases deep with
  | false =>
    refine wpc_off (h6.look 38 rfl) ?_
    exact never_main (c := ⟨w2, fun _ => False, w2.heap.size, w.heap.size, g6, g7, nan0, m0, pa, pc, xs⟩) ⟨hown2, hA2, hls2, hr, nan0_ok⟩ (h6.to ⟨rfl, rfl, rfl, rfl, trivial⟩)
      ⟨⟨hK5, hB6, hB5, pD_at _ _ _ _ _ _ _, .inl rfl, .inr rfl, fun _ h => h.elim⟩, rfl, List.Pairwise.nil⟩ hR2 (Nat.le_succ _) hb02.size hb02
  | true =>
    refine wp_cond_true (h6.look 38 rfl) (wpl (rg_wp (lv_r7 (dn := nan0) (mn := m0) (C := fun u => Below w5.heap.size w5 u) (C0 := fun u => Below w5.heap.size w5 u) h6 rfl (fun u hu => dat_whole (hB5.below hu hB5.lt)) (below_drewN (Below.refl _ _) 1) ((kwhole_any 1 _).mono fun e u hh => ⟨hh.1, bl_trans (below_drewN (Below.refl _ _) 1) hh.2⟩) (fun _ h => h)
      (fun u hu => dat_store (d := nanX) (m := ⟨none, 0, some ⟨u.heap.size, 0, none⟩, 3⟩) ((hB5.below hu hB5.lt).alloc _) (by show 0 + 11 ≤ 11; omega)) fun a7 u7 hb7 h7 => ?_)))
    have hB7 := over_dat ((hB5.below hb7 hB5.lt).alloc (.cells ⟨((wholeD 1).cs m0).toList ++ ((nan0.cs m0).toList ++ (listD.cs m0).toList)⟩ 31)) rfl nanX ⟨none, 0, some ⟨u7.heap.size, 0, none⟩, 3⟩
    have hI7 : Blk ((u7.alloc (.cells ⟨((wholeD 1).cs m0).toList ++ ((nan0.cs m0).toList ++ (listD.cs m0).toList)⟩ 31)).setCells g7 0 (nanX.cs ⟨none, 0, some ⟨u7.heap.size, 0, none⟩, 3⟩).toList) u7.heap.size 31 ⟨((wholeD 1).cs m0).toList ++ ((nan0.cs m0).toList ++ (listD.cs m0).toList)⟩ := Blk.farL (by have := hB5.lt; have := hb7.size; omega) _ _ _ (Blk.new u7 _ _)
    have hK7 := (hK5.add (bl_alloc hb7 (.cells ⟨((wholeD 1).cs m0).toList ++ ((nan0.cs m0).toList ++ (listD.cs m0).toList)⟩ 31)) (K' := fun b => b = g6 ∨ b = g7 ∨ b = u7.heap.size) (fun b hb => by
      rcases hb with hb | hb | hb
      · exact .inl (.inl hb)
      · exact .inl (.inr hb)
      · exact .inr ⟨by rw [hb]; exact hb7.size, by rw [hb]; simp⟩)).set (.inr (.inl rfl)) hl67 0 (nanX.cs ⟨none, 0, some ⟨u7.heap.size, 0, none⟩, 3⟩).toList
    have hB67 : Blk ((u7.alloc (.cells ⟨((wholeD 1).cs m0).toList ++ ((nan0.cs m0).toList ++ (listD.cs m0).toList)⟩ 31)).setCells g7 0 (nanX.cs ⟨none, 0, some ⟨u7.heap.size, 0, none⟩, 3⟩).toList) g6 24 #[.pointer (some ⟨w2.heap.size, 0, none⟩)] := Blk.farL (by omega) _ _ _ ((hB6.below hb7 hB6.lt).alloc _)
    exact never_main (c := ⟨w2, fun b => b = u7.heap.size, w2.heap.size, w.heap.size, g6, g7, nanX, ⟨none, 0, some ⟨u7.heap.size, 0, none⟩, 3⟩, pa, pc, xs⟩) ⟨hown2, hA2, hls2, hr, nanX_ok⟩ (h7.to ⟨rfl, rfl, rfl, rfl, trivial⟩)
      ⟨⟨hK7, hB67, hB7, nanX_at hI7 rfl, .inl rfl, .inr (.inl rfl), fun _ h => .inr (.inr h)⟩, rfl, List.Pairwise.nil⟩ hR2 (Nat.le_succ _) hb02.size hb02
end Go.Proofs.YtlhfickniegooaaDoor

namespace Go.Proofs.YtlhfickniegooaaDoor
open Go.RowKit
set_option maxRecDepth 100000

def chK (n : Nat) : ByteArray := ⟨#[UInt8.ofNat n, UInt8.ofNat (n / 256)]⟩
/-- A key of a kind and a number. -/
def kT : Nat → Nat → Dt
  | 0, n => wholeD n
  | 1, n => textD (chK n)
  | 2, n => pD 3 floatW 0 ((n * 1099511627776 : Nat) : Int) ⟨#[]⟩
  | 3, n => pD 2 ⟨#[84]⟩ ((n : Int) - 3) 0 ⟨#[]⟩
  | 4, n => ⟨⟨9, ⟨#[84]⟩, 0, 0, ⟨#[]⟩, n, 0, 0, 0, [((n % 30 : Nat) : Int)]⟩, .nil⟩
  | 5, n => ⟨pH 8 ⟨#[83]⟩ 0 0 ⟨#[]⟩, .cons (wholeD n).h .nil (.cons noD.h .nil .nil)⟩
  | 6, n => ⟨pH 8 ⟨#[83]⟩ 0 0 ⟨#[]⟩, .cons (wholeD n).h .nil .nil⟩
  | 7, n => pD 4 ⟨#[85]⟩ 0 0 (chK n)
  | 8, n => pD 3 ⟨#[70]⟩ 0 ((n * 1099511627776 : Nat) : Int) ⟨#[]⟩
  | _, _ => noD
def tgK (n : Nat) : Nat := if n = 3 then 9 else n % 9
def keyD (n : Nat) : Dt := kT (tgK n) n
theorem tgK_le (n : Nat) : tgK n ≤ 9 := by unfold tgK; split <;> omega
theorem key_all : (List.range 900).all (fun n => rB (keyD n) && kB (keyD n)) = true := by kernel_rfl
theorem key_right {n : Nat} (h : n < 900) : rB (keyD n) = true ∧ kB (keyD n) = true := by
  have := List.all_eq_true.1 key_all n (List.mem_range.2 h)
  simpa using this
theorem chK_inj {a b : Nat} (ha : a < 900) (hb : b < 900) (h : chK a = chK b) : a = b := by
  unfold chK at h
  injection h with h
  have h0 := congrArg Array.toList h
  injection h0 with h1 h0
  injection h0 with h2 _
  have h3 := congrArg UInt8.toNat h1
  have h4 := congrArg UInt8.toNat h2
  simp at h3 h4
  omega
theorem float_eq {a b : Nat} (ha : a < 900) (hb : b < 900) : feqB (a * 1099511627776) (b * 1099511627776) = decide (a = b) := by
  have n1 : ∀ x, x < 900 → nanB (x * 1099511627776) = false := fun x hx => by unfold nanB; exact decide_eq_false (by omega)
  have p1 : ∀ x, x < 900 → placeF (x * 1099511627776) = ((x * 1099511627776 : Nat) : Int) := fun x hx => by unfold placeF; rw [if_neg (by omega)]; congr 1; omega
  unfold feqB
  rw [n1 a ha, n1 b hb, p1 a ha, p1 b hb]
  by_cases q : a = b
  · subst q; simp
  · simp only [Bool.not_false, Bool.true_and]
    rw [decide_eq_false q, decide_eq_false (by omega)]
theorem key_same {t a b : Nat} (ht : t < 9) (ha : a < 900) (hb : b < 900) : eqO (kT t a) (kT t b) = decide (a = b) := by
  have hint : ((a : Int) = b) ↔ a = b := by omega
  have : t = 0 ∨ t = 1 ∨ t = 2 ∨ t = 3 ∨ t = 4 ∨ t = 5 ∨ t = 6 ∨ t = 7 ∨ t = 8 := by omega
  have hch : chK a = chK b ↔ a = b := ⟨chK_inj ha hb, fun h => by rw [h]⟩
  have hin3 : ((a : Int) - 3 = b - 3) ↔ a = b := by omega
  have hp : ((a : Int) = b ∧ [((a % 30 : Nat) : Int)] = [((b % 30 : Nat) : Int)]) ↔ a = b := ⟨fun h => hint.1 h.1, fun h => by subst h; exact ⟨rfl, rfl⟩⟩
  rcases this with rfl | rfl | rfl | rfl | rfl | rfl | rfl | rfl | rfl
  · show eqO (wholeD a) (wholeD b) = _
    rw [whole_eq]
    by_cases q : a = b <;> simp [q]
    omega
  · have h : eqO (textD (chK a)) (textD (chK b)) = decide (chK a = chK b) := by simp [eqO, equalD, equalH, oneB, textD, pD, pH]
    exact h.trans (decide_eq_decide.2 hch)
  · have h : eqO (kT 2 a) (kT 2 b) = feqB (a * 1099511627776) (b * 1099511627776) := by kernel_rfl
    exact h.trans (float_eq ha hb)
  · have h : eqO (kT 3 a) (kT 3 b) = decide ((a : Int) - 3 = b - 3) := by simp [eqO, equalD, equalH, oneB, kT, pD, pH]
    exact h.trans (decide_eq_decide.2 hin3)
  · have h : eqO (kT 4 a) (kT 4 b) = decide ((a : Int) = b ∧ [((a % 30 : Nat) : Int)] = [((b % 30 : Nat) : Int)]) := by simp [eqO, equalD, equalH, oneB, kT]
    exact h.trans (decide_eq_decide.2 hp)
  · have h : eqO (kT 5 a) (kT 5 b) = decide ((a : Int) = b) := by
      by_cases q : (a : Int) = b <;> simp [eqO, equalD, equalF, equalH, oneB, kT, pD, pH, wholeD, noD, Fo.len, q]
    exact h.trans (decide_eq_decide.2 hint)
  · have h : eqO (kT 6 a) (kT 6 b) = decide ((a : Int) = b) := by
      by_cases q : (a : Int) = b <;> simp [eqO, equalD, equalF, equalH, oneB, kT, pD, pH, wholeD, noD, Fo.len, q]
    exact h.trans (decide_eq_decide.2 hint)
  · have h : eqO (kT 7 a) (kT 7 b) = decide (chK a = chK b) := by simp [eqO, equalD, equalH, oneB, kT, pD, pH]
    exact h.trans (decide_eq_decide.2 hch)
  · have h : eqO (kT 8 a) (kT 8 b) = feqB (a * 1099511627776) (b * 1099511627776) := by kernel_rfl
    exact h.trans (float_eq ha hb)
theorem key_diff (a b : Nat) : ∀ s t : Fin 10, s ≠ t → eqO (kT s.val a) (kT t.val b) = false :=
  fun s t h => match s, t, h with
  | 0, 1, _ => (by kernel_rfl : eqO (kT 0 a) (kT 1 b) = false)
  | 0, 2, _ => (by kernel_rfl : eqO (kT 0 a) (kT 2 b) = false)
  | 0, 3, _ => (by kernel_rfl : eqO (kT 0 a) (kT 3 b) = false)
  | 0, 4, _ => (by kernel_rfl : eqO (kT 0 a) (kT 4 b) = false)
  | 0, 5, _ => (by kernel_rfl : eqO (kT 0 a) (kT 5 b) = false)
  | 0, 6, _ => (by kernel_rfl : eqO (kT 0 a) (kT 6 b) = false)
  | 0, 7, _ => (by kernel_rfl : eqO (kT 0 a) (kT 7 b) = false)
  | 0, 8, _ => (by kernel_rfl : eqO (kT 0 a) (kT 8 b) = false)
  | 0, 9, _ => (by kernel_rfl : eqO (kT 0 a) (kT 9 b) = false)
  | 1, 0, _ => (by kernel_rfl : eqO (kT 1 a) (kT 0 b) = false)
  | 1, 2, _ => (by kernel_rfl : eqO (kT 1 a) (kT 2 b) = false)
  | 1, 3, _ => (by kernel_rfl : eqO (kT 1 a) (kT 3 b) = false)
  | 1, 4, _ => (by kernel_rfl : eqO (kT 1 a) (kT 4 b) = false)
  | 1, 5, _ => (by kernel_rfl : eqO (kT 1 a) (kT 5 b) = false)
  | 1, 6, _ => (by kernel_rfl : eqO (kT 1 a) (kT 6 b) = false)
  | 1, 7, _ => (by kernel_rfl : eqO (kT 1 a) (kT 7 b) = false)
  | 1, 8, _ => (by kernel_rfl : eqO (kT 1 a) (kT 8 b) = false)
  | 1, 9, _ => (by kernel_rfl : eqO (kT 1 a) (kT 9 b) = false)
  | 2, 0, _ => (by kernel_rfl : eqO (kT 2 a) (kT 0 b) = false)
  | 2, 1, _ => (by kernel_rfl : eqO (kT 2 a) (kT 1 b) = false)
  | 2, 3, _ => (by kernel_rfl : eqO (kT 2 a) (kT 3 b) = false)
  | 2, 4, _ => (by kernel_rfl : eqO (kT 2 a) (kT 4 b) = false)
  | 2, 5, _ => (by kernel_rfl : eqO (kT 2 a) (kT 5 b) = false)
  | 2, 6, _ => (by kernel_rfl : eqO (kT 2 a) (kT 6 b) = false)
  | 2, 7, _ => (by kernel_rfl : eqO (kT 2 a) (kT 7 b) = false)
  | 2, 8, _ => (by kernel_rfl : eqO (kT 2 a) (kT 8 b) = false)
  | 2, 9, _ => (by kernel_rfl : eqO (kT 2 a) (kT 9 b) = false)
  | 3, 0, _ => (by kernel_rfl : eqO (kT 3 a) (kT 0 b) = false)
  | 3, 1, _ => (by kernel_rfl : eqO (kT 3 a) (kT 1 b) = false)
  | 3, 2, _ => (by kernel_rfl : eqO (kT 3 a) (kT 2 b) = false)
  | 3, 4, _ => (by kernel_rfl : eqO (kT 3 a) (kT 4 b) = false)
  | 3, 5, _ => (by kernel_rfl : eqO (kT 3 a) (kT 5 b) = false)
  | 3, 6, _ => (by kernel_rfl : eqO (kT 3 a) (kT 6 b) = false)
  | 3, 7, _ => (by kernel_rfl : eqO (kT 3 a) (kT 7 b) = false)
  | 3, 8, _ => (by kernel_rfl : eqO (kT 3 a) (kT 8 b) = false)
  | 3, 9, _ => (by kernel_rfl : eqO (kT 3 a) (kT 9 b) = false)
  | 4, 0, _ => (by kernel_rfl : eqO (kT 4 a) (kT 0 b) = false)
  | 4, 1, _ => (by kernel_rfl : eqO (kT 4 a) (kT 1 b) = false)
  | 4, 2, _ => (by kernel_rfl : eqO (kT 4 a) (kT 2 b) = false)
  | 4, 3, _ => (by kernel_rfl : eqO (kT 4 a) (kT 3 b) = false)
  | 4, 5, _ => (by kernel_rfl : eqO (kT 4 a) (kT 5 b) = false)
  | 4, 6, _ => (by kernel_rfl : eqO (kT 4 a) (kT 6 b) = false)
  | 4, 7, _ => (by kernel_rfl : eqO (kT 4 a) (kT 7 b) = false)
  | 4, 8, _ => (by kernel_rfl : eqO (kT 4 a) (kT 8 b) = false)
  | 4, 9, _ => (by kernel_rfl : eqO (kT 4 a) (kT 9 b) = false)
  | 5, 0, _ => (by kernel_rfl : eqO (kT 5 a) (kT 0 b) = false)
  | 5, 1, _ => (by kernel_rfl : eqO (kT 5 a) (kT 1 b) = false)
  | 5, 2, _ => (by kernel_rfl : eqO (kT 5 a) (kT 2 b) = false)
  | 5, 3, _ => (by kernel_rfl : eqO (kT 5 a) (kT 3 b) = false)
  | 5, 4, _ => (by kernel_rfl : eqO (kT 5 a) (kT 4 b) = false)
  | 5, 6, _ => (by kernel_rfl : eqO (kT 5 a) (kT 6 b) = false)
  | 5, 7, _ => (by kernel_rfl : eqO (kT 5 a) (kT 7 b) = false)
  | 5, 8, _ => (by kernel_rfl : eqO (kT 5 a) (kT 8 b) = false)
  | 5, 9, _ => (by kernel_rfl : eqO (kT 5 a) (kT 9 b) = false)
  | 6, 0, _ => (by kernel_rfl : eqO (kT 6 a) (kT 0 b) = false)
  | 6, 1, _ => (by kernel_rfl : eqO (kT 6 a) (kT 1 b) = false)
  | 6, 2, _ => (by kernel_rfl : eqO (kT 6 a) (kT 2 b) = false)
  | 6, 3, _ => (by kernel_rfl : eqO (kT 6 a) (kT 3 b) = false)
  | 6, 4, _ => (by kernel_rfl : eqO (kT 6 a) (kT 4 b) = false)
  | 6, 5, _ => (by kernel_rfl : eqO (kT 6 a) (kT 5 b) = false)
  | 6, 7, _ => (by kernel_rfl : eqO (kT 6 a) (kT 7 b) = false)
  | 6, 8, _ => (by kernel_rfl : eqO (kT 6 a) (kT 8 b) = false)
  | 6, 9, _ => (by kernel_rfl : eqO (kT 6 a) (kT 9 b) = false)
  | 7, 0, _ => (by kernel_rfl : eqO (kT 7 a) (kT 0 b) = false)
  | 7, 1, _ => (by kernel_rfl : eqO (kT 7 a) (kT 1 b) = false)
  | 7, 2, _ => (by kernel_rfl : eqO (kT 7 a) (kT 2 b) = false)
  | 7, 3, _ => (by kernel_rfl : eqO (kT 7 a) (kT 3 b) = false)
  | 7, 4, _ => (by kernel_rfl : eqO (kT 7 a) (kT 4 b) = false)
  | 7, 5, _ => (by kernel_rfl : eqO (kT 7 a) (kT 5 b) = false)
  | 7, 6, _ => (by kernel_rfl : eqO (kT 7 a) (kT 6 b) = false)
  | 7, 8, _ => (by kernel_rfl : eqO (kT 7 a) (kT 8 b) = false)
  | 7, 9, _ => (by kernel_rfl : eqO (kT 7 a) (kT 9 b) = false)
  | 8, 0, _ => (by kernel_rfl : eqO (kT 8 a) (kT 0 b) = false)
  | 8, 1, _ => (by kernel_rfl : eqO (kT 8 a) (kT 1 b) = false)
  | 8, 2, _ => (by kernel_rfl : eqO (kT 8 a) (kT 2 b) = false)
  | 8, 3, _ => (by kernel_rfl : eqO (kT 8 a) (kT 3 b) = false)
  | 8, 4, _ => (by kernel_rfl : eqO (kT 8 a) (kT 4 b) = false)
  | 8, 5, _ => (by kernel_rfl : eqO (kT 8 a) (kT 5 b) = false)
  | 8, 6, _ => (by kernel_rfl : eqO (kT 8 a) (kT 6 b) = false)
  | 8, 7, _ => (by kernel_rfl : eqO (kT 8 a) (kT 7 b) = false)
  | 8, 9, _ => (by kernel_rfl : eqO (kT 8 a) (kT 9 b) = false)
  | 9, 0, _ => (by kernel_rfl : eqO (kT 9 a) (kT 0 b) = false)
  | 9, 1, _ => (by kernel_rfl : eqO (kT 9 a) (kT 1 b) = false)
  | 9, 2, _ => (by kernel_rfl : eqO (kT 9 a) (kT 2 b) = false)
  | 9, 3, _ => (by kernel_rfl : eqO (kT 9 a) (kT 3 b) = false)
  | 9, 4, _ => (by kernel_rfl : eqO (kT 9 a) (kT 4 b) = false)
  | 9, 5, _ => (by kernel_rfl : eqO (kT 9 a) (kT 5 b) = false)
  | 9, 6, _ => (by kernel_rfl : eqO (kT 9 a) (kT 6 b) = false)
  | 9, 7, _ => (by kernel_rfl : eqO (kT 9 a) (kT 7 b) = false)
  | 9, 8, _ => (by kernel_rfl : eqO (kT 9 a) (kT 8 b) = false)
  | 0, 0, h => absurd rfl h
  | 1, 1, h => absurd rfl h
  | 2, 2, h => absurd rfl h
  | 3, 3, h => absurd rfl h
  | 4, 4, h => absurd rfl h
  | 5, 5, h => absurd rfl h
  | 6, 6, h => absurd rfl h
  | 7, 7, h => absurd rfl h
  | 8, 8, h => absurd rfl h
  | 9, 9, h => absurd rfl h
theorem key_eq {a b : Nat} (ha : a < 900) (hb : b < 900) : eqO (keyD a) (keyD b) = decide (a = b) := by
  by_cases ht : tgK a = tgK b
  · unfold keyD
    rw [← ht]
    by_cases h9 : tgK a < 9
    · exact key_same h9 ha hb
    · have e : ∀ n, ¬ tgK n < 9 → n = 3 := fun n hn => by
        unfold tgK at hn
        split at hn
        · assumption
        · omega
      have e1 := e a h9
      have e2 := e b (ht ▸ h9)
      subst e1 e2
      exact (by kernel_rfl : eqO (kT 9 3) (kT 9 3) = true)
  · have := key_diff a b ⟨tgK a, by have := tgK_le a; omega⟩ ⟨tgK b, by have := tgK_le b; omega⟩ (fun h => ht (congrArg Fin.val h))
    unfold keyD
    rw [this, decide_eq_false (fun h => ht (by rw [h]))]
/-- The family of KeyedModel's keys. -/
def kdM (i : Fin 900) : Dt := keyD i.val
theorem fam_key : Fam kdM (fun _ => true) := fun a b => by
  rw [Bool.true_and]
  exact (key_eq a.isLt b.isLt).trans (decide_eq_decide.2 Fin.val_inj)
end Go.Proofs.YtlhfickniegooaaDoor
