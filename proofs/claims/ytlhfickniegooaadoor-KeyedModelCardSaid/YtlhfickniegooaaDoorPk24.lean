/-
  KeyedNever: its data, what its variables hold, its first two loops. KeyedNever: its first two loops. KeyedNever: its second loop. KeyedNever: the loop within its range. Written by an AI agent.
-/
import Derived.Test.YtlhfickniegooaaDoorPk22
import Derived.Test.YtlhfickniegooaaDoorPk23
namespace Go.Proofs.YtlhfickniegooaaDoor
open Go.RowKit
set_option maxRecDepth 100000

def floatW : ByteArray := ⟨#[102, 108, 111, 97, 116]⟩
def nan0 : Dt := pD 3 floatW 0 9221120237041090561 ⟨#[]⟩
def nanX : Dt := ⟨pH 8 ⟨#[83]⟩ 0 0 ⟨#[]⟩, .cons (wholeD 1).h .nil (.cons nan0.h .nil (.cons listD.h .nil .nil))⟩
/-- What is asked of a key that is not equal to itself. -/
structure NanOk (d : Dt) : Prop where
  ok : d.ok
  right : rB d = true
  key : kB d = true
  self : eqO d d = false
  toW : ∀ x, eqO d (wholeD x) = false
  ofW : ∀ x, eqO (wholeD x) d = false
  same : sameD d.h d.k d.h d.k = true
  diff : ∀ x, sameD (wholeD x).h (wholeD x).k d.h d.k = false
theorem nan0_ok : NanOk nan0 where
  ok := pD_ok (by unfold okInt; omega) (by unfold okInt; omega) (by omega) (by omega) (by show (5 : Nat) ≤ _; omega) (by show (0 : Nat) ≤ _; omega)
  right := by kernel_rfl
  key := by kernel_rfl
  self := by kernel_rfl
  toW := fun x => by kernel_rfl
  ofW := fun x => by kernel_rfl
  same := by kernel_rfl
  diff := fun x => by kernel_rfl
theorem nanX_ok : NanOk nanX where
  ok :=
    { h := (pD_ok (kind := 8) (type := ⟨#[83]⟩) (n := 0) (f := 0) (s := ⟨#[]⟩) (by unfold okInt; omega) (by unfold okInt; omega) (by omega) (by omega) (by show (1 : Nat) ≤ _; omega) (by show (0 : Nat) ≤ _; omega)).h
      k := ⟨(whole_ok (okI 1 (by omega) (by omega))).h, trivial, ⟨nan0_ok.ok.h, trivial, ⟨list_ok.h, trivial, trivial, by show (0 : Nat) ≤ _; omega⟩, by show (0 : Nat) ≤ _; omega⟩, by show (0 : Nat) ≤ _; omega⟩
      len := by show (3 : Nat) ≤ _; omega }
  right := by kernel_rfl
  key := by kernel_rfl
  self := by kernel_rfl
  toW := fun x => by kernel_rfl
  ofW := fun x => by kernel_rfl
  same := by kernel_rfl
  diff := fun x => by kernel_rfl
def nanC (w : World) : Array Value := ⟨((wholeD 1).cs m0).toList ++ ((nan0.cs m0).toList ++ (listD.cs m0).toList)⟩
theorem nanX_at {w : World} {g : Nat} {t : TypeId} {cs : Array Value} (h : Blk w g t cs) (e : cs = ⟨((wholeD 1).cs m0).toList ++ ((nan0.cs m0).toList ++ (listD.cs m0).toList)⟩) : nanX.at w (fun b => b = g) ⟨none, 0, some ⟨g, 0, none⟩, 3⟩ := by
  subst e
  have row : ∀ (d : Dt) (o : Nat), ((((wholeD 1).cs m0).toList ++ ((nan0.cs m0).toList ++ (listD.cs m0).toList)).drop o).take 11 = (d.cs m0).toList → CellsAt w g o (d.cs m0) := fun d o e j v hv => range_of h o 11 e j v (by simpa using hv)
  have z : (0 : Nat) ≤ 9223372036854775807 := by omega
  refine ⟨.inl rfl, Nat.zero_le _, z, .inr ⟨g, 0, rfl, rfl, ⟨⟨none, 0, none, 0, row (wholeD 1) 0 rfl, .inl rfl, Nat.zero_le _, z, Nat.zero_le _, z, .inl rfl⟩, ⟨none, 0, none, 0, row nan0 11 rfl, .inl rfl, Nat.zero_le _, z, Nat.zero_le _, z, .inl rfl⟩, ⟨none, 0, none, 0, row listD 22 rfl, .inl rfl, Nat.zero_le _, z, Nat.zero_le _, z, .inl rfl⟩, trivial⟩⟩, Nat.le_refl _, by show (3 : Nat) ≤ _; omega⟩
/-- The keys of KeyedNever: the one that is equal to none; wholes. -/
def kdN (nan : Dt) : Option Int → Dt
  | none => nan
  | some x => wholeD x
theorem fam_nan {d : Dt} (h : NanOk d) : Fam (kdN d) Option.isSome := fun a b => by
  cases a with
  | none => cases b with
    | none => simpa [kdN] using h.self
    | some y => simpa [kdN] using h.toW y
  | some x => cases b with
    | none => simpa [kdN] using h.ofW x
    | some y =>
      rw [show kdN d (some x) = wholeD x from rfl, show kdN d (some y) = wholeD y from rfl, whole_eq]
      by_cases q : x = y <;> simp [q]

/-- What does not change while KeyedNever runs. -/
structure NvP where
  w0 : World
  SI : Nat → Prop
  m : Nat
  g2 : Nat
  g6 : Nat
  g7 : Nat
  nan : Dt
  mn : Dm
  dl : Option Addr
  ql : Nat
  xs : List Int
structure NvP.ok (c : NvP) : Prop where
  own : OwnAt c.w0
  b2 : Blk c.w0 c.g2 22 #[.slice c.dl c.xs.length c.ql]
  ls : PathAt c.w0 (fun b => b < c.w0.heap.size) c.dl c.xs
  rng : ∀ (j : Nat) (x : Int), c.xs[j]? = some x → okInt x
  nan : NanOk c.nan
structure NvS (c : NvP) (K D O : Nat → Prop) (R : List En) (u : World) : Prop where
  ks : KS c.w0 K u c.m R D O
  b6 : Blk u c.g6 24 #[.pointer (some ⟨c.m, 0, none⟩)]
  b7 : Blk u c.g7 31 (c.nan.cs c.mn)
  na : c.nan.at u c.SI c.mn
  k6 : K c.g6
  k7 : K c.g7
  ki : ∀ b, c.SI b → K b
section
variable {c : NvP} {K D O : Nat → Prop} {R : List En} {u u' : World}
theorem NvS.old (h : NvS c K D O R u) (hb : Below u.heap.size u u') : NvS c K D O R u' :=
  ⟨h.ks.old hb, h.b6.below hb h.b6.lt, h.b7.below hb h.b7.lt, h.na.old hb, h.k6, h.k7, h.ki⟩
theorem NvS.step (h : NvS c K D O R u) {R' : List En} {D' O' : Nat → Prop} (hk : KS c.w0 K u' c.m R' D' O') (hm : Moved O u u') : NvS c K D' O' R' u' :=
  ⟨hk, h.b6.stay (h.ks.stay hm h.k6), h.b7.stay (h.ks.stay hm h.k7), h.na.keep (fun b hb _ => h.ks.stay hm (h.ki b hb)) (fun _ h _ => h), h.k6, h.k7, h.ki⟩
theorem NvS.add (h : NvS c K D O R u) (hb : Below u.heap.size u u') {K' : Nat → Prop} (hK : ∀ b, K' b → K b ∨ (u.heap.size ≤ b ∧ b < u'.heap.size)) (hK' : ∀ b, K b → K' b) : NvS c K' D O R u' :=
  ⟨h.ks.add hb hK, h.b6.below hb h.b6.lt, h.b7.below hb h.b7.lt, h.na.old hb, hK' _ h.k6, hK' _ h.k7, fun b hb => hK' _ (h.ki b hb)⟩
theorem NvS.l6 (h : NvS c K D O R u) : Lds Tryd.prog 24 (.pointer (some ⟨c.g6, 0, none⟩)) (.pointer (some ⟨c.m, 0, none⟩)) u := one_load h.b6 Tryd.underlying24 rfl rfl
theorem NvS.l7 (h : NvS c K D O R u) : Lds Tryd.prog 31 (.pointer (some ⟨c.g7, 0, none⟩)) (.agg (c.nan.cs c.mn)) u := dat_whole h.b7
theorem NvS.l2 (h : NvS c K D O R u) (hc : c.ok) : Lds Tryd.prog 22 (.pointer (some ⟨c.g2, 0, none⟩)) (.slice c.dl c.xs.length c.ql) u := one_load (hc.b2.below h.ks.low hc.b2.lt) Tryd.underlying22 rfl rfl
theorem intInf : (Tryd.prog.info? 3).map (·.size) = some 1 := by kernel_rfl
theorem NvP.ok.at (hc : c.ok) {j : Nat} {x : Int} (hx : c.xs[j]? = some x) : ∃ g o, c.dl = some ⟨g, o, none⟩ ∧ g < c.w0.heap.size ∧ c.w0.cell? ⟨g, o + j, none⟩ = some (.int .i64 x) := by
  rcases hc.ls with h | ⟨g, o, h1, h2, h3⟩
  · rw [h] at hx; cases hx
  · exact ⟨g, o, h1, h2, h3 j x hx⟩
theorem rem_three {x : Int} (hx : okInt x) (w : World) : (binOp .rem 3 (.int .i64 x) (.int .i64 3)).run Tryd.prog w = .ok (.int .i64 (x.tmod 3)) w := by
  unfold okInt at hx
  have h1 := Int.tmod_lt_of_pos x (show (0 : Int) < 3 by omega)
  have h2 : -3 < x.tmod 3 := by
    rcases Int.le_total 0 x with q | q
    · have := Int.tmod_nonneg 3 q
      omega
    · have h3 := Int.tmod_lt_of_pos (-x) (show (0 : Int) < 3 by omega)
      rw [Int.neg_tmod] at h3
      omega
  have hw : IntKind.i64.wrap (x.tmod 3) = x.tmod 3 := in_wrap ⟨by simp [IntKind.min, IntKind.signed, IntKind.bits]; omega, by simp [IntKind.max, IntKind.signed, IntKind.bits]; omega⟩
  simp only [binOp, Op.intArith, Op.intDiv]
  simp [hw]
end
end Go.Proofs.YtlhfickniegooaaDoor

namespace Go.Proofs.YtlhfickniegooaaDoor
open Go.RowKit
set_option maxRecDepth 100000

def cN (L : List (Option Int × Dt)) : Nat := (L.map (·.1)).countP (·.isNone)
theorem cN_fst {L L' : List (Option Int × Dt)} (e : L'.map (·.1) = L.map (·.1)) : cN L' = cN L := by unfold cN; rw [e]
/-- What lies in the map once the first j numbers have been put. -/
structure NI (xs : List Int) (j cn : Nat) (L : List (Option Int × Dt)) : Prop where
  val : ∀ p ∈ L, p.1 = none ∨ ∃ x i, p.1 = some x ∧ p.2 = wholeD x ∧ i < j ∧ xs[i]? = some x ∧ x.tmod 3 ≠ 0
  has : ∀ i x, i < j → xs[i]? = some x → x.tmod 3 ≠ 0 → some x ∈ L.map (·.1)
  cnt : cN L = cn
  len : L.length ≤ j
theorem NI.nil (xs : List Int) : NI xs 0 0 [] := ⟨fun _ h => (by cases h), fun i x h => (by omega), rfl, Nat.le_refl _⟩
theorem NI.nan {xs : List Int} {j cn : Nat} {L : List (Option Int × Dt)} (h : NI xs j cn L) {x : Int} (hx : xs[j]? = some x) (h3 : x.tmod 3 = 0) : NI xs (j + 1) (cn + 1) (putA Option.isSome L none (wholeD x)) := by
  have e : putA Option.isSome L none (wholeD x) = (none, wholeD x) :: L := by unfold putA; rw [if_neg (fun q => by simp at q)]
  rw [e]
  refine ⟨fun p hp => ?_, fun i y hi hy h3' => ?_, ?_, ?_⟩
  · rcases List.mem_cons.1 hp with rfl | hp
    · exact .inl rfl
    · rcases h.val p hp with q | ⟨y, i, q1, q2, q3, q4⟩
      · exact .inl q
      · exact .inr ⟨y, i, q1, q2, by omega, q4⟩
  · rw [List.map_cons]
    rcases Nat.lt_or_ge i j with q | q
    · exact List.mem_cons_of_mem _ (h.has i y q hy h3')
    · have : i = j := by omega
      subst this
      rw [hx] at hy
      injection hy with hy
      exact absurd (hy ▸ h3) h3'
  · unfold cN
    rw [List.map_cons, List.countP_cons]
    have := h.cnt
    unfold cN at this
    rw [this]
    rfl
  · rw [List.length_cons]
    have := h.len
    omega
theorem map_fst {L : List (Option Int × Dt)} {i : Option Int} {v : Dt} : (L.map (fun p => if p.1 = i then (i, v) else p)).map (·.1) = L.map (·.1) := by
  rw [List.map_map]
  refine List.map_congr_left fun p _ => ?_
  show (if p.1 = i then (i, v) else p).1 = p.1
  split
  · rename_i h; exact h.symm
  · rfl
theorem NI.whole {xs : List Int} {j cn : Nat} {L : List (Option Int × Dt)} (h : NI xs j cn L) {x : Int} (hx : xs[j]? = some x) (h3 : x.tmod 3 ≠ 0) : NI xs (j + 1) cn (putA Option.isSome L (some x) (wholeD x)) := by
  have hold : ∀ p ∈ L, p.1 = none ∨ ∃ x i, p.1 = some x ∧ p.2 = wholeD x ∧ i < j + 1 ∧ xs[i]? = some x ∧ x.tmod 3 ≠ 0 := fun p hp => by
    rcases h.val p hp with q | ⟨y, i, q1, q2, q3, q4⟩
    · exact .inl q
    · exact .inr ⟨y, i, q1, q2, by omega, q4⟩
  have hlen := h.len
  unfold putA
  split
  · rename_i hq
    refine ⟨fun p hp => ?_, fun i y hi hy h3' => ?_, (cN_fst map_fst).trans h.cnt, by rw [List.length_map]; omega⟩
    · obtain ⟨q, hq1, rfl⟩ := List.mem_map.1 hp
      split
      · exact .inr ⟨x, j, rfl, rfl, by omega, hx, h3⟩
      · exact hold q hq1
    · rw [map_fst]
      rcases Nat.lt_or_ge i j with q | q
      · exact h.has i y q hy h3'
      · have : i = j := by omega
        subst this
        rw [hx] at hy
        injection hy with hy
        rw [← hy]
        exact hq.2
  · refine ⟨fun p hp => ?_, fun i y hi hy h3' => ?_, ?_, ?_⟩
    · rcases List.mem_cons.1 hp with rfl | hp
      · exact .inr ⟨x, j, rfl, rfl, by omega, hx, h3⟩
      · exact hold p hp
    · rw [List.map_cons]
      rcases Nat.lt_or_ge i j with q | q
      · exact List.mem_cons_of_mem _ (h.has i y q hy h3')
      · have : i = j := by omega
        subst this
        rw [hx] at hy
        injection hy with hy
        rw [← hy]
        exact List.mem_cons_self
    · have := h.cnt
      unfold cN at this ⊢
      rw [List.map_cons, List.countP_cons, this]
      rfl
    · rw [List.length_cons]
      omega
def nvN (c : NvP) : Nat := min c.xs.length 100
section
variable {c : NvP} {K : Nat → Prop}
/-- The map at a time: its entries are those pairs. -/
def NvM (c : NvP) (K D O : Nat → Prop) (R : List En) (L : List (Option Int × Dt)) (u : World) : Prop := NvS c K D O R u ∧ Rep (kdN c.nan) R L ∧ UL Option.isSome L
theorem NvM.old {D O : Nat → Prop} {R : List En} {L : List (Option Int × Dt)} {u u' : World} (h : NvM c K D O R L u) (hb : Below u.heap.size u u') : NvM c K D O R L u' := ⟨h.1.old hb, h.2⟩
theorem nv_put (hc : c.ok) {D O : Nat → Prop} {R : List En} {L : List (Option Int × Dt)} {u : World} (h : NvM c K D O R L u) (hL : L.length ≤ 1000) (i : Option Int) (x : Int) (hx : okInt x) {d : Dt} {md : Dm} {S : Nat → Prop} (ed : d = kdN c.nan i) (ho : d.ok) (hd : d.at u S md) (hS : ∀ b, S b → ¬ O b) (hr : rB d = true) (hk : kB d = true) :
    Calls Tryd.prog 9 #[.pointer (some ⟨c.m, 0, none⟩), .agg (d.cs md), .agg ((wholeD x).cs m0)] u fun e u' => e = .returned .nilIface ∧ ∃ D' O' R', NvM c K D' O' R' (putA Option.isSome L i (wholeD x)) u' := by
  obtain ⟨h1, h2, h3⟩ := h
  refine (ks_put h1.ks hc.own (by rw [h2.len]; omega) ho (whole_ok hx) hd (pD_at _ _ _ _ _ _ (fun _ => False)) hS (fun _ h => h.elim) hr (whole_right x).1 hk).mono fun e u' hh => ?_
  obtain ⟨q1, R', D', O', q2, q3, q4, _⟩ := hh
  subst ed
  have := rep_put (fam_nan hc.nan) h1.ks.map.keys h1.ks.map.nodup h3 h2 q2
  exact ⟨q1, D', O', R', h1.step q3 q4, this.1, this.2⟩

set_option maxHeartbeats 2000000 in
theorem lv_loop1 {Q : Exit → Act → World → Prop} (hc : c.ok) {D O : Nat → Prop} {u : World} {a : Act} {g4 : Nat} (hs : Sl 208 a [(8, .int .i64 ((0 : Nat) : Int)), (7, .pointer (some ⟨c.g7, 0, none⟩)), (6, .pointer (some ⟨c.g6, 0, none⟩)), (4, .pointer (some ⟨g4, 0, none⟩)), (2, .pointer (some ⟨c.g2, 0, none⟩))] [])
    (hS : NvM c K D O [] [] u)
    (hQ : ∀ (a' : Act) (u' : World) (cn : Nat) (D' O' : Nat → Prop) (R : List En) (L : List (Option Int × Dt)), Sl 208 a' [(8, .int .i64 (cn : Int)), (7, .pointer (some ⟨c.g7, 0, none⟩)), (6, .pointer (some ⟨c.g6, 0, none⟩)), (4, .pointer (some ⟨g4, 0, none⟩)), (2, .pointer (some ⟨c.g2, 0, none⟩))] → NvM c K D' O' R L u' → NI c.xs (nvN c) cn L → Q .normal a' u') :
    (Code.seq (r_lv 9) (.block 0 (.loop lvL2))).wp Tryd.prog Q a u := by
  refine wp_seq (rg_wp (lv_r9 hs fun a1 h1 => ?_))
  have h1 : Sl 208 a1 [(9, .int .i64 ((0 : Nat) : Int)), (8, .int .i64 ((0 : Nat) : Int)), (7, .pointer (some ⟨c.g7, 0, none⟩)), (6, .pointer (some ⟨c.g6, 0, none⟩)), (4, .pointer (some ⟨g4, 0, none⟩)), (2, .pointer (some ⟨c.g2, 0, none⟩))] := h1.to ⟨rfl, rfl, rfl, rfl, rfl, rfl, trivial⟩
  refine wp_block ?_
  refine wp_loop (fun a' wr => ∃ (j cn : Nat) (D O : Nat → Prop) (R : List En) (L : List (Option Int × Dt)), j ≤ nvN c ∧ Sl 208 a' [(9, .int .i64 (j : Int)), (8, .int .i64 (cn : Int)), (7, .pointer (some ⟨c.g7, 0, none⟩)), (6, .pointer (some ⟨c.g6, 0, none⟩)), (4, .pointer (some ⟨g4, 0, none⟩)), (2, .pointer (some ⟨c.g2, 0, none⟩))] ∧ NvM c K D O R L wr ∧ NI c.xs j cn L) (fun a' _ => muTo (nvN c) (slot a' 9))
    ⟨0, 0, D, O, [], [], Nat.zero_le _, h1, hS, NI.nil _⟩ ?_
  rintro a2 w2 ⟨j, cn, D2, O2, R, L, hj, h2, hM, hN⟩
  rw [h2.look 9 rfl, muTo_int]
  unfold lvL2
  have hNle : nvN c ≤ c.xs.length ∧ nvN c ≤ 100 := ⟨Nat.min_le_left _ _, Nat.min_le_right _ _⟩
  have hl := hN.len
  by_cases hlt : j < nvN c
  · refine wp_seq (wp_seq (rg_wp (lv_r10_t (b50 := true) h2 rfl rfl (hM.1.l2 hc) (decide_eq_true (by omega)) (decide_eq_true (by omega)) fun a3 h3 => wpn (h3.look 51 rfl) ?_)))
    obtain ⟨x, hx⟩ : ∃ x, c.xs[j]? = some x := ⟨c.xs[j], by simp [show j < c.xs.length by omega]⟩
    obtain ⟨g, o, hdl, hg, hcell⟩ := hc.at hx
    have hxo := hc.rng j x hx
    have hld : ∀ u, NvM c K D2 O2 R L u → Lds Tryd.prog 3 (.pointer (some ⟨g, o + j * 1, none⟩)) (.int .i64 x) u := fun u hu => by
      rw [Nat.mul_one]
      exact lds1 Tryd.underlying3 rfl ((hu.1.ks.low.cell (p := ⟨g, o + j, none⟩) hg).trans hcell)
    have hix : ∀ w, (Instr.indexAt 22 (.slice c.dl c.xs.length c.ql) (.int .i64 (j : Int))).run Tryd.prog w = .ok (.pointer (some ⟨g, o + j * 1, none⟩)) w := fun w => by
      rw [hdl]
      exact ix_at2 j Tryd.underlying22 intInf (by omega) w
    have hdr : ∀ u, NvM c K D2 O2 R L u → NvM c K D2 O2 R L (u.drewN 1) := fun u hu => hu.old (below_drewN (Below.refl _ _) 1)
    have hwh : ∀ u, NvM c K D2 O2 R L u → Calls Tryd.prog 8 #[.int .i64 x] u fun e w' => e = .returned (.agg ((wholeD x).cs m0)) ∧ NvM c K D2 O2 R L w' := fun u hu => (kwhole_any x u).mono fun e u' hh => ⟨hh.1, hu.old hh.2⟩
    have next : ∀ (a' : Act) (w' : World) (cn' : Nat) (D' O' : Nat → Prop) (R' : List En) (L' : List (Option Int × Dt)), Sl 208 a' [(9, .int .i64 (j : Int)), (8, .int .i64 (cn' : Int)), (7, .pointer (some ⟨c.g7, 0, none⟩)), (6, .pointer (some ⟨c.g6, 0, none⟩)), (4, .pointer (some ⟨g4, 0, none⟩)), (2, .pointer (some ⟨c.g2, 0, none⟩))] → NvM c K D' O' R' L' w' → NI c.xs (j + 1) cn' L' →
        ∀ Qn : Exit → Act → World → Prop, (∀ a'', ((∃ (j cn : Nat) (D O : Nat → Prop) (R : List En) (L : List (Option Int × Dt)), j ≤ nvN c ∧ Sl 208 a'' [(9, .int .i64 (j : Int)), (8, .int .i64 (cn : Int)), (7, .pointer (some ⟨c.g7, 0, none⟩)), (6, .pointer (some ⟨c.g6, 0, none⟩)), (4, .pointer (some ⟨g4, 0, none⟩)), (2, .pointer (some ⟨c.g2, 0, none⟩))] ∧ NvM c K D O R L w' ∧ NI c.xs j cn L) ∧ muTo (nvN c) (slot a'' 9) < nvN c - j) → Qn .normal a'' w') → (r_lv 11).wp Tryd.prog Qn a' w' := fun a' w' cn' D' O' R' L' h' hM' hN' Qn hQn => by
      refine wpl (rg_wp (lv_r11 h' rfl (by omega) fun a6 h6 => hQn a6 ⟨⟨j + 1, cn', D', O', R', L', by omega, h6.to ⟨rfl, rfl, rfl, rfl, rfl, rfl, trivial⟩, hM', hN'⟩, ?_⟩))
      rw [h6.look 9 rfl]
      show muTo (nvN c) (.int .i64 ((j + 1 : Nat) : Int)) < _
      rw [muTo_int]
      omega
    refine wp_seq (wp_block ?_)
    by_cases h3' : x.tmod 3 = 0
    · refine wp_seq (rg_wp (lv_r12 (b59 := true) h3 rfl rfl (hM.1.l2 hc) hix (hld _ hM) (rem_three hxo) (decide_eq_true h3') fun a4 h4 => wp_cond_true (h4.look 59 rfl) ?_))
      refine wp_seq (rg_wp (lv_r13 h4 rfl (by have := hN.cnt; have : cN L ≤ (L.map (·.1)).length := List.countP_le_length; rw [List.length_map] at this; omega) fun a5 h5 => ?_))
      refine wp_seq (rg_wp (lv_r14 (C := fun u => NvM c K D2 O2 R L u) (C0 := fun u => NvM c K D2 O2 R L u) (C1 := fun u => ∃ D' O' R', NvM c K D' O' R' (putA Option.isSome L none (wholeD x)) u) h5 rfl rfl rfl rfl (fun u hu => hu.1.l6) (fun u hu => hu.1.l7) (fun u hu => hu.1.l2 hc) hix hld (hdr _ hM) (hwh _ (hdr _ hM)) (fun _ h => h)
        (fun u hu => nv_put hc hu (by omega) none x hxo rfl hc.nan.ok hu.1.na (fun b hb => hu.1.ks.noO (.inl (hu.1.ki b hb))) hc.nan.right hc.nan.key) fun a6 u6 w6 _ hx6 h6 => ?_))
      obtain ⟨D6, O6, R6, hM6⟩ := hx6
      refine wp_seq (rg_wp (lv_r15 h6 rfl fun a7 h7 => wpc_off (h7.look 71 rfl) (block_norm ?_)))
      exact next a7 w6 (cn + 1) D6 O6 R6 _ (h7.to ⟨rfl, rfl, rfl, rfl, rfl, rfl, trivial⟩) hM6 (hN.nan hx h3') _ (fun _ h => h)
    · refine wp_seq (rg_wp (lv_r12 (b59 := false) h3 rfl rfl (hM.1.l2 hc) hix (hld _ hM) (rem_three hxo) (decide_eq_false h3') fun a4 h4 => wp_cond_false (h4.look 59 rfl) ?_))
      refine wp_seq (rg_wp (lv_r17 (C := fun u => NvM c K D2 O2 R L u) (C0 := fun u => NvM c K D2 O2 R L u) (C1 := fun u => NvM c K D2 O2 R L u) (C2 := fun u => ∃ D' O' R', NvM c K D' O' R' (putA Option.isSome L (some x) (wholeD x)) u) h4 rfl rfl rfl (fun u hu => hu.1.l6) (fun u hu => hu.1.l2 hc) hix hld (hdr _ hM) (hwh _ (hdr _ hM)) (fun _ h => h) (fun u hu => hwh u hu) (fun _ _ _ h => h)
        (fun u _ u2 hu => nv_put hc hu (by omega) (some x) x hxo rfl (whole_ok hxo) (pD_at _ _ _ _ _ _ (fun _ => False)) (fun b hb => hb.elim) (whole_right x).1 (whole_right x).2) fun a6 u5 u6 w6 _ _ hx6 h6 => ?_))
      obtain ⟨D6, O6, R6, hM6⟩ := hx6
      refine wp_seq (rg_wp (lv_r18 h6 rfl fun a7 h7 => wpc_off (h7.look 85 rfl) (block_norm ?_)))
      exact next a7 w6 cn D6 O6 R6 _ (h7.to ⟨rfl, rfl, rfl, rfl, rfl, rfl, trivial⟩) hM6 (hN.whole hx h3') _ (fun _ h => h)
  · have hjn : j = nvN c := by omega
    have done : ∀ a', Sl 208 a' [(9, .int .i64 (j : Int)), (8, .int .i64 (cn : Int)), (7, .pointer (some ⟨c.g7, 0, none⟩)), (6, .pointer (some ⟨c.g6, 0, none⟩)), (4, .pointer (some ⟨g4, 0, none⟩)), (2, .pointer (some ⟨c.g2, 0, none⟩))] → Q .normal a' w2 := fun a' h' => hQ a' w2 cn D2 O2 R L (h'.to ⟨rfl, rfl, rfl, rfl, rfl, trivial⟩) hM (hjn ▸ hN)
    by_cases hxl : j < c.xs.length
    · have h100 : j = 100 := by
        unfold nvN at hjn
        omega
      refine wp_seq (wp_seq (rg_wp (lv_r10_t (b50 := false) h2 rfl rfl (hM.1.l2 hc) (decide_eq_true (by omega)) (decide_eq_false (by omega)) fun a3 h3 => wpx (h3.look 51 rfl) ?_)))
      exact then_exit' (in_block2 (done a3 (h3.to ⟨rfl, rfl, rfl, rfl, rfl, rfl, trivial⟩)))
    · refine wp_seq (wp_seq (rg_wp (lv_r10_f h2 rfl rfl (hM.1.l2 hc) (decide_eq_false (by omega)) fun a3 h3 => wpx (h3.look 51 rfl) ?_)))
      exact then_exit' (in_block2 (done a3 (h3.to ⟨rfl, rfl, rfl, rfl, rfl, rfl, trivial⟩)))
end
end Go.Proofs.YtlhfickniegooaaDoor

namespace Go.Proofs.YtlhfickniegooaaDoor
open Go.RowKit
set_option maxRecDepth 100000

/-- A fresh datum's block, stored over in a later world. -/
theorem box_over {v u : World} (hb : Below (v.alloc (.cells zeroC 31)).heap.size (v.alloc (.cells zeroC 31)) u) (d : Dt) (m : Dm) :
    (Instr.storeAt 31 (.pointer (some ⟨v.heap.size, 0, none⟩)) (.agg (d.cs m))).run Tryd.prog u = .ok () (u.setCells v.heap.size 0 (d.cs m).toList) ∧
    Blk (u.setCells v.heap.size 0 (d.cs m).toList) v.heap.size 31 (d.cs m) ∧ Below v.heap.size v (u.setCells v.heap.size 0 (d.cs m).toList) := by
  have h1 := (Blk.new v 31 zeroC)
  have h2 := h1.below hb h1.lt
  exact ⟨dat_store h2 (by show 0 + 11 ≤ 11; omega), over_dat h2 rfl d m, below_setCells _ _ _ (bl_trans (bl_alloc (Below.refl _ _) _) hb) (Nat.le_refl _)⟩
/-- Region 28: the datum's block may be made ahead of either call or behind both. -/
theorem lv_r28b {a : Act} {w : World} {df : List Deferred} {N : Act → World → Prop} {Q : Exit → Act → World → Prop} {l : List (Nat × Value)} {g6 gm g2 nl ql i g o : Nat} {dl : Option Addr} {x : Int} {dg : Dt} (hs : Sl 208 a l df) (e6 : l.lookup 6 = some (.pointer (some (⟨g6, 0, none⟩)))) (e2 : l.lookup 2 = some (.pointer (some (⟨g2, 0, none⟩)))) (e17 : l.lookup 17 = some (.int .i64 (i : Int)))
    (l1 : ∀ u, Below w.heap.size w u → Lds Tryd.prog 24 (.pointer (some (⟨g6, 0, none⟩))) (.pointer (some (⟨gm, 0, none⟩))) u) (l2 : ∀ u, Below w.heap.size w u → Lds Tryd.prog 22 (.pointer (some (⟨g2, 0, none⟩))) (.slice dl nl ql) u)
    (i3 : ∀ w, (Instr.indexAt 22 (.slice dl nl ql) (.int .i64 (i : Int))).run Tryd.prog w = .ok (.pointer (some (⟨g, o, none⟩))) w) (l4 : ∀ u, Below w.heap.size w u → Lds Tryd.prog 3 (.pointer (some (⟨g, o, none⟩))) (.int .i64 x) u)
    (kg : ∀ u, Below w.heap.size w u → Calls Tryd.prog 10 #[.pointer (some (⟨gm, 0, none⟩)), .agg ((wholeD x).cs m0)] u fun e w' => ∃ xm : Dm, e = .returned (.tuple #[.agg (dg.cs xm), .bool true, .nilIface]) ∧ Below u.heap.size u w')
    (hN : ∀ (a' : Act) (g' : Nat) (xm : Dm) (u : World), Below w.heap.size w u → Blk u g' 31 (dg.cs xm) → Sl 208 a' ((18, .pointer (some (⟨g', 0, none⟩))) :: (19, .bool true) :: (20, .nilIface) :: dropL (18 :: 19 :: 20 :: List.range' 127 11) l) df → N a' u) : rg Tryd.prog (Exit.then N Q) a w (r_lv 28) := by
  have c0 : Below w.heap.size w (w.drewN 1) := below_drewN (Below.refl _ _) 1
  have kw : ∀ u, Calls Tryd.prog 8 #[.int .i64 x] u fun e w' => ∃ q0 : Unit, e = .returned (.agg ((wholeD x).cs m0)) ∧ Below u.heap.size u w' := fun u => (kwhole_any x u).mono fun e u' hh => ⟨(), hh.1, hh.2⟩
  have st : ∀ {v u : World}, Below w.heap.size w v → Below (v.alloc (.cells zeroC 31)).heap.size (v.alloc (.cells zeroC 31)) u → ∀ xm, Below w.heap.size w (u.setCells v.heap.size 0 (dg.cs xm).toList) := fun hv hu xm => bl_trans hv (box_over hu dg xm).2.2
  refine lv_r28 (C := fun u => Below w.heap.size w u) (C0 := fun v _ u => Below v.heap.size v u) (C1 := fun v _ u => Below v.heap.size v u) hs e6 e2 e17 c0 l1 l2 i3 l4 (kw _) (fun _ u h => bl_trans c0 h) (fun _ u h => kg u (bl_trans c0 h)) (fun _ u h _ u2 h2 => bl_trans (bl_trans c0 h) h2) (fun _ u h _ u2 h2 => bl_alloc (bl_trans (bl_trans c0 h) h2) _)
    (fun _ u h xm u2 h2 => (box_over (Below.refl _ _) dg xm).1) (fun _ u h xm u2 h2 => st (bl_trans (bl_trans c0 h) h2) (Below.refl _ _) xm)
    (fun _ u h => bl_alloc (bl_trans c0 h) _) (fun _ u h => kg _ (bl_alloc (bl_trans c0 h) _)) (fun _ u h _ u2 h2 => bl_trans (bl_alloc (bl_trans c0 h) _) h2) (fun _ u h xm u2 h2 => (box_over h2 dg xm).1) (fun _ u h xm u2 h2 => st (bl_trans c0 h) h2 xm)
    (bl_alloc c0 _) (kw _) (fun _ u h => bl_trans (bl_alloc c0 _) h) (fun _ u h => kg u (bl_trans (bl_alloc c0 _) h)) (fun _ u h _ u2 h2 => bl_trans (bl_trans (bl_alloc c0 _) h) h2) (fun _ u h xm u2 h2 => (box_over (bl_trans h h2) dg xm).1) (fun _ u h xm u2 h2 => st c0 (bl_trans h h2) xm) ?_ ?_ ?_
  · intro a' _ u xm u2 h h2 hf
    exact hN a' _ xm _ (st (bl_trans (bl_trans c0 h) h2) (Below.refl _ _) xm) (box_over (Below.refl _ _) dg xm).2.1 hf
  · intro a' _ u xm u2 h h2 hf
    exact hN a' _ xm _ (st (bl_trans c0 h) h2 xm) (box_over h2 dg xm).2.1 hf
  · intro a' _ u xm u2 h h2 hf
    exact hN a' _ xm _ (st c0 (bl_trans h h2) xm) (box_over (bl_trans h h2) dg xm).2.1 hf

section
variable {c : NvP} {K : Nat → Prop}
set_option maxHeartbeats 2000000 in
theorem lv_loop2 {Q : Exit → Act → World → Prop} (hc : c.ok) {D O : Nat → Prop} {R : List En} {L : List (Option Int × Dt)} {cn : Nat} {u : World} {a : Act} {g4 : Nat} (hs : Sl 208 a [(8, .int .i64 (cn : Int)), (7, .pointer (some ⟨c.g7, 0, none⟩)), (6, .pointer (some ⟨c.g6, 0, none⟩)), (4, .pointer (some ⟨g4, 0, none⟩)), (2, .pointer (some ⟨c.g2, 0, none⟩))] [])
    (hS : NvM c K D O R L u) (hN : NI c.xs (nvN c) cn L)
    (hQ : ∀ (a' : Act) (u' : World), Sl 208 a' [(8, .int .i64 (cn : Int)), (7, .pointer (some ⟨c.g7, 0, none⟩)), (6, .pointer (some ⟨c.g6, 0, none⟩)), (4, .pointer (some ⟨g4, 0, none⟩)), (2, .pointer (some ⟨c.g2, 0, none⟩))] → NvM c K D O R L u' → Q .normal a' u') :
    (Code.seq (r_lv 24) (.block 2 (.loop lvL1))).wp Tryd.prog Q a u := by
  refine wp_seq (rg_wp (lv_r24 hs fun a1 h1 => ?_))
  have h1 : Sl 208 a1 [(17, .int .i64 ((0 : Nat) : Int)), (8, .int .i64 (cn : Int)), (7, .pointer (some ⟨c.g7, 0, none⟩)), (6, .pointer (some ⟨c.g6, 0, none⟩)), (4, .pointer (some ⟨g4, 0, none⟩)), (2, .pointer (some ⟨c.g2, 0, none⟩))] := h1.to ⟨rfl, rfl, rfl, rfl, rfl, rfl, trivial⟩
  refine wp_block ?_
  refine wp_loop (fun a' wr => ∃ (j : Nat), j ≤ nvN c ∧ Sl 208 a' [(17, .int .i64 (j : Int)), (8, .int .i64 (cn : Int)), (7, .pointer (some ⟨c.g7, 0, none⟩)), (6, .pointer (some ⟨c.g6, 0, none⟩)), (4, .pointer (some ⟨g4, 0, none⟩)), (2, .pointer (some ⟨c.g2, 0, none⟩))] ∧ NvM c K D O R L wr) (fun a' _ => muTo (nvN c) (slot a' 17))
    ⟨0, Nat.zero_le _, h1, hS⟩ ?_
  rintro a2 w2 ⟨j, hj, h2, hM⟩
  rw [h2.look 17 rfl, muTo_int]
  unfold lvL1
  have hNle : nvN c ≤ c.xs.length ∧ nvN c ≤ 100 := ⟨Nat.min_le_left _ _, Nat.min_le_right _ _⟩
  by_cases hlt : j < nvN c
  · refine wp_seq (wp_seq (rg_wp (lv_r25_t (b117 := true) h2 rfl rfl (hM.1.l2 hc) (decide_eq_true (by omega)) (decide_eq_true (by omega)) fun a3 h3 => wpn (h3.look 118 rfl) ?_)))
    obtain ⟨x, hx⟩ : ∃ x, c.xs[j]? = some x := ⟨c.xs[j], by simp [show j < c.xs.length by omega]⟩
    obtain ⟨g, o, hdl, hg, hcell⟩ := hc.at hx
    have hxo := hc.rng j x hx
    have hld : ∀ u, NvM c K D O R L u → Lds Tryd.prog 3 (.pointer (some ⟨g, o + j * 1, none⟩)) (.int .i64 x) u := fun u hu => by
      rw [Nat.mul_one]
      exact lds1 Tryd.underlying3 rfl ((hu.1.ks.low.cell (p := ⟨g, o + j, none⟩) hg).trans hcell)
    have hix : ∀ w, (Instr.indexAt 22 (.slice c.dl c.xs.length c.ql) (.int .i64 (j : Int))).run Tryd.prog w = .ok (.pointer (some ⟨g, o + j * 1, none⟩)) w := fun w => by
      rw [hdl]
      exact ix_at2 j Tryd.underlying22 intInf (by omega) w
    have next : ∀ (a' : Act) (w' : World), Sl 208 a' [(17, .int .i64 (j : Int)), (8, .int .i64 (cn : Int)), (7, .pointer (some ⟨c.g7, 0, none⟩)), (6, .pointer (some ⟨c.g6, 0, none⟩)), (4, .pointer (some ⟨g4, 0, none⟩)), (2, .pointer (some ⟨c.g2, 0, none⟩))] → NvM c K D O R L w' →
        ∀ Qn : Exit → Act → World → Prop, (∀ a'', ((∃ (j : Nat), j ≤ nvN c ∧ Sl 208 a'' [(17, .int .i64 (j : Int)), (8, .int .i64 (cn : Int)), (7, .pointer (some ⟨c.g7, 0, none⟩)), (6, .pointer (some ⟨c.g6, 0, none⟩)), (4, .pointer (some ⟨g4, 0, none⟩)), (2, .pointer (some ⟨c.g2, 0, none⟩))] ∧ NvM c K D O R L w') ∧ muTo (nvN c) (slot a'' 17) < nvN c - j) → Qn .normal a'' w') → (r_lv 26).wp Tryd.prog Qn a' w' := fun a' w' h' hM' Qn hQn => by
      refine wpl (rg_wp (lv_r26 h' rfl (by omega) fun a6 h6 => hQn a6 ⟨⟨j + 1, by omega, h6.to ⟨rfl, rfl, rfl, rfl, rfl, rfl, trivial⟩, hM'⟩, ?_⟩))
      rw [h6.look 17 rfl]
      show muTo (nvN c) (.int .i64 ((j + 1 : Nat) : Int)) < _
      rw [muTo_int]
      omega
    refine wp_seq (wp_block ?_)
    by_cases h3' : x.tmod 3 = 0
    · refine wp_seq (rg_wp (lv_r27 (b126 := false) h3 rfl rfl (hM.1.l2 hc) hix (hld _ hM) (rem_three hxo) (decide_eq_false (by simp [h3'])) fun a4 h4 => wpc_off (h4.look 126 rfl) (block_norm ?_)))
      exact next a4 w2 (h4.to ⟨rfl, rfl, rfl, rfl, rfl, rfl, trivial⟩) hM _ (fun _ h => h)
    · refine wp_seq (rg_wp (lv_r27 (b126 := true) h3 rfl rfl (hM.1.l2 hc) hix (hld _ hM) (rem_three hxo) (decide_eq_true h3') fun a4 h4 => wp_cond_true (h4.look 126 rfl) ?_))
      obtain ⟨e, v, hf, _, hv, hin⟩ := rep_has (fam_nan hc.nan) hM.1.ks.map.keys hM.2.1 (i := some x) rfl (hN.has j x hlt hx h3')
      have hvw : v = wholeD x := by
        rcases hN.val _ hin with q | ⟨y, i, q1, q2, _⟩
        · cases q
        · injection q1 with q1
          rw [q1]
          exact q2
      refine wp_seq (rg_wp (lv_r28b (dg := wholeD x) (x := x) h4 rfl rfl rfl (fun u hu => (hM.old hu).1.l6) (fun u hu => (hM.old hu).1.l2 hc) hix (fun u hu => hld u (hM.old hu)) (fun u hu => (get_some (hM.old hu).1.ks.map (whole_ok hxo) (pD_at _ _ _ _ _ _ (fun _ => False)) ((hM.old hu).1.ks.own hc.own) (whole_right x).1 (whole_right x).2 hf).mono fun e' u' hh => by
          obtain ⟨m', q1, _, q2⟩ := hh
          rw [hv, hvw] at q1
          exact ⟨m', q1, q2⟩) fun a5 g18 xm u5 hb5 hB5 h5 => ?_))
      have hM5 := hM.old hb5
      refine wp_seq (rg_wp (lv_r29 (b151 := false) (x := x) h5 rfl rfl rfl rfl rfl (one_load hB5 Tryd.underlying3 rfl rfl) (hM5.1.l2 hc) hix (hld _ hM5) (decide_eq_false (by simp)) fun a6 m h6 => wpc_off (h6.look 152 rfl) (block_norm ?_)))
      exact next a6 _ (h6.to ⟨rfl, rfl, rfl, rfl, rfl, rfl, trivial⟩) (hM5.old (below_drewN (Below.refl _ _) m)) _ (fun _ h => h)
  · have hjn : j = nvN c := by omega
    by_cases hxl : j < c.xs.length
    · have h100 : j = 100 := by
        unfold nvN at hjn
        omega
      refine wp_seq (wp_seq (rg_wp (lv_r25_t (b117 := false) h2 rfl rfl (hM.1.l2 hc) (decide_eq_true (by omega)) (decide_eq_false (by omega)) fun a3 h3 => wpx (h3.look 118 rfl) ?_)))
      exact then_exit' (in_block2 (hQ a3 w2 (h3.to ⟨rfl, rfl, rfl, rfl, rfl, trivial⟩) hM))
    · refine wp_seq (wp_seq (rg_wp (lv_r25_f h2 rfl rfl (hM.1.l2 hc) (decide_eq_false (by omega)) fun a3 h3 => wpx (h3.look 118 rfl) ?_)))
      exact then_exit' (in_block2 (hQ a3 w2 (h3.to ⟨rfl, rfl, rfl, rfl, rfl, trivial⟩) hM))
end
end Go.Proofs.YtlhfickniegooaaDoor

namespace Go.Proofs.YtlhfickniegooaaDoor
open Go.RowKit
set_option maxRecDepth 100000

theorem wpnI {F : Fence} {n : Nat} {P : Program} {k : Nat} {x y : Code} {Q : Exit → Act → World → Prop} {a : Act} {w : World} (hc : slot a k = .bool true) (h : y.wpIn F n P Q a w) : (Code.cond (.tmp k) .skip x).wpIn F n P (Exit.then (y.wpIn F n P Q) Q) a w := wpIn_cond_true hc (wpIn_skip h)
theorem wpoI {F : Fence} {n : Nat} {P : Program} {k : Nat} {x y : Code} {Q : Exit → Act → World → Prop} {a : Act} {w : World} (hc : slot a k = .bool false) (h : y.wpIn F n P Q a w) : (Code.cond (.tmp k) x .skip).wpIn F n P (Exit.then (y.wpIn F n P Q) Q) a w := wpIn_cond_false hc (wpIn_skip h)
theorem wpxI {F : Fence} {m : Nat} {P : Program} {k n : Nat} {K : Act → World → Prop} {Q : Exit → Act → World → Prop} {a : Act} {w : World} (hc : slot a k = .bool false) (h : Q (.exit n) a w) : (Code.cond (.tmp k) .skip (.exit n)).wpIn F m P (Exit.then K Q) a w := wpIn_cond_false hc (wpIn_exit h)
theorem wpcI_off {F : Fence} {n : Nat} {P : Program} {k : Nat} {x : Code} {Q : Exit → Act → World → Prop} {a : Act} {w : World} (hc : slot a k = .bool false) (h : Q .normal a w) : (Code.cond (.tmp k) x .skip).wpIn F n P Q a w := wpIn_cond_false hc (wpIn_skip h)
theorem Moved.refl (O : Nat → Prop) (w : World) : Moved O w w := Moved.of_below (Below.refl _ _)
theorem Moved.cont {O : Nat → Prop} {a b c : World} (h : Moved O a b) (k : Moved O b c) : Moved O a c := h.trans (k.more fun _ h => .inl h)
section
variable {c : NvP} {K : Nat → Prop}
theorem nv_drop (hc : c.ok) {D O : Nat → Prop} {R : List En} {L : List (Option Int × Dt)} {u : World} (h : NvM c K D O R L u) (hL : L.length ≤ 1000) (x : Int) (hx : okInt x) :
    Calls Tryd.prog 11 #[.pointer (some ⟨c.m, 0, none⟩), .agg ((wholeD x).cs m0)] u fun e u' => ∃ b : Bool, e = .returned (.tuple #[.bool b, .nilIface]) ∧ ((∃ R', NvM c K D O R' (outA L (some x)) u') ∧ Moved O u u') := by
  obtain ⟨h1, h2, h3⟩ := h
  by_cases hi : some x ∈ L.map (·.1)
  · obtain ⟨e, v, hf, _⟩ := rep_has (fam_nan hc.nan) h1.ks.map.keys h2 (i := some x) rfl hi
    refine (ks_drop h1.ks hc.own (by rw [h2.len]; omega) (whole_ok hx) (pD_at _ _ _ _ _ _ (fun _ => False)) (whole_right x).1 (whole_right x).2 hf).mono fun e' u' hh => ?_
    obtain ⟨q1, X, Z, q2, q3, q4⟩ := hh
    have := rep_drop (fam_nan hc.nan) h3 h2 hf q2
    exact ⟨true, q1, ⟨_, h1.step q3 q4, this.1, this.2⟩, q4⟩
  · have hf : fE R (wholeD x) = none := rep_none (fam_nan hc.nan) h1.ks.map.keys h2 (i := some x) (fun q => hi q.2)
    refine (drop_none h1.ks.map (by rw [h2.len]; omega) (whole_ok hx) (pD_at _ _ _ _ _ _ (fun _ => False)) (h1.ks.own hc.own) (whole_right x).1 (whole_right x).2 hf).mono fun e' u' hh => ?_
    rw [outA_none hi]
    exact ⟨false, hh.1, ⟨_, h1.old hh.2, h2, h3⟩, Moved.of_below hh.2⟩
theorem cN_out {L : List (Option Int × Dt)} {x : Int} : cN (outA L (some x)) = cN L := by
  unfold cN outA
  induction L with
  | nil => rfl
  | cons p L ih =>
    rw [List.filter_cons]
    split
    · rw [List.map_cons, List.map_cons, List.countP_cons, List.countP_cons, ih]
    · rename_i h
      have : p.1 = some x := by simpa using h
      rw [List.map_cons, List.countP_cons, this, ih]
      rfl
theorem outA_len {L : List (Option Int × Dt)} {i : Option Int} : (outA L i).length ≤ L.length := List.length_filter_le _ _

set_option maxHeartbeats 2000000 in
theorem lv_loop3 {lp : Nat} {Q : Exit → Act → World → Prop} (ho : ¬ LetsOut Q) (hc : c.ok) {D O : Nat → Prop} {R : List En} {L : List (Option Int × Dt)} {cn g4 g22 : Nat} {u : World} {a : Act} (hs : Sl 208 a [(22, .pointer (some ⟨g22, 0, none⟩)), (8, .int .i64 (cn : Int)), (7, .pointer (some ⟨c.g7, 0, none⟩)), (6, .pointer (some ⟨c.g6, 0, none⟩)), (4, .pointer (some ⟨g4, 0, none⟩)), (2, .pointer (some ⟨c.g2, 0, none⟩))])
    (hS : NvM c K D O R L u) (hL : L.length ≤ 100)
    (hQ : ∀ (a' : Act) (u' : World) (R' : List En) (L' : List (Option Int × Dt)), NvM c K D O R' L' u' → Moved O u u' → (∀ p ∈ L', p ∈ L) → (∀ (i : Nat) (x : Int), i < nvN c → c.xs[i]? = some x → x.tmod 3 ≠ 0 → some x ∉ L'.map (·.1)) → cN L' = cN L → L'.length ≤ L.length → Q .normal a' u') :
    (Code.seq (r_lv 43) (.block 6 (.loop lvL0))).wpIn (rounds lp) 7 Tryd.prog Q a u := by
  refine wpsI (lv_r43 hs fun a1 h1 => ?_) (by kernel_rfl) ho
  have h1 : Sl 208 a1 [(26, .int .i64 ((0 : Nat) : Int)), (22, .pointer (some ⟨g22, 0, none⟩)), (8, .int .i64 (cn : Int)), (7, .pointer (some ⟨c.g7, 0, none⟩)), (6, .pointer (some ⟨c.g6, 0, none⟩)), (4, .pointer (some ⟨g4, 0, none⟩)), (2, .pointer (some ⟨c.g2, 0, none⟩))] := h1.to ⟨rfl, rfl, rfl, rfl, rfl, rfl, rfl, trivial⟩
  refine wpIn_block ?_
  refine wpIn_loop (fun a' wr => ∃ (j : Nat) (R' : List En) (L' : List (Option Int × Dt)), j ≤ nvN c ∧ Sl 208 a' [(26, .int .i64 (j : Int)), (22, .pointer (some ⟨g22, 0, none⟩)), (8, .int .i64 (cn : Int)), (7, .pointer (some ⟨c.g7, 0, none⟩)), (6, .pointer (some ⟨c.g6, 0, none⟩)), (4, .pointer (some ⟨g4, 0, none⟩)), (2, .pointer (some ⟨c.g2, 0, none⟩))] ∧ NvM c K D O R' L' wr ∧ Moved O u wr ∧ (∀ p ∈ L', p ∈ L) ∧ (∀ (i : Nat) (x : Int), i < j → c.xs[i]? = some x → x.tmod 3 ≠ 0 → some x ∉ L'.map (·.1)) ∧ cN L' = cN L ∧ L'.length ≤ L.length) (fun a' _ => muTo (nvN c) (slot a' 26))
    ⟨0, R, L, Nat.zero_le _, h1, hS, Moved.refl _ _, fun _ h => h, fun i x h => (by omega), rfl, Nat.le_refl _⟩ ?_
  rintro a2 w2 ⟨j, R2, L2, hj, h2, hM, hmv, hsub, hgo, hcn, hlen⟩
  rw [h2.look 26 rfl, muTo_int]
  unfold lvL0
  have hNle : nvN c ≤ c.xs.length ∧ nvN c ≤ 100 := ⟨Nat.min_le_left _ _, Nat.min_le_right _ _⟩
  by_cases hlt : j < nvN c
  · refine wpIn_seq (wpsI (lv_r44_t (b177 := true) h2 rfl rfl (hM.1.l2 hc) (decide_eq_true (by omega)) (decide_eq_true (by omega)) fun a3 h3 => wpnI (h3.look 178 rfl) ?_) (by kernel_rfl) (fun ⟨_, _, h⟩ => ho ⟨_, _, h⟩))
    obtain ⟨x, hx⟩ : ∃ x, c.xs[j]? = some x := ⟨c.xs[j], by simp [show j < c.xs.length by omega]⟩
    obtain ⟨g, o, hdl, hg, hcell⟩ := hc.at hx
    have hxo := hc.rng j x hx
    have hld : ∀ u, (∃ R L, NvM c K D O R L u) → Lds Tryd.prog 3 (.pointer (some ⟨g, o + j * 1, none⟩)) (.int .i64 x) u := fun u ⟨_, _, hu⟩ => by
      rw [Nat.mul_one]
      exact lds1 Tryd.underlying3 rfl ((hu.1.ks.low.cell (p := ⟨g, o + j, none⟩) hg).trans hcell)
    have hix : ∀ w, (Instr.indexAt 22 (.slice c.dl c.xs.length c.ql) (.int .i64 (j : Int))).run Tryd.prog w = .ok (.pointer (some ⟨g, o + j * 1, none⟩)) w := fun w => by
      rw [hdl]
      exact ix_at2 j Tryd.underlying22 intInf (by omega) w
    have next : ∀ (a' : Act) (w' : World) (R' : List En) (L' : List (Option Int × Dt)), Sl 208 a' [(26, .int .i64 (j : Int)), (22, .pointer (some ⟨g22, 0, none⟩)), (8, .int .i64 (cn : Int)), (7, .pointer (some ⟨c.g7, 0, none⟩)), (6, .pointer (some ⟨c.g6, 0, none⟩)), (4, .pointer (some ⟨g4, 0, none⟩)), (2, .pointer (some ⟨c.g2, 0, none⟩))] → NvM c K D O R' L' w' → Moved O u w' → (∀ p ∈ L', p ∈ L) → (∀ (i : Nat) (x : Int), i < j + 1 → c.xs[i]? = some x → x.tmod 3 ≠ 0 → some x ∉ L'.map (·.1)) → cN L' = cN L → L'.length ≤ L.length →
        ∀ Qn : Exit → Act → World → Prop, ¬ LetsOut Qn → (∀ a'', ((∃ (j : Nat) (R' : List En) (L' : List (Option Int × Dt)), j ≤ nvN c ∧ Sl 208 a'' [(26, .int .i64 (j : Int)), (22, .pointer (some ⟨g22, 0, none⟩)), (8, .int .i64 (cn : Int)), (7, .pointer (some ⟨c.g7, 0, none⟩)), (6, .pointer (some ⟨c.g6, 0, none⟩)), (4, .pointer (some ⟨g4, 0, none⟩)), (2, .pointer (some ⟨c.g2, 0, none⟩))] ∧ NvM c K D O R' L' w' ∧ Moved O u w' ∧ (∀ p ∈ L', p ∈ L) ∧ (∀ (i : Nat) (x : Int), i < j → c.xs[i]? = some x → x.tmod 3 ≠ 0 → some x ∉ L'.map (·.1)) ∧ cN L' = cN L ∧ L'.length ≤ L.length) ∧ muTo (nvN c) (slot a'' 26) < nvN c - j) → Qn .normal a'' w') → (r_lv 45).wpIn (rounds lp) 7 Tryd.prog Qn a' w' := fun a' w' R' L' h' hM' m1 m2 m3 m4 m5 Qn hon hQn => by
      refine wplI (lv_r45 h' rfl (by omega) fun a6 h6 => hQn a6 ⟨⟨j + 1, R', L', by omega, h6.to ⟨rfl, rfl, rfl, rfl, rfl, rfl, rfl, trivial⟩, hM', m1, m2, m3, m4, m5⟩, ?_⟩) (by kernel_rfl) hon
      rw [h6.look 26 rfl]
      show muTo (nvN c) (.int .i64 ((j + 1 : Nat) : Int)) < _
      rw [muTo_int]
      omega
    refine wpIn_seq (wpIn_block ?_)
    by_cases h3' : x.tmod 3 = 0
    · refine wpsI (lv_r46 (b186 := false) h3 rfl rfl (hM.1.l2 hc) hix (hld _ ⟨_, _, hM⟩) (rem_three hxo) (decide_eq_false (by simp [h3'])) fun a4 h4 => wpcI_off (h4.look 186 rfl) (block_norm ?_)) (by kernel_rfl) (fun ⟨_, _, h⟩ => ho ⟨_, _, h⟩)
      refine next a4 w2 R2 L2 (h4.to ⟨rfl, rfl, rfl, rfl, rfl, rfl, rfl, trivial⟩) hM hmv hsub (fun i y hi hy h3y => ?_) hcn hlen _ (fun ⟨_, _, h⟩ => ho ⟨_, _, h⟩) (fun _ h => h)
      rcases Nat.lt_or_ge i j with q | q
      · exact hgo i y q hy h3y
      · have : i = j := by omega
        subst this
        rw [hx] at hy
        injection hy with hy
        exact absurd (hy ▸ h3') h3y
    · refine wpsI (lv_r46 (b186 := true) h3 rfl rfl (hM.1.l2 hc) hix (hld _ ⟨_, _, hM⟩) (rem_three hxo) (decide_eq_true h3') fun a4 h4 => wpIn_cond_true (h4.look 186 rfl) ?_) (by kernel_rfl) (fun ⟨_, _, h⟩ => ho ⟨_, _, h⟩)
      have hdr : Below w2.heap.size w2 (w2.drewN 1) := below_drewN (Below.refl _ _) 1
      refine wpsI (lv_r47 (C := fun u => ∃ R L, NvM c K D O R L u) (C0 := fun u => Below w2.heap.size w2 u) (C1 := fun _ u => (∃ R', NvM c K D O R' (outA L2 (some x)) u) ∧ Moved O w2 u) (x := x) h4 rfl rfl rfl ⟨_, _, hM.old hdr⟩ (fun u ⟨_, _, hu⟩ => hu.1.l6) (fun u ⟨_, _, hu⟩ => hu.1.l2 hc) hix hld ((kwhole_any x _).mono fun e u hh => ⟨hh.1, bl_trans hdr hh.2⟩) (fun u hu => ⟨_, _, hM.old hu⟩)
        (fun u hu => (nv_drop hc (hM.old hu) (by omega) x hxo).mono fun e u' hh => by
          obtain ⟨b, q1, q2, q3⟩ := hh
          exact ⟨b, q1, q2, (Moved.of_below hu).cont q3⟩) (fun u hu _ u2 h2 => ⟨_, _, h2.1.choose_spec⟩) fun a5 u5 b5 w5 _ hx5 h5 => ?_) (by kernel_rfl) (fun ⟨_, _, h⟩ => ho ⟨_, _, h⟩)
      obtain ⟨⟨R5, hM5⟩, hmv5⟩ := hx5
      refine wpsI (lv_r48 h5 rfl fun a6 h6 => wpcI_off (h6.look 198 rfl) (block_norm ?_)) (by kernel_rfl) (fun ⟨_, _, h⟩ => ho ⟨_, _, h⟩)
      refine next a6 w5 R5 _ (h6.to ⟨rfl, rfl, rfl, rfl, rfl, rfl, rfl, trivial⟩) hM5 (hmv.cont hmv5) (fun p hp => hsub p (mem_outA.1 hp).1) (fun i y hi hy h3y hin => ?_) (cN_out.trans hcn) (Nat.le_trans outA_len hlen) _ (fun ⟨_, _, h⟩ => ho ⟨_, _, h⟩) (fun _ h => h)
      obtain ⟨p, hp, hpe⟩ := List.mem_map.1 hin
      obtain ⟨hp1, hp2⟩ := mem_outA.1 hp
      rcases Nat.lt_or_ge i j with q | q
      · exact hgo i y q hy h3y (List.mem_map.2 ⟨p, hp1, hpe⟩)
      · have : i = j := by omega
        subst this
        rw [hx] at hy
        injection hy with hy
        exact hp2 (by rw [hpe, hy])
  · have hjn : j = nvN c := by omega
    have done : ∀ a', Q .normal a' w2 := fun a' => hQ a' w2 R2 L2 hM hmv hsub (hjn ▸ hgo) hcn hlen
    by_cases hxl : j < c.xs.length
    · have h100 : j = 100 := by
        unfold nvN at hjn
        omega
      refine wpIn_seq (wpsI (lv_r44_t (b177 := false) h2 rfl rfl (hM.1.l2 hc) (decide_eq_true (by omega)) (decide_eq_false (by omega)) fun a3 h3 => wpxI (h3.look 178 rfl) ?_) (by kernel_rfl) (fun ⟨_, _, h⟩ => ho ⟨_, _, h⟩))
      exact then_exit' (in_block2 (done a3))
    · refine wpIn_seq (wpsI (lv_r44_f h2 rfl rfl (hM.1.l2 hc) (decide_eq_false (by omega)) fun a3 h3 => wpxI (h3.look 178 rfl) ?_) (by kernel_rfl) (fun ⟨_, _, h⟩ => ho ⟨_, _, h⟩))
      exact then_exit' (in_block2 (done a3))
end
end Go.Proofs.YtlhfickniegooaaDoor
