/-
  Contract of guiselaw9's known. A map as a row of pairs: what Put, Drop and find do, where the keys come from a family in which equal keys are the same. Regions by evaluation: a plan that branches where two operations may come up, each of which acts (a block made beside a call). Written by an AI agent.
-/
import Derived.Test.YtlhfickniegooaaDoorPk21
import Derived.Test.YtlhfickniegooaaDoorPk14
namespace Go.Proofs.YtlhfickniegooaaDoor
open Go.RowKit
set_option maxRecDepth 100000

theorem ast_fault (gf : Nat) (w : World) : (Instr.typeAssert (.iface 68 (.pointer (some ⟨gf, 0, none⟩))) 34 68 true).run Tryd.prog w = .ok (.tuple #[.pointer (some (⟨gf, 0, none⟩)), .bool true]) w := by kernel_rfl
theorem neq_fault (gf : Nat) (w : World) : (binOp .neq 68 (.pointer (some (⟨gf, 0, none⟩))) (.pointer none)).run Tryd.prog w = .ok (.bool true) w := by kernel_rfl
theorem list_held : heldS (pD 5 ⟨#[108, 105, 115, 116]⟩ 0 0 ⟨#[]⟩).h (pD 5 ⟨#[108, 105, 115, 116]⟩ 0 0 ⟨#[]⟩).k = ⟨#[108, 105, 115, 116]⟩ := by kernel_rfl
def noD : Dt := pD 0 ⟨#[]⟩ 0 0 ⟨#[]⟩
def listD : Dt := pD 5 ⟨#[108, 105, 115, 116]⟩ 0 0 ⟨#[]⟩
theorem list_ok : listD.ok := pD_ok (by unfold okInt; omega) (by unfold okInt; omega) (by omega) (by omega) (by show (4 : Nat) ≤ _; omega) (by show (0 : Nat) ≤ _; omega)
set_option maxHeartbeats 2000000 in
theorem known_any (w : World) (hown : OwnAt w) : Calls Tryd.prog 6 #[] w fun e w' => e = .returned (.bool true) ∧ Below w.heap.size w w' := by
  refine calls_ev (vs := []) 123 Tryd.func6 ln_body (by kernel_rfl) (by simp) fun a0 h0 => ?_
  unfold lnBody
  refine wp_seq (rg_wp (ln_r0 h0 fun a1 h1 => ?_))
  refine wp_seq (rg_wp (ln_r1 (gm := w.heap.size) (C0 := fun u => KS w (fun _ => False) u w.heap.size [] _ _) h1 (ks_new w) fun a2 w2 hK2 h2 => ?_))
  obtain ⟨m, hm⟩ : ∃ m, m = w.heap.size := ⟨_, rfl⟩
  obtain ⟨D0, O0, hK2⟩ : ∃ D O, KS w (fun _ => False) w2 m [] D O := ⟨_, _, hm ▸ hK2⟩
  rw [← hm] at h2
  refine wp_seq (wp_seq (rg_wp (ln_r2 h2 rfl (fun w => eql_map m w) fun a3 h3 => wpo (h3.look 18 rfl) ?_)))
  refine wp_seq (rg_wp (ln_r4 (C0 := fun u => KS w (fun _ => False) u m [] D0 O0) (C1 := fun u => KS w (fun _ => False) u m [] D0 O0) (C2 := fun u => ∃ R' D' O', PutNew [] (wholeD 1) (textD ⟨#[97]⟩) R' ∧ KS w (fun _ => False) u m R' D' O') h3 rfl ((kwhole_any 1 w2).mono fun e u hh => ⟨hh.1, hK2.old hh.2⟩) (fun u hu => (ktext_any _ u).mono fun e u' hh => ⟨hh.1, hu.old hh.2⟩)
    (fun u _ u2 hu2 => (known_put hu2 hown (by simp) 1 (okI 1 (by omega) (by omega)) _ (by show (1 : Nat) ≤ _; omega) text_right.1).mono fun e u' hh => let ⟨q0, R', D', O', q1, q2, _⟩ := hh; ⟨q0, R', D', O', q1, q2⟩) fun a4 u1 u2 w4 _ _ hK4 h4 => ?_))
  obtain ⟨R1, D1, O1, hN1, hK4⟩ := hK4
  obtain ⟨ga, rfl⟩ := put_new hN1 rfl
  refine wp_seq (rg_wp (ln_r5 (C0 := fun u => KS w (fun _ => False) u m _ D1 O1) (C1 := fun u => KS w (fun _ => False) u m _ D1 O1) (C2 := fun u => ∃ R' D' O', PutNew [⟨ga, wholeD 1, textD ⟨#[97]⟩, hV (wholeD 1), eqO (wholeD 1) (wholeD 1)⟩] (wholeD 2) (textD ⟨#[98]⟩) R' ∧ KS w (fun _ => False) u m R' D' O') h4 rfl ((kwhole_any 2 w4).mono fun e u hh => ⟨hh.1, hK4.old hh.2⟩) (fun u hu => (ktext_any _ u).mono fun e u' hh => ⟨hh.1, hu.old hh.2⟩)
    (fun u _ u2 hu2 => (known_put hu2 hown (by simp) 2 (okI 2 (by omega) (by omega)) _ (by show (1 : Nat) ≤ _; omega) text_right.2.1).mono fun e u' hh => let ⟨q0, R', D', O', q1, q2, _⟩ := hh; ⟨q0, R', D', O', q1, q2⟩) fun a5 u1 u2 w5 _ _ hK5 h5 => ?_))
  obtain ⟨R2, D2, O2, hN2, hK5⟩ := hK5
  obtain ⟨gb, rfl⟩ := put_new hN2 ((fE_skip (by rw [whole_eq]; decide)).trans rfl)
  obtain ⟨e1, he1⟩ : ∃ e1 : En, e1 = ⟨ga, wholeD 1, textD ⟨#[97]⟩, hV (wholeD 1), eqO (wholeD 1) (wholeD 1)⟩ := ⟨_, rfl⟩
  obtain ⟨e2, he2⟩ : ∃ e2 : En, e2 = ⟨gb, wholeD 2, textD ⟨#[98]⟩, hV (wholeD 2), eqO (wholeD 2) (wholeD 2)⟩ := ⟨_, rfl⟩
  rw [← he1, ← he2] at hK5
  have k1 : e1.key = wholeD 1 := by rw [he1]
  have k2 : e2.key = wholeD 2 := by rw [he2]
  have n1 : e1.hash = hV (wholeD 1) := by rw [he1]
  have n2 : e2.hash = hV (wholeD 2) := by rw [he2]
  have f1 : fE [e2, e1] (wholeD 1) = some e1 := (fE_skip (by rw [k2, whole_eq]; decide)).trans (fE_hit (by rw [k1, whole_eq]; decide) n1)
  refine wp_seq (rg_wp (ln_r6 (C0 := fun u => KS w (fun _ => False) u m [e2, e1] D2 O2) (C1 := fun u => KS w (fun _ => False) u m [e2, e1] D2 O2) (C2 := fun u => ∃ R' D' O', PutNew [e2, e1] (wholeD 1) (textD ⟨#[99]⟩) R' ∧ KS w (fun _ => False) u m R' D' O') h5 rfl ((kwhole_any 1 w5).mono fun e u hh => ⟨hh.1, hK5.old hh.2⟩) (fun u hu => (ktext_any _ u).mono fun e u' hh => ⟨hh.1, hu.old hh.2⟩)
    (fun u _ u2 hu2 => (known_put hu2 hown (by simp) 1 (okI 1 (by omega) (by omega)) _ (by show (1 : Nat) ≤ _; omega) text_right.2.2).mono fun e u' hh => let ⟨q0, R', D', O', q1, q2, _⟩ := hh; ⟨q0, R', D', O', q1, q2⟩) fun a6 u1 u2 w6 _ _ hK6 h6 => ?_))
  obtain ⟨R3, D3, O3, hN3, hK6⟩ := hK6
  obtain rfl := put_old hN3 f1
  obtain ⟨y1, hy1⟩ : ∃ y, y = svE e1.g (textD ⟨#[99]⟩) e1 := ⟨_, rfl⟩
  obtain ⟨y2, hy2⟩ : ∃ y, y = svE e1.g (textD ⟨#[99]⟩) e2 := ⟨_, rfl⟩
  have hK6 : KS w (fun _ => False) w6 m [y2, y1] D3 O3 := by rw [hy1, hy2]; exact hK6
  have k1 : y1.key = wholeD 1 := by rw [hy1, svE_key, k1]
  have k2 : y2.key = wholeD 2 := by rw [hy2, svE_key, k2]
  have n1 : y1.hash = hV (wholeD 1) := by rw [hy1, svE_hash, n1]
  have n2 : y2.hash = hV (wholeD 2) := by rw [hy2, svE_hash, n2]
  have v1 : y1.val = textD ⟨#[99]⟩ := by rw [hy1]; unfold svE; rw [if_pos rfl]
  have f1 : fE [y2, y1] (wholeD 1) = some y1 := (fE_skip (by rw [k2, whole_eq]; decide)).trans (fE_hit (by rw [k1, whole_eq]; decide) n1)
  have f2 : fE [y2, y1] (wholeD 2) = some y2 := fE_hit (by rw [k2, whole_eq]; decide) n2
  refine wp_seq (rg_wp (ln_r7 (d34 := textD ⟨#[99]⟩) (C0 := fun u => KS w (fun _ => False) u m [y2, y1] D3 O3) (C1 := fun _ u => KS w (fun _ => False) u m [y2, y1] D3 O3) h6 rfl ((kwhole_any 1 w6).mono fun e u hh => ⟨hh.1, hK6.old hh.2⟩)
    (fun u hu => (get_some hu.map (whole_ok (okI 1 (by omega) (by omega))) (pD_at _ _ _ _ _ _ (fun _ => False)) (hu.own hown) (whole_right 1).1 (whole_right 1).2 f1).mono fun e u' hh => by
      obtain ⟨m', q1, _, q2⟩ := hh
      rw [v1] at q1
      exact ⟨m', q1, hu.old q2⟩) (fun u hu x u2 _ => dat_store (Blk.new u2 31 zeroC) (by show 0 + 11 ≤ 11; omega)) fun a7 u1 x7 u7 _ hK7 h7 => ?_))
  have hB7 := over_dat (Blk.new u7 31 zeroC) rfl (textD ⟨#[99]⟩) x7
  have hb7 : Below u7.heap.size u7 ((u7.alloc (.cells zeroC 31)).setCells u7.heap.size 0 ((textD ⟨#[99]⟩).cs x7).toList) := below_setCells _ _ _ (bl_alloc (Below.refl _ _) _) (Nat.le_refl _)
  have hK7 := hK7.add hb7 (K' := fun b => b = u7.heap.size) (fun b hb => .inr ⟨by omega, by rw [hb]; exact hB7.lt⟩)
  obtain ⟨g5, hg5⟩ : ∃ g, g = u7.heap.size := ⟨_, rfl⟩
  show Code.wp _ _ _ a7 ((u7.alloc (.cells zeroC 31)).setCells u7.heap.size 0 ((textD ⟨#[99]⟩).cs x7).toList)
  generalize (u7.alloc (.cells zeroC 31)).setCells u7.heap.size 0 ((textD ⟨#[99]⟩).cs x7).toList = w7 at hB7 hK7 ⊢
  rw [← hg5] at hB7 hK7 h7
  refine wp_seq (rg_wp (ln_r8 (C0 := fun u => KS w (fun b => b = g5) u m [y2, y1] D3 O3 ∧ Blk u g5 31 ((textD ⟨#[99]⟩).cs x7)) (C1 := fun u => ∃ y, y.key = wholeD 1 ∧ KS w (fun b => b = g5) u m [y] D3 O3 ∧ Blk u g5 31 ((textD ⟨#[99]⟩).cs x7)) h7 rfl ((kwhole_any 2 w7).mono fun e u hh => ⟨hh.1, hK7.old hh.2, hB7.below hh.2 hB7.lt⟩)
    (fun u hu => (ks_drop hu.1 hown (by simp) (whole_ok (okI 2 (by omega) (by omega))) (pD_at _ _ _ _ _ _ (fun _ => False)) (whole_right 2).1 (whole_right 2).2 f2).mono fun e u' hh => by
      obtain ⟨q0, X, Z, q1, q2, q3⟩ := hh
      refine ⟨q0, ?_⟩
      have hB' := hu.2.stay (hu.1.stay q3 rfl)
      match X, q1 with
      | [], q1 =>
        injection q1 with _ q1
        rw [← q1] at q2
        exact ⟨y1, k1, q2, hB'⟩
      | z :: X, q1 =>
        injection q1 with _ q1
        match X, q1 with
        | [], q1 =>
          injection q1 with q1 _
          have := congrArg (fun d : Dt => d.h.n) (k1.symm.trans ((congrArg En.key q1).trans k2))
          exact absurd this (by show ¬ (1 : Int) = 2; decide)
        | _ :: X, q1 =>
          injection q1 with _ q1
          simp at q1) fun a8 u8 w8 _ hK8 h8 => ?_))
  obtain ⟨y, ky, hK8, hB8⟩ := hK8
  have f3 : fE [y] (wholeD 2) = none := (fE_skip (by rw [ky, whole_eq]; decide)).trans rfl
  refine wp_seq (rg_wp (ln_r9 (dz := noD) (mz := m0) (C0 := fun u => KS w (fun b => b = g5) u m [y] D3 O3 ∧ Blk u g5 31 ((textD ⟨#[99]⟩).cs x7)) (C1 := fun u => KS w (fun b => b = g5) u m [y] D3 O3 ∧ Blk u g5 31 ((textD ⟨#[99]⟩).cs x7)) h8 rfl ((kwhole_any 2 w8).mono fun e u hh => ⟨hh.1, hK8.old hh.2, hB8.below hh.2 hB8.lt⟩)
    (fun u hu => (get_none hu.1.map (whole_ok (okI 2 (by omega) (by omega))) (pD_at _ _ _ _ _ _ (fun _ => False)) (hu.1.own hown) (whole_right 2).1 (whole_right 2).2 f3).mono fun e u' hh => ⟨hh.1, hu.1.old hh.2, hu.2.below hh.2 hu.2.lt⟩)
    (fun u hu u2 _ => dat_store (Blk.new u2 31 zeroC) (by show 0 + 11 ≤ 11; omega)) fun a9 u1 u9 _ hK9 h9 => ?_))
  obtain ⟨hK9, hB9⟩ := hK9
  have hb9 : Below u9.heap.size u9 ((u9.alloc (.cells zeroC 31)).setCells u9.heap.size 0 (noD.cs m0).toList) := below_setCells _ _ _ (bl_alloc (Below.refl _ _) _) (Nat.le_refl _)
  have hK9 := hK9.old hb9
  have hB9 := hB9.below hb9 hB9.lt
  show Code.wp _ _ _ a9 ((u9.alloc (.cells zeroC 31)).setCells u9.heap.size 0 (noD.cs m0).toList)
  generalize (u9.alloc (.cells zeroC 31)).setCells u9.heap.size 0 (noD.cs m0).toList = w9 at hK9 hB9 ⊢
  refine wp_seq (rg_wp (ln_r10 (C0 := fun u => KS w (fun b => b = g5) u m [y] D3 O3 ∧ Blk u g5 31 ((textD ⟨#[99]⟩).cs x7)) (C1 := fun g u => (KS w (fun b => b = g5) u m [y] D3 O3 ∧ Blk u g5 31 ((textD ⟨#[99]⟩).cs x7)) ∧ Blk u g 71 #[.string keyW, .string ⟨#[108, 105, 115, 116]⟩]) h9 rfl ((kwhole_any 1 w9).mono fun e u hh => ⟨hh.1, hK9.old hh.2, hB9.below hh.2 hB9.lt⟩)
    (fun u hu => (kput_any (d := listD) (md := m0) (S := fun _ => False) (T := fun _ => False) hu.1.map (hu.1.noO (.inr (.inl (cell_lt (hown 0 _ rfl))))) (by simp) list_ok (whole_ok (okI 1 (by omega) (by omega))) (pD_at _ _ _ _ _ _ _) (pD_at _ _ _ _ _ _ _) (fun _ h => h.elim) (fun _ h => h.elim) (hu.1.own hown)).mono fun e u' hh => by
      unfold PutR at hh
      rw [if_neg (by rw [show rB listD = true from list_right.1, (whole_right 1).1]; decide), if_pos (show kB listD = false from list_right.2)] at hh
      obtain ⟨q1, x, q2, g, q3, q4, _⟩ := hh
      rw [show heldS listD.h listD.k = _ from list_held] at q4
      exact ⟨g, by rw [q2, q3], ⟨hu.1.old q1, hu.2.below q1 hu.2.lt⟩, q4⟩) fun a10 u10 gf w10 _ hK10 h10 => ?_))
  obtain ⟨⟨hK10, hB10⟩, hF10⟩ := hK10
  refine wp_seq (rg_wp (ln_r11 h10 rfl (fun w => ast_fault gf w) fun a11 h11 => ?_))
  refine wp_seq (rg_wp (ln_r12_tttt (sv := ⟨#[99]⟩) (w1s := keyW) (w2s := ⟨#[108, 105, 115, 116]⟩) (b121 := true) (C0 := fun u => u = w10) h11 rfl rfl rfl rfl rfl rfl rfl rfl rfl rfl rfl rfl rfl (one_load hB10 Tryd.underlying9 rfl rfl) (by decide) ((klen_any hK10.map).mono fun e u hh => hh) (fun w => by kernel_rfl) (fun w => neq_fault gf w) (fun u hu => by rw [hu]; exact one_load hF10 Tryd.underlying9 rfl rfl) (by decide) (fun u hu => by rw [hu]; exact one_load hF10 Tryd.underlying9 rfl rfl) (by decide) fun a12 w12 hx h12 => wp_ret ?_))
  subst hx
  exact ret1 rfl h12 rfl ⟨rfl, hK10.low⟩
end Go.Proofs.YtlhfickniegooaaDoor

namespace Go.Proofs.YtlhfickniegooaaDoor
open Go.RowKit
set_option maxRecDepth 100000

theorem KeysOk.tl {e : En} {R : List En} (h : KeysOk (e :: R)) : KeysOk R := ⟨fun x hx => h.right x (List.mem_cons_of_mem _ hx), fun x hx => h.num x (List.mem_cons_of_mem _ hx)⟩
section
variable {ι : Type} {kd : ι → Dt} {sl : ι → Bool}
/-- The entries are those pairs (the newest first). -/
def Rep (kd : ι → Dt) (R : List En) (L : List (ι × Dt)) : Prop := R.map (fun e => (e.key, e.val)) = L.map (fun p => (kd p.1, p.2))
def UL (sl : ι → Bool) (L : List (ι × Dt)) : Prop := (L.map (·.1)).Pairwise (fun a b => sl a = true → a ≠ b)
theorem Rep.len {R : List En} {L : List (ι × Dt)} (h : Rep kd R L) : R.length = L.length := by
  have := congrArg List.length h
  simpa using this
theorem Rep.cons {e : En} {R : List En} {p : ι × Dt} {L : List (ι × Dt)} (h : Rep kd (e :: R) (p :: L)) : e.key = kd p.1 ∧ e.val = p.2 ∧ Rep kd R L := by
  unfold Rep at h
  rw [List.map_cons, List.map_cons] at h
  injection h with h1 h2
  injection h1 with h3 h4
  exact ⟨h3, h4, h2⟩
theorem Rep.mk {e : En} {R : List En} {p : ι × Dt} {L : List (ι × Dt)} (h1 : e.key = kd p.1) (h2 : e.val = p.2) (h : Rep kd R L) : Rep kd (e :: R) (p :: L) := by
  unfold Rep at h ⊢
  rw [List.map_cons, List.map_cons, h, h1, h2]
theorem Rep.split {X Z : List En} {x : En} {L : List (ι × Dt)} (h : Rep kd (X ++ x :: Z) L) : ∃ LX p LZ, L = LX ++ p :: LZ ∧ Rep kd X LX ∧ x.key = kd p.1 ∧ x.val = p.2 ∧ Rep kd Z LZ := by
  unfold Rep at h
  rw [List.map_append, List.map_cons] at h
  obtain ⟨LX, L2, h1, h2, h3⟩ := List.map_eq_append_iff.1 h.symm
  obtain ⟨p, LZ, h4, h5, h6⟩ := List.map_eq_cons_iff.1 h3
  injection h5 with h7 h8
  exact ⟨LX, p, LZ, by rw [h1, h4], h2.symm, h7.symm, h8.symm, h6.symm⟩
theorem Rep.join {X Z : List En} {LX LZ : List (ι × Dt)} (h1 : Rep kd X LX) (h2 : Rep kd Z LZ) : Rep kd (X ++ Z) (LX ++ LZ) := by
  unfold Rep at *
  rw [List.map_append, List.map_append, h1, h2]
theorem Rep.rev {R : List En} {L : List (ι × Dt)} (h : Rep kd R L) : Rep kd R.reverse L.reverse := by
  unfold Rep at *
  rw [List.map_reverse, List.map_reverse, h]
theorem Rep.at {R : List En} {L : List (ι × Dt)} (h : Rep kd R L) {j : Nat} {e : En} (he : R[j]? = some e) : ∃ p, L[j]? = some p ∧ e.key = kd p.1 ∧ e.val = p.2 := by
  have h1 := congrArg (fun l => l[j]?) h
  simp only [List.getElem?_map, he, Option.map_some] at h1
  obtain ⟨p, h2, h3⟩ := Option.map_eq_some_iff.1 h1.symm
  injection h3 with h4 h5
  exact ⟨p, h2, h4.symm, h5.symm⟩
theorem UL.fst {L L' : List (ι × Dt)} (h : UL sl L) (e : L'.map (·.1) = L.map (·.1)) : UL sl L' := by unfold UL; rw [e]; exact h
end
theorem svE_other {R : List En} {g : Nat} {v : Dt} (h : ∀ e ∈ R, e.g ≠ g) : R.map (svE g v) = R := by
  conv => rhs; rw [← List.map_id R]
  exact List.map_congr_left fun e he => by unfold svE; rw [if_neg (h e he)]; rfl
theorem fE_eq {R : List En} {d : Dt} {x : En} (h : fE R d = some x) : eqO x.key d = true := by
  have := List.find?_some h
  simp only [Bool.and_eq_true] at this
  exact this.2
section
variable {ι : Type} [DecidableEq ι] {kd : ι → Dt} {sl : ι → Bool}
/-- Keys of a family: those of self-equal ones are equal to themselves alone, the others to none. -/
def Fam (kd : ι → Dt) (sl : ι → Bool) : Prop := ∀ a b, eqO (kd a) (kd b) = (sl a && decide (a = b))
def putA (sl : ι → Bool) (L : List (ι × Dt)) (i : ι) (v : Dt) : List (ι × Dt) := if sl i = true ∧ i ∈ L.map (·.1) then L.map (fun p => if p.1 = i then (i, v) else p) else (i, v) :: L
def outA (L : List (ι × Dt)) (i : ι) : List (ι × Dt) := L.filter (fun p => decide (p.1 ≠ i))
theorem rep_find (hF : Fam kd sl) (i : ι) : ∀ (R : List En) (L : List (ι × Dt)), KeysOk R → Rep kd R L → (fE R (kd i)).map (fun e => (e.key, e.val)) = if sl i = true then (L.find? (fun p => decide (p.1 = i))).map (fun p => (kd p.1, p.2)) else none
  | [], [], _, _ => by simp [fE]
  | [], _ :: _, _, h => by simp [Rep] at h
  | _ :: _, [], _, h => by simp [Rep] at h
  | e :: R, p :: L, hK, h => by
    obtain ⟨h1, h2, h3⟩ := h.cons
    have ih := rep_find hF i R L hK.tl h3
    have hn := (hK.num e List.mem_cons_self).1
    have ht : (e.hash == hV (kd i) && eqO e.key (kd i)) = (sl i && decide (p.1 = i)) := by
      rw [hn, h1, hF]
      by_cases q : p.1 = i
      · subst q; simp
      · simp [q]
    have hu : fE (e :: R) (kd i) = if (sl i && decide (p.1 = i)) = true then some e else fE R (kd i) := by
      unfold fE
      rw [List.find?_cons, ht]
      cases (sl i && decide (p.1 = i)) <;> rfl
    rw [hu]
    cases hs : sl i with
    | false =>
      rw [hs] at ih
      simpa using ih
    | true =>
      rw [hs] at ih
      simp only [if_true] at ih ⊢
      rw [List.find?_cons]
      by_cases q : p.1 = i
      · simp [q, h1, h2]
      · simp [q, ih]
theorem rep_none (hF : Fam kd sl) {i : ι} {R : List En} {L : List (ι × Dt)} (hK : KeysOk R) (h : Rep kd R L) (hn : ¬ (sl i = true ∧ i ∈ L.map (·.1))) : fE R (kd i) = none := by
  have h1 := rep_find hF i R L hK h
  cases hf : fE R (kd i) with
  | none => rfl
  | some x =>
    rw [hf] at h1
    refine absurd ?_ hn
    cases hs : sl i with
    | false => rw [hs] at h1; simp at h1
    | true =>
      rw [hs] at h1
      simp only [if_true] at h1
      obtain ⟨p, h2, _⟩ := Option.map_eq_some_iff.1 h1.symm
      have := List.find?_some h2
      exact ⟨rfl, List.mem_map.2 ⟨p, List.mem_of_find?_eq_some h2, by simpa using this⟩⟩
theorem rep_has (hF : Fam kd sl) {i : ι} {R : List En} {L : List (ι × Dt)} (hK : KeysOk R) (h : Rep kd R L) (hs : sl i = true) (hi : i ∈ L.map (·.1)) : ∃ x v, fE R (kd i) = some x ∧ x.key = kd i ∧ x.val = v ∧ (i, v) ∈ L := by
  have h1 := rep_find hF i R L hK h
  rw [hs, if_pos rfl] at h1
  cases hf : L.find? (fun p => decide (p.1 = i)) with
  | none =>
    obtain ⟨p, hp, rfl⟩ := List.mem_map.1 hi
    have := List.find?_eq_none.1 hf p hp
    simp at this
  | some p =>
    rw [hf] at h1
    obtain ⟨x, h2, h3⟩ := Option.map_eq_some_iff.1 h1
    have hp : p.1 = i := by simpa using List.find?_some hf
    injection h3 with h4 h5
    exact ⟨x, p.2, h2, by rw [h4, hp], h5, by rw [← hp]; exact List.mem_of_find?_eq_some hf⟩
theorem rep_some (hF : Fam kd sl) {i : ι} {R : List En} {L : List (ι × Dt)} (hU : UL sl L) (h : Rep kd R L) {x : En} (hf : fE R (kd i) = some x) {X Z : List En} (hR : R = X ++ x :: Z) :
    ∃ LX v LZ, L = LX ++ (i, v) :: LZ ∧ Rep kd X LX ∧ x.key = kd i ∧ x.val = v ∧ Rep kd Z LZ ∧ sl i = true ∧ (∀ p ∈ LX, p.1 ≠ i) ∧ ∀ p ∈ LZ, p.1 ≠ i := by
  subst hR
  obtain ⟨LX, p, LZ, rfl, h1, h2, h3, h4⟩ := h.split
  have he := fE_eq hf
  rw [h2, hF] at he
  simp only [Bool.and_eq_true, decide_eq_true_eq] at he
  obtain ⟨hs, rfl⟩ := he
  unfold UL at hU
  rw [List.map_append, List.map_cons, List.pairwise_append] at hU
  obtain ⟨_, hU2, hU3⟩ := hU
  refine ⟨LX, p.2, LZ, rfl, h1, h2, h3, h4, hs, fun q hq e => ?_, fun q hq e => ?_⟩
  · exact hU3 q.1 (List.mem_map.2 ⟨q, hq, rfl⟩) p.1 List.mem_cons_self (by rw [e]; exact hs) e
  · exact (List.pairwise_cons.1 hU2).1 q.1 (List.mem_map.2 ⟨q, hq, rfl⟩) hs e.symm
theorem map_other {L : List (ι × Dt)} {i : ι} {v : Dt} (h : ∀ p ∈ L, p.1 ≠ i) : L.map (fun p => if p.1 = i then (i, v) else p) = L := by
  conv => rhs; rw [← List.map_id L]
  exact List.map_congr_left fun p hp => by rw [if_neg (h p hp)]; rfl
theorem filter_other {L : List (ι × Dt)} {i : ι} (h : ∀ p ∈ L, p.1 ≠ i) : outA L i = L := by
  unfold outA
  exact List.filter_eq_self.2 fun p hp => by simpa using h p hp
theorem rep_put (hF : Fam kd sl) {i : ι} {v : Dt} {R R' : List En} {L : List (ι × Dt)} (hK : KeysOk R) (hnd : (R.map (·.g)).Nodup) (hU : UL sl L) (h : Rep kd R L) (hP : PutNew R (kd i) v R') : Rep kd R' (putA sl L i v) ∧ UL sl (putA sl L i v) := by
  cases hf : fE R (kd i) with
  | none =>
    obtain ⟨g, rfl⟩ := put_new hP hf
    have hn : ¬ (sl i = true ∧ i ∈ L.map (·.1)) := fun ⟨h1, h2⟩ => by
      obtain ⟨x, _, h3, _⟩ := rep_has hF hK h h1 h2
      rw [hf] at h3; cases h3
    unfold putA
    rw [if_neg hn]
    refine ⟨Rep.mk rfl rfl h, ?_⟩
    unfold UL
    rw [List.map_cons]
    exact List.pairwise_cons.2 ⟨fun q hq hs e => hn ⟨hs, by rw [show i = q from e]; exact hq⟩, hU⟩
  | some x =>
    obtain rfl := put_old hP hf
    obtain ⟨X, Z, hR⟩ := List.append_of_mem (fE_mem hf)
    obtain ⟨LX, v0, LZ, rfl, h1, h2, h3, h4, hs, h5, h6⟩ := rep_some hF hU h hf hR
    subst hR
    have hin : i ∈ (LX ++ (i, v0) :: LZ).map (·.1) := by simp
    unfold putA
    rw [if_pos ⟨hs, hin⟩]
    rw [List.map_append, List.map_cons, List.nodup_append] at hnd
    obtain ⟨_, n2, n3⟩ := hnd
    rw [List.nodup_cons] at n2
    refine ⟨?_, hU.fst ?_⟩
    · rw [List.map_append, List.map_cons, List.map_append, List.map_cons, map_other h5, map_other h6, svE_other (fun e he q => n3 e.g (List.mem_map.2 ⟨e, he, rfl⟩) x.g List.mem_cons_self q), svE_other (fun e he q => n2.1 (List.mem_map.2 ⟨e, he, q⟩)), if_pos rfl]
      exact Rep.join h1 (Rep.mk (by rw [svE_key]; exact h2) (by unfold svE; rw [if_pos rfl]) h4)
    · rw [List.map_append, List.map_cons, map_other h5, map_other h6, if_pos rfl, List.map_append, List.map_cons, List.map_append, List.map_cons]
theorem rep_drop (hF : Fam kd sl) {i : ι} {R : List En} {L : List (ι × Dt)} (hU : UL sl L) (h : Rep kd R L) {x : En} (hf : fE R (kd i) = some x) {X Z : List En} (hR : R = X ++ x :: Z) : Rep kd (X ++ Z) (outA L i) ∧ UL sl (outA L i) := by
  obtain ⟨LX, v0, LZ, rfl, h1, h2, h3, h4, hs, h5, h6⟩ := rep_some hF hU h hf hR
  have e : outA (LX ++ (i, v0) :: LZ) i = LX ++ LZ := by
    have f1 := filter_other h5
    have f2 := filter_other h6
    unfold outA at *
    rw [List.filter_append, List.filter_cons_of_neg (by simp), f1, f2]
  rw [e]
  refine ⟨Rep.join h1 h4, ?_⟩
  unfold UL at hU ⊢
  refine hU.sublist ?_
  rw [List.map_append, List.map_append, List.map_cons]
  exact List.Sublist.append (List.Sublist.refl _) (List.sublist_cons_self _ _)
theorem mem_outA {L : List (ι × Dt)} {i : ι} {p : ι × Dt} : p ∈ outA L i ↔ p ∈ L ∧ p.1 ≠ i := by unfold outA; simp
theorem outA_none {L : List (ι × Dt)} {i : ι} (h : i ∉ L.map (·.1)) : outA L i = L := filter_other fun p hp e => h (List.mem_map.2 ⟨p, hp, e⟩)
/-- What an entry says of itself. -/
theorem rep_own (hF : Fam kd sl) {R : List En} (hK : KeysOk R) {e : En} (he : e ∈ R) {i : ι} (hk : e.key = kd i) : e.own = sl i := by
  rw [(hK.num e he).2, hk, hF]
  simp
end
end Go.Proofs.YtlhfickniegooaaDoor

namespace Go.Proofs.YtlhfickniegooaaDoor
open Go.RowKit
variable {df : List Deferred}
set_option maxRecDepth 100000

/-- rd: an operation that reads; e1: the one that may come up acts; e2: either of two may come up (g: what is told of the second way). -/
inductive Pl where
  | fin
  | rd (i : Nat) (p : Pl)
  | e1 (j : Nat) (p : Pl)
  | e2 (j : Nat) (p : Pl) (k : Nat) (g : List Giv) (q : Pl)
section
variable {P : Program} {md : Region.Mode} {ops : Array Oper} {C : World → Prop}
def treeB (md : Region.Mode) (ops : Array Oper) (n g : Nat) : Pl → Nat → Array Bool → Bool
  | .fin, 0, done => Region.seqB md ops g n done
  | .rd i p, f + 1, done => (Region.ready md ops done).contains i && decide (i < n) && Region.free md ops done i && treeB md ops n g p f (done.setIfInBounds i true)
  | .e1 j p, f + 1, done => decide (Region.ready md ops done = [j]) && decide (j < n) && treeB md ops n g p f (done.setIfInBounds j true)
  | .e2 j p k _ q, f + 1, done => decide (Region.ready md ops done = [j, k]) && decide (j < n) && decide (k < n) && treeB md ops n g p f (done.setIfInBounds j true) && treeB md ops n g q f (done.setIfInBounds k true)
  | _, _, _ => false
def opWp (P : Program) (ops : Array Oper) (j : Nat) (K : Act → World → Prop) (a : Act) (w : World) : Prop := match ops[j]? with
  | some o => wpList P ops (outQ K) [o] a w
  | none => False
def effT (P : Program) (ops : Array Oper) (C : World → Prop) (T : Act → World → Prop) : Pl → Act → World → Prop
  | .fin, a, w => C w ∧ T a w
  | .rd i p, a, w => C w ∧ ∃ o v, ops[i]? = some o ∧ Stays P ops C o v a ∧ effT P ops C T p (a.put o.dst v) w
  | .e1 j p, a, w => C w ∧ opWp P ops j (effT P ops C T p) a w
  | .e2 j p k _ q, a, w => C w ∧ opWp P ops j (effT P ops C T p) a w ∧ opWp P ops k (effT P ops C T q) a w
theorem opWp_wpOp {Q : Exit → Act → World → Prop} {j : Nat} {a : Act} {w : World} {K K' : Act → World → Prop} (hk : ∀ b u, K b u → K' b u) (h : opWp P ops j K a w) : wpOp P ops Q j K' a w := by
  unfold opWp at h
  split at h
  · rename_i o ho
    exact wpOp_of_list ho hk h
  · exact h.elim
theorem headC_tree {Q : Exit → Act → World → Prop} {n g : Nat} {T : Act → World → Prop} (hQ : ∀ c a b w, Q (.panic c) a w → Q (.panic c) b w) (hsel : Region.noSelect ops = true) (hs : Region.sinkB md ops n = true) (hc : Region.chainB md ops n = true) (hn : n < ops.size) (p : Pl) :
    ∀ (f : Nat) (done : Array Bool) (a : Act) (w : World), HeadInv md ops n done → treeB md ops n g p f done = true → effT P ops C T p a w →
      headC P md ops C Q n (fun d a' w' => Region.seqB md ops g n d = true ∧ T a' w') f done a w := by
  induction p with
  | fin =>
    intro f done a w inv hB h
    cases f with
    | zero => exact ⟨h.1, hB, h.2⟩
    | succ f => simp [treeB] at hB
  | rd i p ih =>
    intro f done a w inv hB h
    cases f with
    | zero => simp [treeB] at hB
    | succ f =>
      simp only [treeB, Bool.and_eq_true, decide_eq_true_eq] at hB
      obtain ⟨⟨⟨hr, hin⟩, hf⟩, hB2⟩ := hB
      have hr2 : i ∈ Region.ready md ops done := by simpa using hr
      obtain ⟨_, o, v, hio, hy, hK⟩ := h
      exact headC_first (fun c a w => hQ c _ _ w) hio (Region.noSelect_spec hsel) hs hc hn hin (fun d a' w' hd => seqB_ready hd.1) f done a w inv (Region.free_spec hio hf) hr2 hy
        (ih f _ _ w (inv.set hr2 hin) hB2 hK)
  | e1 j p ih =>
    intro f done a w inv hB h
    cases f with
    | zero => simp [treeB] at hB
    | succ f =>
      simp only [treeB, Bool.and_eq_true, decide_eq_true_eq] at hB
      obtain ⟨⟨hr, hjn⟩, hB2⟩ := hB
      refine ⟨h.1, by rw [hr]; simp, fun k hk => ?_⟩
      rw [hr] at hk
      have hij : k = j := by simpa using hk
      subst hij
      exact ⟨hjn, opWp_wpOp (fun b u hb => ih f _ b u (inv.set (by rw [hr]; simp) hjn) hB2 hb) h.2⟩
  | e2 j p k g' q ih ih2 =>
    intro f done a w inv hB h
    cases f with
    | zero => simp [treeB] at hB
    | succ f =>
      simp only [treeB, Bool.and_eq_true, decide_eq_true_eq] at hB
      obtain ⟨⟨⟨⟨hr, hjn⟩, hkn⟩, hB2⟩, hB3⟩ := hB
      refine ⟨h.1, by rw [hr]; simp, fun i hi => ?_⟩
      rw [hr] at hi
      have hij : i = j ∨ i = k := by simpa using hi
      rcases hij with rfl | rfl
      · exact ⟨hjn, opWp_wpOp (fun b u hb => ih f _ b u (inv.set (by rw [hr]; simp) hjn) hB2 hb) h.2.1⟩
      · exact ⟨hkn, opWp_wpOp (fun b u hb => ih2 f _ b u (inv.set (by rw [hr]; simp) hkn) hB3 hb) h.2.2⟩
end
def treeOk (ops : List Oper) (p : Pl) (n : Nat) : Bool :=
  (Region.noSelect ops.toArray && decide (n < ops.length) && Region.sinkB .any ops.toArray n && Region.chainB .any ops.toArray n && treeB .any ops.toArray n (ops.length - n) p n (Array.replicate ops.length false))
theorem rg_tree {P : Program} {id : Nat} {Q : Exit → Act → World → Prop} {a : Act} {w : World} {l : List Oper} (C : World → Prop) (p : Pl) (n : Nat) (hm : P.follows .mixedOrders = true) (hB : treeOk l p n = true)
    (h : effT P l.toArray C (fun b u => wpList P l.toArray (outQ (Q .normal)) (l.drop n) b u) p a { w with drawn := w.drawn + 1 }) : rg P Q a w (.region id l.toArray true) := by
  unfold treeOk at hB
  simp only [Bool.and_eq_true, decide_eq_true_eq] at hB
  obtain ⟨⟨⟨⟨hsel, hn⟩, hs⟩, hc⟩, hplan⟩ := hB
  have hn2 : n < l.toArray.size := by simpa using hn
  have inv : HeadInv .any l.toArray n (Array.replicate l.length false) :=
    ⟨by simp, fun j oj _ hl => (by rw [getD_replicate_false] at hl; cases hl), fun t _ ht => getD_in (by simpa using ht) (getD_replicate_false _ _)⟩
  have H := headC_tree (P := P) (md := .any) (C := C) (Q := NoPanic Q) (T := fun b u => wpList P l.toArray (outQ (Q .normal)) (l.drop n) b u) (g := l.length - n) (fun c a b w h => h) hsel hs hc hn2 p n _ a _ inv hplan h
  refine ⟨hm, NoPanic Q, NoPanic.imp, ?_⟩
  have hdl : (l.drop n).length = l.length - n := by simp
  have := headC_any (Q := NoPanic Q) (g := l.length - n) (fun done a' w' hL => by
    have hw : wpList P l.toArray (NoPanic Q) (l.drop n) a' w' := wpList_weaken (fun _ _ h => h) _ a' w' hL.2
    have := wpAny_of_seq (md := .any) (Q' := NoPanic Q) (l.drop n) n done a' w' (fun j => by simp [List.getElem?_drop]) (by rw [hdl]; exact hL.1) hw
    rwa [hdl] at this) _ _ a _ H
  rw [show n + (l.length - n) = l.toArray.size by simp; omega] at this
  exact this

def evT (P : Program) (n : Nat) (ops : Array Oper) (C : World → Prop) (K : List (Nat × Value) → World → List Giv → Prop) : Pl → List Giv → List (Nat × Value) → World → Prop
  | .fin, g, l, w => C w ∧ K l w g
  | .rd i p, g, l, w => C w ∧ match ops[i]? with
    | some o => match o.dst, gdL ops l o with
      | some d, some true => match decide (d < n) with
        | true => evOpE P C l o g (fun v g' => evT P n ops C K p g' ((d, v) :: l) w)
        | false => False
      | _, _ => False
    | none => False
  | .e1 j p, g, l, w => C w ∧ match ops[j]? with
    | some o => match dstOk n o.dst, gdL ops l o with
      | true, some true => evOp P l w o g (fun v w' g' => evT P n ops C K p g' (putL o.dst v l) w')
      | _, _ => False
    | none => False
  | .e2 j p k g2 q, g, l, w => C w ∧ (match ops[j]? with
    | some o => match dstOk n o.dst, gdL ops l o with
      | true, some true => evOp P l w o g (fun v w' g' => evT P n ops C K p g' (putL o.dst v l) w')
      | _, _ => False
    | none => False) ∧ (match ops[k]? with
    | some o => match dstOk n o.dst, gdL ops l o with
      | true, some true => evOp P l w o g2 (fun v w' g' => evT P n ops C K q g' (putL o.dst v l) w')
      | _, _ => False
    | none => False)
theorem evT_wp {P : Program} {n : Nat} {ops : Array Oper} {C : World → Prop} {T : Act → World → Prop} {K : List (Nat × Value) → World → List Giv → Prop} {Fr : Act → Prop} (hFr : ∀ (o : Oper) (b : Act) (v : Value), o ∈ ops → Fr b → Fr (b.put o.dst v))
    (hT : ∀ a' l' w' g', a'.tmps.size = n → a'.defers = df → Agr a' l' → Fr a' → K l' w' g' → T a' w') : ∀ (p : Pl) (g : List Giv) (l : List (Nat × Value)) (w : World) (a : Act),
    a.tmps.size = n → a.defers = df → Agr a l → Fr a → evT P n ops C K p g l w → effT P ops C T p a w
  | .fin, g, l, w, a, h1, h2, h3, h4, h => ⟨h.1, hT a l w g h1 h2 h3 h4 h.2⟩
  | .rd i p, g, l, w, a, h1, h2, h3, h4, h => by
    unfold evT at h
    refine ⟨h.1, ?_⟩
    have h := h.2
    split at h
    · rename_i o ho
      have hmem : o ∈ ops := Array.mem_of_getElem? ho
      split at h
      · rename_i d hd hg
        split at h
        · rename_i hdn
          have hdn : d < n := by simpa using hdn
          obtain ⟨v, g', hw, hh⟩ := evOpE_stays h3 h
          refine ⟨o, v, ho, ⟨by rw [gd_wanted h3 hg], ⟨d, hd, by rw [h1]; exact hdn⟩, hw⟩, ?_⟩
          have hag : Agr (a.put o.dst v) ((d, v) :: l) := by
            have := agr_put (d := some d) (v := v) h3 h1 (by simpa [dstOk] using hdn)
            rw [hd]
            exact this
          exact evT_wp hFr hT p g' _ w (a.put o.dst v) ((act_put_size _ _ _).trans h1) ((put_defers _ _ _).trans h2) hag (hFr o a v hmem h4) hh
        · exact h.elim
      · exact h.elim
    · exact h.elim
  | .e1 j p, g, l, w, a, h1, h2, h3, h4, h => by
    unfold evT at h
    refine ⟨h.1, ?_⟩
    have h := h.2
    unfold opWp
    split at h
    · rename_i o ho
      have hmem : o ∈ ops := Array.mem_of_getElem? ho
      split at h
      · rename_i hd hg
        refine wpList_step fun N hN => ?_
        rw [if_pos (by rw [gd_wanted h3 hg])]
        refine evOp_wp h3 h fun v w' g' hh => hN _ _ ?_
        exact evT_wp hFr hT p g' _ w' (a.put o.dst v) ((act_put_size _ _ _).trans h1) ((put_defers _ _ _).trans h2) (agr_put h3 h1 hd) (hFr o a v hmem h4) hh
      · exact h.elim
    · exact h.elim
  | .e2 j p k g2 q, g, l, w, a, h1, h2, h3, h4, h => by
    unfold evT at h
    obtain ⟨hC, hA, hB⟩ := h
    refine ⟨hC, ?_, ?_⟩
    · unfold opWp
      split at hA
      · rename_i o ho
        have hmem : o ∈ ops := Array.mem_of_getElem? ho
        split at hA
        · rename_i hd hg
          refine wpList_step fun N hN => ?_
          rw [if_pos (by rw [gd_wanted h3 hg])]
          refine evOp_wp h3 hA fun v w' g' hh => hN _ _ ?_
          exact evT_wp hFr hT p g' _ w' (a.put o.dst v) ((act_put_size _ _ _).trans h1) ((put_defers _ _ _).trans h2) (agr_put h3 h1 hd) (hFr o a v hmem h4) hh
        · exact hA.elim
      · exact hA.elim
    · unfold opWp
      split at hB
      · rename_i o ho
        have hmem : o ∈ ops := Array.mem_of_getElem? ho
        split at hB
        · rename_i hd hg
          refine wpList_step fun N hN => ?_
          rw [if_pos (by rw [gd_wanted h3 hg])]
          refine evOp_wp h3 hB fun v w' g' hh => hN _ _ ?_
          exact evT_wp hFr hT q g' _ w' (a.put o.dst v) ((act_put_size _ _ _).trans h1) ((put_defers _ _ _).trans h2) (agr_put h3 h1 hd) (hFr o a v hmem h4) hh
        · exact hB.elim
      · exact hB.elim
def evCR (P : Program) (n k : Nat) (p : Pl) (ds : List Nat) (C : World → Prop) (g : List Giv) (l0 : List (Nat × Value)) (w : World) (K : List (Nat × Value) → World → Prop) : Code → Prop
  | .region _ ⟨ops⟩ true => match dstIn ds ops, P.follows .mixedOrders, treeOk ops p k with
    | true, true, true => evT P n ⟨ops⟩ C (fun l2 w2 g3 => evL P n ⟨ops⟩ (ops.drop k) g3 l2 w2 K) p g l0 (w.drewN 1)
    | _, _, _ => False
  | _ => False
/-- A region by a plan that branches. -/
theorem regR {P : Program} {n : Nat} {a : Act} {w : World} {l l0 : List (Nat × Value)} {c : Code} {N : Act → World → Prop} {Q : Exit → Act → World → Prop} {T : Prop} (k : Nat) (p : Pl) (C : World → Prop) (keep ds : List Nat) (g : List Giv) (hs : Sl n a l df) (h0 : AllL l l0) (hT : T)
    (he : T = evCR P n k p ds C g l0 w (fun l1 w' => ∀ a', Sl n a' (outL keep l1 (dropL ds l)) df → N a' w') c) : rg P (Exit.then N Q) a w c := by
  rw [he] at hT
  unfold evCR at hT
  split at hT
  · rename_i id ops
    split at hT
    · rename_i hd hm hB
      have hno : ∀ p ∈ dropL ds l, ∀ o ∈ ops, o.dst ≠ some p.1 := fun p hp o ho e => by
        obtain ⟨_, hp2⟩ := List.mem_filter.1 hp
        exact dstIn_spec hd p.1 (by simpa using hp2) (List.mem_map.2 ⟨o, ho, e⟩)
      refine rg_tree C p k hm hB ?_
      refine evT_wp (df := df) (Fr := fun b => ∀ p ∈ dropL ds l, slot b p.1 = p.2) (fun o b v ho hb p hp => (put_slot b _ v p.1 (hno p hp o (by simpa using ho))).trans (hb p hp)) ?_ p g l0 _ a hs.size hs.defers (hs.to h0).agr (fun p hp => hs.known p (List.mem_filter.1 hp).1) hT
      intro a2 l2 w2 g3 r1 r2 r3 r4 r5
      refine evL_wp (ops.drop k) g3 l2 w2 _ a2 r1 r2 r3 r5 ?_
      intro a' l' w' q1 q2 q3 q4 q5
      refine q5 a' (outL_sl q3 keep ⟨q1, q2, fun p hp => ?_⟩)
      have hn := hno p hp
      rw [q4 p.1 (fun hm => by obtain ⟨o, ho, e⟩ := List.mem_map.1 hm; exact hn o (List.mem_of_mem_drop ho) e)]
      exact r4 p hp
    · exact hT.elim
  · exact hT.elim
end Go.Proofs.YtlhfickniegooaaDoor
