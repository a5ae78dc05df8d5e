/-
  KeyedModel: its range over Walk, and its end. KeyedModel answers true. An argument of type api.Datum, opened: what reads as a datum is a tree in memory (no condition but the row's own reach). Written by an AI agent.
-/
import Derived.Test.YtlhfickniegooaaDoorPk30
import Derived.Test.YtlhfickniegooaaDoorPk01
import Derived.Test.YtlhfickniegooaaDoorChecked
import Derived.ProofKit
import Derived.Deep.Slices
import Derived.ChangeSlices
namespace Go.Proofs.YtlhfickniegooaaDoor
open Go.RowKit
set_option maxRecDepth 100000

section
variable {c : MoP} {K D O : Nat → Prop} {R : List En} {os : List (Fin 900)} {vals : Nat → Int} {so : S3} {u u' : World}
theorem key_has (h : Rep kdM R (mL os vals)) (hK : KeysOk R) {n : Fin 900} {j : Nat} (hn : os[j]? = some n) : ∃ f, fE R (keyD n.val) = some f ∧ f.key = keyD n.val ∧ f.val = wholeD (vals n.val) := by
  obtain ⟨f, v, h1, h2, h3, h4⟩ := rep_has fam_key hK h (i := n) rfl (by rw [mL_fst]; simpa using List.mem_of_getElem? hn)
  refine ⟨f, h1, h2, ?_⟩
  unfold mL at h4
  obtain ⟨z, _, hz⟩ := List.mem_map.1 h4
  injection hz with e1 e2
  rw [h3, ← e2, e1]
/-- None has gone: so nothing is passed by. -/
theorem none_gone (h : Rep kdM R (mL os vals)) (hK : KeysOk R) {lo hi : Nat} (hg : GoneB R R lo hi) (hh : hi ≤ R.length) : hi ≤ lo := Nat.le_of_not_lt fun hlt => by
  have hl : lo < R.reverse.length := by rw [List.length_reverse]; omega
  obtain ⟨n, hn, hk, _⟩ := MoS.ent h (List.getElem?_eq_getElem hl)
  obtain ⟨f, hf, _⟩ := key_has h hK hn
  have := (hg lo _ (Nat.le_refl _) hlt (List.getElem?_eq_getElem hl)).2
  rw [hk, hf] at this
  cases this

set_option maxHeartbeats 4000000 in
/-- What follows the range over All. -/
theorem lm_tail {B0 : Nat} {wB : World} (hc : c.ok) {g2 g20 ga gw D1 : Nat} {a : Act} (hs : Sl 263 a [(20, .pointer (some ⟨g20, 0, none⟩)), (19, .func (.func 27) #[] #[.pointer (some ⟨gw, 0, none⟩)]), (18, .func (.func 30) #[] #[.pointer (some ⟨ga, 0, none⟩)]), (7, .pointer (some ⟨c.g7, 0, none⟩)), (6, .pointer (some ⟨c.g6, 0, none⟩)), (5, .slice (some ⟨c.gt, 0, none⟩) 900 900), (4, .pointer (some ⟨c.m, 0, none⟩)), (2, .pointer (some ⟨g2, 0, none⟩)), (0, .slice c.dl c.xs.length c.ql)] [{ target := .collected D1, args := #[] }]) (hM : MoS c K D O R os vals so u) (hG : MoG c K so g20) (h20 : Blk u g20 3 #[.int .i64 (os.length : Int)]) (hgw : Blk u gw 24 #[.pointer (some ⟨c.m, 0, none⟩)]) (nw : gw ≠ g20)
    (hD : u.heap[D1]? = some (.deferred (some []))) (hDl : c.w0.heap.size ≤ D1) (h2 : Blk c.w0 g2 4 #[.bool false]) (hB2 : B0 ≤ g2) (hB0 : B0 ≤ c.w0.heap.size) (hbB : Below B0 wB c.w0) :
    (Code.seq (.seq (r_lm 53) (.cond (.tmp 228) (.seq (r_lm 54) .ret) .skip)) (.seq (r_lm 55) (.seq (.seq (r_lm 56) (.block 7 (.rangeFunc (.tmp 229) #[230, 231] (.seq (r_lm 57) (r_lm 58)) (.block 8 (.seq (.seq (r_lm 59) (.cond (.tmp 235) (.seq (r_lm 60) .ret) .skip)) (.seq (r_lm 61) (.seq (.seq (r_lm 62) (.cond (.tmp 256) (.seq (r_lm 63) .ret) .skip)) (r_lm 64)))))))) (.seq (r_lm 65) .ret)))).wp Tryd.prog (bodyPostM Fence.wide 9 Tryd.prog Tryd.f5 fun e w' => e = .returned (.bool true) ∧ Below B0 wB w') a u := by
  have hsn : so.n = os.length := by rw [hM.mem.ord.2, oI_len]
  have hD20 : D1 ≠ g20 := fun e => by
    have : u.heap[g20]? = some (.cells #[.int .i64 (os.length : Int)] 3 (0, 0)) := h20
    rw [← e, hD] at this
    cases this
  refine wp_seq (wp_seq (rg_wp (lm_r53 (tn := os.length) (b228 := false) hs rfl rfl (one_load h20 Tryd.underlying3 rfl rfl) hM.mem.l7 (decide_eq_false (by rw [hsn]; simp)) fun a1 h1 => wpo (h1.look 228 rfl) ?_)))
  refine wp_seq (rg_wp (lm_r55 h1 rfl (one_store h20 intInf (by show 0 < 1; omega) rfl) fun a2 h2' => ?_))
  have hM2 := MoS.count hc hG hM 0 [.int .i64 0]
  have h22 : Blk (u.setCells g20 0 [.int .i64 0]) g20 3 #[.int .i64 ((0 : Nat) : Int)] := h20.set_ 0 (.int .i64 0)
  have hgw2 := Blk.farL nw [.int .i64 0] 0 u hgw
  have hD2 : (u.setCells g20 0 [.int .i64 0]).heap[D1]? = some (.deferred (some [])) := (setCells_other _ _ _ hD20).trans hD
  generalize u.setCells g20 0 [.int .i64 0] = v at hM2 h22 hgw2 hD2 ⊢
  refine wp_seq (wp_seq (rg_wp (lm_r56 h2' rfl fun a3 h3 => ?_)))
  refine wp_block ?_
  have hlow := hM2.ks.low.size
  have hKl : ∀ b, K b → b < v.heap.size := hM2.ks.kl
  have hol := nd_len hM2.nd
  have hRl := hM2.len
  have hDv := (Array.getElem?_eq_some_iff.1 hD2).1
  refine range_z (σ := Unit) (g := .tmp 229) (ps := #[230, 231]) (gf := 27) (lb := #[.pointer (some ⟨gw, 0, none⟩)]) (h3.look 229 rfl) (Go.Proofs.enters_of Tryd.func27 (by kernel_rfl) rfl)
    (walk_seq (fun _ : Unit => R) R gw c.m v) (Below.refl _ _) (fun _ => rfl) (fun _ b => K b) (fun _ pre A => MoS c K D O R os vals so A ∧ Blk A g20 3 #[.int .i64 (nx pre : Int)] ∧ Blk A gw 24 #[.pointer (some ⟨c.m, 0, none⟩)] ∧ nx pre ≤ os.length ∧ A.heap[D1]? = some (.deferred (some []))) (fun _ _ _ _ => False) ?hI (fun _ _ _ _ _ h _ => h) ?hM ?hO ?hY () ?h0
    (fun _ x _ a' A => ∃ g24 g25, Sl 263 a' [(25, .pointer (some ⟨g25, 0, none⟩)), (24, .pointer (some ⟨g24, 0, none⟩)), (20, .pointer (some ⟨g20, 0, none⟩)), (7, .pointer (some ⟨c.g7, 0, none⟩)), (6, .pointer (some ⟨c.g6, 0, none⟩))] [] ∧ Blk A g24 31 (x.h.k.cs x.h.dk) ∧ Blk A g25 31 (x.h.v.cs x.h.dv)) ?hAx ?ha ?hb ?hd (fun _ _ _ _ h => h.elim) (fun _ _ _ _ h _ => h)
  case hI =>
    rintro _ pre A C ⟨q1, q2, q3, q4, q5⟩ e
    exact ⟨q1.ext e hlow, q2.ext e, q3.ext e, q4, (e.low D1 hDv).trans q5⟩
  case hM =>
    rintro _ pre A ⟨q1, q2, q3, q4, q5⟩
    exact ⟨by rw [q3.cell]; rfl, ⟨D, O, q1.ks.map⟩, by show R.length ≤ _; omega, fun _ => rfl, q1.ks.own hc.own⟩
  case hO =>
    rintro _ pre A ⟨q1, _⟩ b hb
    exact q1.ks.kl b hb
  case hY =>
    rintro _ pre x Hd A C ⟨y1, y2, y3, y4⟩ e
    exact ⟨y1, y2, y3, y4.ext e⟩
  case h0 => exact ⟨hM2, h22, hgw2, Nat.zero_le _, hD2⟩
  case hAx =>
    rintro _ x Hd a' A C ⟨g24, g25, x1, x2, x3⟩ e
    exact ⟨g24, g25, x1, x2.ext e, x3.ext e⟩
  case ha =>
    rintro l _ pre x Hd W Kn hi hy hHd hK
    refine wpsI (lm_r57 (dk := x.h.k) (mk := x.h.dk) (h3.yield2 230 231 (by omega) (by omega) _ _) rfl (dat_store (Blk.new W 31 zeroC) (by show 0 + 11 ≤ 11; omega)) fun a2 h2 => ?_) (by kernel_rfl) (fun ⟨_, _, h⟩ => h)
    have hB2 := over_dat (Blk.new W 31 zeroC) rfl x.h.k x.h.dk
    have hb2 : Below W.heap.size W ((W.alloc (.cells zeroC 31)).setCells W.heap.size 0 (x.h.k.cs x.h.dk).toList) := below_setCells _ _ _ (bl_alloc (Below.refl _ _) _) (Nat.le_refl _)
    show Code.wpIn _ _ _ _ _ a2 ((W.alloc (.cells zeroC 31)).setCells W.heap.size 0 (x.h.k.cs x.h.dk).toList)
    generalize (W.alloc (.cells zeroC 31)).setCells W.heap.size 0 (x.h.k.cs x.h.dk).toList = W2 at hB2 hb2 ⊢
    refine rg_in (lm_r58 (dv := x.h.v) (mv := x.h.dv) h2 rfl (dat_store (Blk.new W2 31 zeroC) (by show 0 + 11 ≤ 11; omega)) fun a3 h3 => ?_) (by kernel_rfl) (fun ⟨_, _, h⟩ => h)
    have hB3 := over_dat (Blk.new W2 31 zeroC) rfl x.h.v x.h.dv
    have hb3 : Below W2.heap.size W2 ((W2.alloc (.cells zeroC 31)).setCells W2.heap.size 0 (x.h.v.cs x.h.dv).toList) := below_setCells _ _ _ (bl_alloc (Below.refl _ _) _) (Nat.le_refl _)
    exact hK a3 _ (bl_trans hb2 hb3) ⟨_, _, h3.to ⟨rfl, rfl, rfl, rfl, rfl, trivial⟩, hB2.below hb3 hB2.lt, hB3⟩
  case hb =>
    rintro l _ pre x Hd a2 W ⟨q1, q2, q4, q5, q6⟩ ⟨⟨e, he, hx⟩, hnx, hgone, lo, mid, hi, hka, _, _, _, _⟩ hHd ⟨g24, g25, h2, x2, x3⟩
    have hKo := q1.ks.map.keys
    obtain ⟨n, hn, hek, hev⟩ := MoS.ent q1.rep he
    have hnl := n.isLt
    have hjl := (List.getElem?_eq_some_iff.1 hn).1
    have hj : x.j = nx pre := by
      have := none_gone q1.rep hKo hgone (by rw [q1.len]; omega)
      omega
    have heR : e ∈ R := by simpa using List.mem_of_getElem? he
    have hown : e.own = true := rep_own fam_key hKo heR (i := n) hek
    rw [hown, if_pos rfl, hek] at hx
    obtain ⟨f, hf, hxk, hxv⟩ := hx
    obtain ⟨f', hf', hfk, hfv⟩ := key_has q1.rep hKo hn
    have hff : f = f' := Option.some.inj (hf.symm.trans hf')
    rw [hff, hfk] at hxk
    rw [hff, hfv] at hxv
    rw [hj] at hn hjl
    obtain ⟨g, hd, hsn, _, hcell⟩ := q1.mem.ord.at (oI_at hn)
    rw [oI_len] at hsn
    have hix : ∀ w, (Instr.indexAt 22 (.slice so.d so.n so.c) (.int .i64 (nx pre : Int))).run Tryd.prog w = .ok (.pointer (some ⟨g, nx pre, none⟩)) w := fun w => by
      rw [hd]
      exact ix_one Tryd.underlying22 intInf (by omega) w
    refine wpIn_block (wpIn_seq (wpsI (lm_r59 (tn := nx pre) (b235 := false) h2 rfl rfl (one_load q2 Tryd.underlying3 rfl rfl) q1.mem.l7 (decide_eq_false (by omega)) fun a3 h3 => wpoI (h3.look 235 rfl) ?_) (by kernel_rfl) (fun ⟨_, _, h⟩ => h)))
    have hdr : Below W.heap.size W (W.drewN 1) := below_drewN (Below.refl _ _) 1
    have hld : ∀ v, Below W.heap.size W v → Lds Tryd.prog 3 (.pointer (some ⟨g, nx pre, none⟩)) (.int .i64 (n.val : Int)) v := fun v hv => by
      obtain ⟨g', hd', _, _, hcell'⟩ := (q1.old hv).mem.ord.at (oI_at hn)
      rw [hd] at hd'
      injection hd' with hd'
      injection hd' with hd'
      subst hd'
      exact lds1 Tryd.underlying3 rfl hcell'
    refine wpsI (lm_r61 (d21 := x.h.k) (m21 := x.h.dk) (tn := nx pre) (on := n.val) (kn := keyD n.val) (b203 := true) (C := fun v => Below W.heap.size W v) (C0 := fun b xk v => (keyD n.val).at v (fun z => b.heap.size ≤ z) xk ∧ Below b.heap.size b v) (C1 := fun v => Below W.heap.size W v)
      h3 rfl rfl rfl (fun v hv => dat_whole (x2.below hv x2.lt)) (fun v hv => (q1.old hv).mem.l7) (fun v hv => one_load (q2.below hv q2.lt) Tryd.underlying3 rfl rfl) hix hld hdr ((kkey_any hnl _).mono fun e v hh => let ⟨m, r1, r2, r3⟩ := hh; ⟨m, r1, r2, r3⟩) (fun _ v hv => bl_trans hdr hv.2)
      (fun xk v hv => (ksame_any (d := x.h.k) (by rw [hxk]; exact key_ok hnl) (key_ok hnl) (hka.old (bl_trans hdr hv.2)) hv.1).mono fun e v2 hh => ⟨by rw [hh.1, hxk]; show Ending.returned (.bool (sameD (keyD n.val).h (keyD n.val).k (keyD n.val).h (keyD n.val).k)) = _; rw [sameD_refl], bl_trans (bl_trans hdr hv.2) hh.2⟩) fun a4 _ _ W4 _ hb4 h4 => ?_) (by kernel_rfl) (fun ⟨_, _, h⟩ => h)
    have q14 := q1.old hb4
    have q24 := q2.below hb4 q2.lt
    have x34 := x3.below hb4 x3.lt
    rw [hxv] at x34
    refine wpIn_seq (wpsI (lm_r62 (vn := vals n.val) (vv := vals n.val) (tn := nx pre) (on := n.val) (b255 := false) h4 rfl rfl rfl rfl rfl (one_load x34 Tryd.underlying3 rfl rfl) q14.mem.l6 q14.mem.l7 (one_load q24 Tryd.underlying3 rfl rfl) hix (hld _ hb4) (fun w => ix_one Tryd.underlying22 intInf hnl w) (q14.mem.lv hnl) (decide_eq_false (by simp)) fun a5 mm h5 => wpoI (h5.look 256 rfl) ?_) (by kernel_rfl) (fun ⟨_, _, h⟩ => h))
    have hb5 : Below W4.heap.size W4 (W4.drewN mm) := below_drewN (Below.refl _ _) mm
    have q15 := q14.old hb5
    have q25 := q24.below hb5 q24.lt
    have hb05 := bl_trans hb4 hb5
    have hDW := (Array.getElem?_eq_some_iff.1 q6).1
    refine wplI (lm_r64 (tn := nx pre) h5 rfl (one_load q25 Tryd.underlying3 rfl rfl) (by omega) (one_store q25 intInf (by show 0 < 1; omega) rfl) fun a6 h6 => block_norm ?_) (by kernel_rfl) (fun ⟨_, _, h⟩ => h)
    have hmv : Moved (fun b => K b) W ((W4.drewN mm).setCells g20 0 [.int .i64 ((nx pre : Int) + 1)]) := (Moved.of_below hb05).set (.inl hG.k) _ _
    refine ⟨keepsFrom_moved hmv hKl, (), ⟨MoS.count hc hG q15 _ _, ?_, Blk.farL nw _ _ _ ((q4.below hb4 q4.lt).below hb5 (q4.below hb4 q4.lt).lt), by rw [nx_snoc, hj]; omega, (setCells_other _ _ _ hD20).trans ((hb05.block D1 hDW).trans q6)⟩, hmv.more (fun _ h => .inl h), fun b hb => .inl hb⟩
    have := q25.set_ 0 (.int .i64 ((nx pre : Int) + 1))
    rw [nx_snoc, hj]
    exact this
  case hd =>
    rintro _ xs W hE ⟨q1, q2, q4, q5, q6⟩ hD'
    have hxl : nx xs = os.length := by
      have := none_gone q1.rep q1.ks.map.keys (show GoneB R R (nx xs) R.length from hE) (Nat.le_refl _)
      omega
    rw [hxl] at q2
    refine block_norm ?_
    have h5 : Sl 263 { a3 with defers := { target := .collected v.heap.size, args := #[] } :: a3.defers } [(20, .pointer (some ⟨g20, 0, none⟩)), (7, .pointer (some ⟨c.g7, 0, none⟩)), (6, .pointer (some ⟨c.g6, 0, none⟩)), (5, .slice (some ⟨c.gt, 0, none⟩) 900 900), (4, .pointer (some ⟨c.m, 0, none⟩)), (2, .pointer (some ⟨g2, 0, none⟩)), (0, .slice c.dl c.xs.length c.ql)] [{ target := .collected v.heap.size, args := #[] }, { target := .collected D1, args := #[] }] := by
      have h6 := h3.to (l0 := [(20, .pointer (some ⟨g20, 0, none⟩)), (7, .pointer (some ⟨c.g7, 0, none⟩)), (6, .pointer (some ⟨c.g6, 0, none⟩)), (5, .slice (some ⟨c.gt, 0, none⟩) 900 900), (4, .pointer (some ⟨c.m, 0, none⟩)), (2, .pointer (some ⟨g2, 0, none⟩)), (0, .slice c.dl c.xs.length c.ql)]) ⟨rfl, rfl, rfl, rfl, rfl, rfl, rfl, trivial⟩
      exact ⟨h6.size, by simp [h6.defers], h6.known⟩
    have hb2 := h2.below q1.ks.low h2.lt
    refine wp_seq (rg_wp (lm_r65 (tn := os.length) (b262 := true) h5 rfl rfl rfl (one_load q2 Tryd.underlying3 rfl rfl) q1.mem.l7 (decide_eq_true (by rw [hsn])) (one_store hb2 (by kernel_rfl) (by show 0 < 1; omega) rfl) fun a6 h6 => wp_ret ?_))
    show LeavesInM _ _ _ _ _ _ a6.defers .returning _
    rw [h6.defers]
    have hb2' : Blk (W.setCells g2 0 [.bool true]) g2 4 #[.bool true] := hb2.set_ 0 (.bool true)
    have hlt2 := h2.lt
    have hDa : (W.setCells g2 0 [.bool true]).heap[v.heap.size]? = some (.deferred (some [])) := (setCells_other _ _ _ (by omega)).trans hD'
    have hDb : (W.setCells g2 0 [.bool true]).heap[D1]? = some (.deferred (some [])) := (setCells_other _ _ _ (by omega)).trans q6
    have hbl : Below B0 wB W := ⟨q1.ks.low.os.trans hbB.os, q1.ks.low.tape.trans hbB.tape, q1.ks.low.output.trans hbB.output, Nat.le_trans hbB.size q1.ks.low.size, fun k hk => (q1.ks.low.block k (by omega)).trans (hbB.block k hk)⟩
    refine leaves_ok (ds := [v.heap.size, D1]) D1 _ (by simp; omega) (fun D hD' => by
      rcases List.mem_cons.1 hD' with rfl | hD'
      · exact ⟨by omega, hDa⟩
      · rw [List.mem_singleton.1 hD']; exact ⟨Nat.le_refl _, hDb⟩) fun W' hx => ⟨.bool true, results_cell rfl h6 rfl (one_load (hb2'.ext hx) Tryd.underlying4 rfl rfl), rfl, Below.ext' (below_setCells _ _ _ hbl hB2) hx (by omega)⟩
end
end Go.Proofs.YtlhfickniegooaaDoor

namespace Go.Proofs.YtlhfickniegooaaDoor
open Go.RowKit
set_option maxRecDepth 100000

theorem boolAll : (Tryd.prog.info? 4).map (fun i => (i.zero, i.size, decide (i.bytes ≤ 200))) = some (some (.bool false), 1, true) := by kernel_rfl
theorem intAll : (Tryd.prog.info? 3).map (fun i => (i.zero, i.size, decide (i.bytes ≤ 200))) = some (some (.int .i64 0), 1, true) := by kernel_rfl
theorem make_ones {t e : TypeId} {z : Value} (hz1 : z.cells = #[z]) (ht : Tryd.prog.underlying t = some (.slice e)) (ha : (Tryd.prog.info? e).map (fun i => (i.zero, i.size, decide (i.bytes ≤ 200))) = some (some z, 1, true)) (n : Nat) (hn : n ≤ 1099511627776) (w : World) : ∃ w', (Instr.makeSlice t (.int .i64 (n : Int)) (.int .i64 (n : Int))).run Tryd.prog w = .ok (.slice (some ⟨w.heap.size, 0, none⟩) n n) w' ∧ (∃ cur, Blk w' w.heap.size e cur ∧ cur.size = n ∧ ∀ i, i < n → cur[i]? = some z) ∧ Below w.heap.size w w' := by
  obtain ⟨i, hi, hz⟩ := Option.map_eq_some_iff.1 ha
  injection hz with hz0 hz
  injection hz with hz1' hz2
  have hb : i.bytes ≤ 200 := by simpa using hz2
  obtain ⟨w', h1, h2, h3⟩ := run_make_full (P := Tryd.prog) w w.heap.size t e i _ 1 ht hi hz0 hz1' .i64 .i64 n (by
    have : i.bytes * n ≤ 200 * n := Nat.mul_le_mul_right _ hb
    omega) (by unfold maxLen; omega) (Nat.le_refl _)
  refine ⟨w', h1, ?_, below_of_grown h3⟩
  rcases h2.2 with ⟨e, _⟩ | ⟨g, cap, cur, e, hB, hh, hc, hm, hs, ht⟩
  · cases e
  · injection e with e1 _ e3
    injection e1 with e1
    injection e1 with e1
    subst e1 e3
    refine ⟨cur, hh, by simpa using hs, fun i hi => ?_⟩
    have h4 : (madeCells z.cells (n * 1)).toList[i]? = some z := by
      rw [Array.getElem?_toList]
      simp [madeCells, hz1, Array.getElem?_map, hi]
      rw [Nat.mod_one]
      rfl
    rw [← ht, List.getElem?_take_of_lt (by omega), Array.getElem?_toList] at h4
    exact h4
/-- Three numbers of each act lie one behind the other. -/
def ActsAt (w : World) (pa : Option Addr) (xs : List (Int × Int × Int)) : Prop := ∀ (j : Nat) (x : Int × Int × Int), xs[j]? = some x → ∃ g o, pa = some ⟨g, o, none⟩ ∧ g < w.heap.size ∧ w.cell? ⟨g, o + j * 3, none⟩ = some (.int .i64 x.1) ∧ w.cell? ⟨g, o + j * 3 + 1, none⟩ = some (.int .i64 x.2.1) ∧ w.cell? ⟨g, o + j * 3 + 2, none⟩ = some (.int .i64 x.2.2) ∧ okInt x.1 ∧ okInt x.2.1 ∧ okInt x.2.2
theorem mapInf2 : (Tryd.prog.info? 22).map (·.size) = some 1 := by kernel_rfl
set_option maxHeartbeats 4000000 in
theorem model_any {w : World} (hown : OwnAt w) {xs : List (Int × Int × Int)} {pa : Option Addr} {pc : Nat} (hls : ActsAt w pa xs) :
    Calls Tryd.prog 5 #[.slice pa xs.length pc] w fun e w' => e = .returned (.bool true) ∧ Below w.heap.size w w' := by
  refine calls_evM (vs := [.slice pa xs.length pc]) 263 Tryd.func5 lm_body (by kernel_rfl) (by simp) fun a0 h0 => ?_
  unfold lmBody
  refine wp_seq (rg_wp (lm_r0 h0 fun a1 h1 => ?_))
  have hR1 := Blk.new w 4 #[.bool false]
  have hb1 := bl_alloc (Below.refl w.heap.size w) (.cells #[.bool false] 4)
  generalize w.alloc (.cells #[.bool false] 4) = w1 at hR1 hb1 ⊢
  refine wp_seq (rg_wp (lm_r1 (C0 := fun u => Below w1.heap.size w1 u) h1 (known_any w1 (hown.old hb1)) fun a2 w2 hb2 h2 => ?_))
  have hb02 := bl_trans hb1 hb2
  have hown2 := hown.old hb02
  refine wp_seq (rg_wp (lm_r2 (gm := w2.heap.size) (C0 := fun u => KS w2 (fun _ => False) u w2.heap.size [] _ _) h2 (ks_new w2) fun a3 u3 hK3 h3 => ?_))
  refine wp_seq (wp_seq (rg_wp (lm_r3 (b33 := false) h3 rfl rfl (fun w => eql_map w2.heap.size w) fun a4 h4 => wpo (h4.look 34 rfl) ?_)))
  obtain ⟨w5, hm5, ⟨ct, hct, hcz, hcv⟩, hb5⟩ := make_ones (z := .bool false) rfl Tryd.underlying62 boolAll 900 (by omega) u3
  refine wp_seq (rg_wp (lm_r5 h4 hm5 fun a5 h5 => ?_))
  obtain ⟨w6, hm6, ⟨cv, hvt, hvz, hvv⟩, hb6⟩ := make_ones (z := .int .i64 0) rfl Tryd.underlying22 intAll 900 (by omega) w5
  refine wp_seq (rg_wp (lm_r6 h5 hm6 (one_store (Blk.new w6 22 #[.slice none 0 0]) mapInf2 (by show 0 < 1; omega) rfl) fun a6 h6 => ?_))
  have hB6 : Blk ((w6.alloc (.cells #[.slice none 0 0] 22)).setCells w6.heap.size 0 [.slice (some ⟨w5.heap.size, 0, none⟩) 900 900]) w6.heap.size 22 #[.slice (some ⟨w5.heap.size, 0, none⟩) 900 900] := (Blk.new w6 22 #[.slice none 0 0]).set_ 0 _
  have hb7 : Below w6.heap.size w6 ((w6.alloc (.cells #[.slice none 0 0] 22)).setCells w6.heap.size 0 [.slice (some ⟨w5.heap.size, 0, none⟩) 900 900]) := below_setCells _ _ _ (bl_alloc (Below.refl _ _) _) (Nat.le_refl _)
  generalize (w6.alloc (.cells #[.slice none 0 0] 22)).setCells w6.heap.size 0 [.slice (some ⟨w5.heap.size, 0, none⟩) 900 900] = w7 at hB6 hb7 ⊢
  refine wp_seq (rg_wp (lm_r7 h6 fun a7 h7 => ?_))
  have hB7 := Blk.new w7 22 #[.slice none 0 0]
  have hb8 := bl_alloc (Below.refl w7.heap.size w7) (.cells #[.slice none 0 0] 22)
  have hs8 : (w7.alloc (.cells #[.slice none 0 0] 22)).heap.size = w7.heap.size + 1 := by simp
  generalize w7.alloc (.cells #[.slice none 0 0] 22) = w8 at hB7 hb8 hs8 ⊢
  have s3 := hK3.low.size
  have l5 := hct.lt
  have l6 := hvt.lt
  have l7 := hB6.lt
  have z5 := hb5.size
  have z6 := hb6.size
  have z7 := hb7.size
  have hb58 := bl_trans (bl_trans (bl_trans hb5 hb6) hb7) hb8
  obtain ⟨c, hc⟩ : ∃ c : MoP, c = ⟨w2, w8.heap.size, w2.heap.size, w6.heap.size, w7.heap.size, u3.heap.size, w5.heap.size, pa, pc, xs⟩ := ⟨_, rfl⟩
  have hcok : c.ok := by
    subst hc
    refine ⟨hown2, fun j x hx => ?_, by dsimp only; omega, ⟨by dsimp only; omega, by dsimp only; omega⟩, ⟨by dsimp only; omega, by dsimp only; omega⟩, ⟨by dsimp only; omega, by dsimp only; omega⟩, ⟨by dsimp only; omega, by dsimp only; omega⟩, by dsimp only; omega, by dsimp only; omega, by dsimp only; omega, by dsimp only; omega, by dsimp only; omega, by dsimp only; omega⟩
    obtain ⟨g, o, q1, q2, q3, q4, q5, q6⟩ := hls j x hx
    have hz := hb02.size
    exact ⟨g, o, q1, by dsimp only; omega, (hb02.cell (p := ⟨g, o + j * 3, none⟩) q2).trans q3, (hb02.cell (p := ⟨g, o + j * 3 + 1, none⟩) q2).trans q4, (hb02.cell (p := ⟨g, o + j * 3 + 2, none⟩) q2).trans q5, q6⟩
  obtain ⟨D0, O0, hK8⟩ : ∃ D O, KS w2 (fun b => b = w6.heap.size ∨ b = w7.heap.size ∨ b = u3.heap.size ∨ b = w5.heap.size) w8 w2.heap.size [] D O := ⟨_, _, hK3.add hb58 (K' := fun b => b = w6.heap.size ∨ b = w7.heap.size ∨ b = u3.heap.size ∨ b = w5.heap.size) (fun b hb => .inr (by rcases hb with rfl | rfl | rfl | rfl <;> omega))⟩
  have hM8 : MoS c (fun b => b = w6.heap.size ∨ b = w7.heap.size ∨ b = u3.heap.size ∨ b = w5.heap.size) D0 O0 [] [] (fun _ => 0) ⟨none, 0, 0⟩ w8 := by
    subst hc
    refine ⟨hK8, rfl, ⟨hB6.below hb8 hB6.lt, hB7, ⟨ct, hct.below (bl_trans (bl_trans hb6 hb7) hb8) hct.lt, hcz, fun i hi => by rw [hcv i hi]; rfl⟩, ⟨cv, hvt.below (bl_trans hb7 hb8) hvt.lt, hvz, hvv⟩, RowI.nil _ _, ⟨.inl rfl, .inr (.inl rfl), .inr (.inr (.inl rfl)), .inr (.inr (.inr rfl)), fun g hg => by cases hg⟩, Nat.le_refl _⟩, fun i => ?_, List.Pairwise.nil⟩
    unfold okInt
    omega
  have h7' : Sl 263 a7 [(7, .pointer (some ⟨c.g7, 0, none⟩)), (6, .pointer (some ⟨c.g6, 0, none⟩)), (5, .slice (some ⟨c.gt, 0, none⟩) 900 900), (4, .pointer (some ⟨c.m, 0, none⟩)), (2, .pointer (some ⟨w.heap.size, 0, none⟩)), (0, .slice c.dl c.xs.length c.ql)] [] := by
    subst hc
    exact h7.to ⟨rfl, rfl, rfl, rfl, rfl, rfl, trivial⟩
  have hR2 : Blk c.w0 w.heap.size 4 #[.bool false] := by
    subst hc
    exact hR1.below hb2 hR1.lt
  have hbB : Below w.heap.size w c.w0 := by
    subst hc
    exact hb02
  refine wp_seq (lm_loop hcok h7' hM8 fun a9 u9 K9 D9 O9 R9 os9 vals9 so9 h9 hM9 => ?_)
  refine wp_seq (rg_wp (lm_r39 (C0 := fun x v => x = u9.heap.size ∧ Blk v x 24 #[.pointer (some ⟨c.m, 0, none⟩)] ∧ Below u9.heap.size u9 v) h9 rfl ((kallm_any u9 c.m).mono fun e u hh => ⟨_, hh.1, rfl, hh.2.1, hh.2.2⟩) fun a10 ga u10 hx10 h10 => ?_))
  obtain ⟨hga, hBa, hba⟩ := hx10
  refine wp_seq (rg_wp (lm_r40 (C0 := fun x v => x = u10.heap.size ∧ Blk v x 24 #[.pointer (some ⟨c.m, 0, none⟩)] ∧ Below u10.heap.size u10 v) h10 rfl ((kwalk_any u10 c.m).mono fun e u hh => ⟨_, hh.1, rfl, hh.2.1, hh.2.2⟩) fun a11 gw u11 hx11 h11 => ?_))
  obtain ⟨hgw, hBw, hbw⟩ := hx11
  refine wp_seq (wp_seq (rg_wp (lm_r41_f (b188 := false) h11 rfl rfl (fun w => eql_all ga w) (fun w => eql_walk gw w) fun a12 h12 => wpo (h12.look 189 rfl) ?_)))
  refine wp_seq (rg_wp (lm_r43 h12 (one_store (Blk.new u11 3 #[.int .i64 0]) intInf (by show 0 < 1; omega) rfl) fun a13 h13 => ?_))
  have hT : Blk ((u11.alloc (.cells #[.int .i64 0] 3)).setCells u11.heap.size 0 [.int .i64 0]) u11.heap.size 3 #[.int .i64 ((0 : Nat) : Int)] := (Blk.new u11 3 #[.int .i64 0]).set_ 0 (.int .i64 0)
  have hb13 : Below u11.heap.size u11 ((u11.alloc (.cells #[.int .i64 0] 3)).setCells u11.heap.size 0 [.int .i64 0]) := below_setCells _ _ _ (bl_alloc (Below.refl _ _) _) (Nat.le_refl _)
  generalize (u11.alloc (.cells #[.int .i64 0] 3)).setCells u11.heap.size 0 [.int .i64 0] = u13 at hT hb13 ⊢
  have la := hBa.lt
  have lw := hBw.lt
  have lt := hT.lt
  have za := hba.size
  have zw := hbw.size
  have zB := hM9.mem.sz
  have zl := hM9.ks.low.size
  have hM13 := hM9.add (bl_trans (bl_trans hba hbw) hb13) (K' := fun b => K9 b ∨ b = u11.heap.size) (fun b hb => hb.elim .inl (fun h => .inr ⟨by omega, by omega⟩)) (fun b hb => .inl hb)
  have hG : MoG c (fun b => K9 b ∨ b = u11.heap.size) so9 u11.heap.size := ⟨.inr rfl, by omega, by omega, fun e => by have := (hM9.mem.rowB e).2; omega⟩
  refine wp_seq (lm_all hcok (ga := ga) (gw := gw) (h13.to ⟨rfl, rfl, rfl, rfl, rfl, rfl, rfl, rfl, rfl, trivial⟩) hM13 hG hT ((hBa.below hbw hBa.lt).below hb13 (hBa.below hbw hBa.lt).lt) (hBw.below hb13 hBw.lt) (by omega) (by omega) fun a14 u14 h14 hM14 h20 hgw14 hD14 hlt14 => ?_)
  exact lm_tail hcok (D1 := u13.heap.size) h14 hM14 hG h20 hgw14 (by omega) hD14 (by have := hb13.size; omega) hR2 (Nat.le_refl _) hbB.size hbB
end Go.Proofs.YtlhfickniegooaaDoor

namespace Go.Proofs.YtlhfickniegooaaDoor
open Go.RowKit Go.ChangeShapes Go.WideShapes

section
variable {H : Type} {enc : TypeId × Value → H} {w : World}
theorem cellsD : Tryd.prog.cellsOf 31 = 11 := by kernel_rfl
theorem cellsR : Tryd.prog.cellsOf 28 = 5 := by kernel_rfl
theorem cellsI : Tryd.prog.cellsOf 3 = 1 := by kernel_rfl
theorem cellsS : Tryd.prog.cellsOf 9 = 1 := by kernel_rfl
theorem cellsU : Tryd.prog.cellsOf 26 = 1 := by kernel_rfl
theorem cellsP : Tryd.prog.cellsOf 22 = 1 := by kernel_rfl
theorem cellsL : Tryd.prog.cellsOf 29 = 1 := by kernel_rfl
theorem bytesD : Tryd.prog.bytesOf 31 = 136 := by kernel_rfl
theorem bytesI : Tryd.prog.bytesOf 3 = 8 := by kernel_rfl
theorem okInt_wf {n : Int} (h : (Lit.int .i64 n).wf = true) : okInt n := by
  simp only [Lit.wf, Bool.and_eq_true, decide_eq_true_iff, IntKind.min, IntKind.max, IntKind.bits, IntKind.signed] at h
  simp at h
  exact h
theorem okU64_wf {n : Int} (h : (Lit.int .u64 n).wf = true) : 0 ≤ n ∧ n ≤ 18446744073709551615 := by
  simp only [Lit.wf, Bool.and_eq_true, IntKind.min, IntKind.max, IntKind.bits, IntKind.signed] at h
  simp at h
  exact h

/-- A datum's cells, and what is known of it. -/
def DatIs (w : World) (cs : List Value) : Prop := ∃ h k pa pc ia ic, cs = (Hd.cells h pa pc ia k.len ic).toList ∧ h.ok ∧ k.ok ∧ k.len ≤ 1034834473170 ∧ DatAt w (fun _ => True) h k pa pc ia ic
def light (t : TypeId) (d : DataW H) : Prop := ∀ n ∈ d.weights Tryd.prog t, n ≤ reachBytes

theorem cells_at {b o n : Nat} {cs : List Value} (h : w.cells? 0 ⟨b, o, none⟩ n = some cs) : CellsAt w b o cs.toArray := by
  obtain ⟨_, hl, hc⟩ := World.cells?_some h
  intro j v hv
  have hv' : cs[j]? = some v := by simpa using hv
  have hj : j < n := by
    rcases Nat.lt_or_ge j cs.length with h1 | h1
    · omega
    · rw [List.getElem?_eq_none h1] at hv'; cases hv'
  have := hc j hj
  rw [hv'] at this
  rw [← this]
  congr 1
  unfold Addr.add
  split
  · rename_i h; subst h; rfl
  · rfl
theorem cells_spot {a : Addr} {n : Nat} {cs : List Value} (h : w.cells? 0 a n = some cs) (hn : 0 < n) : ∃ b o, a = ⟨b, o, none⟩ := by
  obtain ⟨_, hl, hc⟩ := World.cells?_some h
  have h0 := hc 0 hn
  rw [List.getElem?_eq_getElem (by omega)] at h0
  obtain ⟨b, o, s⟩ := a
  have : s = none := by simpa [Addr.add] using World.cell?_spot h0
  subst this
  exact ⟨b, o, rfl⟩
theorem add_at (b o j : Nat) : (Addr.mk b o none).add j = ⟨b, o + j, none⟩ := by
  unfold Addr.add
  split
  · rename_i h; subst h; rfl
  · rfl

theorem fo_of {n : Nat} (ih : ∀ cs (x : DataW H × List MemPlace), DataW.trod enc Tryd.prog w 0 (fun _ => true) true n 31 cs = some x → light 31 x.1 → DatIs w cs) :
    ∀ (els : List (DataW H × List MemPlace)) (b o : Nat), (∀ i, i < els.length → (w.cells? 0 ⟨b, o + i * 11, none⟩ 11).bind (DataW.trod enc Tryd.prog w 0 (fun _ => true) true n 31) = els[i]?) →
      (∀ x ∈ els, light 31 x.1) → ∃ f : Fo, f.len = els.length ∧ f.ok ∧ FoAt w (fun _ => True) b o f
  | [], b, o, _, _ => ⟨.nil, rfl, trivial, trivial⟩
  | x :: els, b, o, hg, hw => by
    obtain ⟨r, r1, r2, r3⟩ := fo_of ih els b (o + 11) (fun i hi => by
      have := hg (i + 1) (by simpa using hi)
      rw [show o + 11 + i * 11 = o + (i + 1) * 11 by omega]
      simpa using this) (fun y hy => hw y (List.mem_cons_of_mem _ hy))
    have h0 := hg 0 (by simp)
    simp only [Nat.zero_mul, Nat.add_zero, List.getElem?_cons_zero] at h0
    obtain ⟨cs, hc, ht⟩ := Option.bind_eq_some_iff.1 h0
    obtain ⟨h, k, pa, pc, ia, ic, e, ho, hk, hkl, hd⟩ := ih cs x ht (hw x List.mem_cons_self)
    have hcell := cells_at hc
    subst e
    refine ⟨.cons h k r, by simp [Fo.len, r1], ⟨ho, hk, r2, hkl⟩, ⟨pa, pc, ia, ic, by simpa using hcell, hd.path, hd.pcLe, hd.pcMax, hd.icLe, hd.icMax, hd.kids⟩, r3⟩

theorem weights_each {P : Program} {n : Nat} : ∀ (ts : List TypeId) (ds : List (DataW H)), n ∈ DataW.weightsEach P ts ds ↔ ∃ (i : Nat) (t : TypeId) (d : DataW H), ts[i]? = some t ∧ ds[i]? = some d ∧ n ∈ d.weights P t
  | [], ds => by simp [DataW.weightsEach]
  | t :: ts, [] => by simp [DataW.weightsEach]
  | t :: ts, d :: ds => by
    rw [DataW.weightsEach, List.mem_append, weights_each ts ds]
    constructor
    · rintro (h | ⟨i, t', d', h1, h2, h3⟩)
      · exact ⟨0, t, d, rfl, rfl, h⟩
      · exact ⟨i + 1, t', d', by simpa using h1, by simpa using h2, h3⟩
    · rintro ⟨i, t', d', h1, h2, h3⟩
      cases i with
      | zero =>
        simp only [List.getElem?_cons_zero, Option.some.injEq] at h1 h2
        subst h1 h2
        exact .inl h3
      | succ i => exact .inr ⟨i, t', d', by simpa using h1, by simpa using h2, h3⟩
theorem weights_all {P : Program} {e : TypeId} {n : Nat} : ∀ (ds : List (DataW H)), n ∈ DataW.weightsAll P e ds ↔ ∃ d ∈ ds, n ∈ d.weights P e
  | [] => by simp [DataW.weightsAll]
  | d :: ds => by rw [DataW.weightsAll, List.mem_append, weights_all ds]; simp

theorem path_of {fuel : Nat} {cs : List Value} {x : DataW H × List MemPlace} (h : DataW.trod enc Tryd.prog w 0 (fun _ => true) true fuel 22 cs = some x) (hw : light 22 x.1) :
    ∃ (l : List Int) (pa : Option Addr) (pc : Nat), cs = [.slice pa l.length pc] ∧ PathAt w (fun _ => True) pa l ∧ l.length ≤ pc ∧ pc ≤ 9223372036854775807 ∧ l.length ≤ 17592186043904 ∧ (∀ (j : Nat) (x : Int), l[j]? = some x → okInt x) := by
  rcases open_ints Tryd.underlying22 Tryd.underlying3 cellsI h with ⟨rfl, rfl⟩ | ⟨a, len, cap, zs, rfl, _, hl, hm, hz, rfl, hc, hwf⟩
  · exact ⟨[], none, 0, rfl, .inl rfl, by simp, by omega, by simp, fun j x h => by simp at h⟩
  · simp only [if_true] at hz
    have hlen : (zs.take len).length = len := by simp; omega
    refine ⟨zs.take len, some a, cap, by rw [hlen], ?_, by omega, by unfold maxLen at hm; exact hm, ?_, fun j x hx => ?_⟩
    · cases hzs : zs.take len with
      | nil => exact .inl rfl
      | cons z r =>
        have hp : 0 < zs.length := by
          rcases Nat.eq_zero_or_pos zs.length with h0 | h0
          · rw [List.eq_nil_of_length_eq_zero h0] at hzs; simp at hzs
          · exact h0
        have h0 := hc 0 hp
        obtain ⟨b, o, s⟩ := a
        have : s = none := by simpa [Addr.add] using World.cell?_spot h0
        subst this
        refine .inr ⟨b, o, rfl, trivial, fun j x hx => ?_⟩
        rw [← hzs, List.getElem?_take] at hx
        split at hx
        · have hj : j < zs.length := by
            rcases Nat.lt_or_ge j zs.length with h1 | h1
            · exact h1
            · rw [List.getElem?_eq_none h1] at hx; cases hx
          have := hc j hj
          rw [add_at] at this
          rw [this, List.getD, hx]; rfl
        · cases hx
    · have := hw ((zs.length) * 8) (by
        simp only [DataW.weights, Tryd.underlying22, bytesI, lits, List.length_map, List.length_take, List.length_drop]
        refine List.mem_cons.2 (.inl ?_)
        congr 1
        omega)
      unfold reachBytes at this
      omega
    · have hm : x ∈ zs := List.mem_of_mem_take (List.mem_of_getElem? hx)
      exact okInt_wf (hwf x hm)

set_option maxRecDepth 100000 in
set_option maxHeartbeats 2000000 in
theorem dat_of : ∀ (fuel : Nat) (cs : List Value) (x : DataW H × List MemPlace), DataW.trod enc Tryd.prog w 0 (fun _ => true) true fuel 31 cs = some x → light 31 x.1 → DatIs w cs := by
  intro fuel
  induction fuel using Nat.strongRecOn with
  | _ fuel IH =>
  intro cs x h hw
  obtain ⟨xs, n, rfl, rfl, hl, hlen, hg⟩ := DataW.trod_struct Tryd.underlying31 h
  rw [cellsD] at hl
  match cs, hl with
  | [c0, c1, c2, c3, c4, c5, c6, c7, c8, c9, c10], _ =>
  match xs, hlen with
  | [x0, x1, x2, x3, x4, x5, x6], _ =>
  have hwe : ∀ (i : Nat) (t : TypeId) (d : DataW H), [3, 9, 3, 26, 9, 28, 29][i]? = some t → [x0.1, x1.1, x2.1, x3.1, x4.1, x5.1, x6.1][i]? = some d → light t d := fun i t d h1 h2 m hm => hw m (by
    simp only [DataW.weights, Tryd.underlying31]
    exact (weights_each _ _).2 ⟨i, t, d, h1, h2, hm⟩)
  have g0 : DataW.trod enc Tryd.prog w 0 (fun _ => true) true n 3 (List.take (Tryd.prog.cellsOf 3) [c0, c1, c2, c3, c4, c5, c6, c7, c8, c9, c10]) = some x0 := hg 0 _ rfl
  have g1 : DataW.trod enc Tryd.prog w 0 (fun _ => true) true n 9 (List.take (Tryd.prog.cellsOf 9) [c1, c2, c3, c4, c5, c6, c7, c8, c9, c10]) = some x1 := hg 1 _ rfl
  have g2 : DataW.trod enc Tryd.prog w 0 (fun _ => true) true n 3 (List.take (Tryd.prog.cellsOf 3) [c2, c3, c4, c5, c6, c7, c8, c9, c10]) = some x2 := hg 2 _ rfl
  have g3 : DataW.trod enc Tryd.prog w 0 (fun _ => true) true n 26 (List.take (Tryd.prog.cellsOf 26) [c3, c4, c5, c6, c7, c8, c9, c10]) = some x3 := hg 3 _ rfl
  have g4 : DataW.trod enc Tryd.prog w 0 (fun _ => true) true n 9 (List.take (Tryd.prog.cellsOf 9) [c4, c5, c6, c7, c8, c9, c10]) = some x4 := hg 4 _ rfl
  have g5 : DataW.trod enc Tryd.prog w 0 (fun _ => true) true n 28 (List.take (Tryd.prog.cellsOf 28) [c5, c6, c7, c8, c9, c10]) = some x5 := hg 5 _ rfl
  have g6 : DataW.trod enc Tryd.prog w 0 (fun _ => true) true n 29 (List.take (Tryd.prog.cellsOf 29) [c10]) = some x6 := hg 6 _ rfl
  clear hg
  rw [cellsI] at g0
  rw [cellsS] at g1
  rw [cellsI] at g2
  rw [cellsU] at g3
  rw [cellsS] at g4
  rw [cellsR] at g5
  rw [cellsL] at g6
  simp only [List.take] at g0 g1 g2 g3 g4 g5 g6
  obtain ⟨kind, e0, _, w0⟩ := DataW.trod_int Tryd.underlying3 g0
  obtain ⟨type, e1, f1, s1⟩ := DataW.trod_string Tryd.underlying9 g1
  obtain ⟨nn, e2, _, w2⟩ := DataW.trod_int Tryd.underlying3 g2
  obtain ⟨ff, e3, _, w3⟩ := DataW.trod_int Tryd.underlying26 g3
  obtain ⟨ss, e4, f4, s4⟩ := DataW.trod_string Tryd.underlying9 g4
  have hl1 := hwe 1 _ _ rfl rfl type.size (by rw [f1]; simp [DataW.weights])
  have hl4 := hwe 4 _ _ rfl rfl ss.size (by rw [f4]; simp [DataW.weights])
  have hw5 := hwe 5 _ _ rfl rfl
  have hw6 := hwe 6 _ _ rfl rfl
  clear hwe hw g0 g1 g2 g3 g4
  obtain ⟨ys, m, rfl, rfl, hl', hlen', hg'⟩ := DataW.trod_struct Tryd.underlying28 g5
  match ys, hlen' with
  | [y0, y1, y2, y3, y4], _ =>
  have p0 : DataW.trod enc Tryd.prog w 0 (fun _ => true) true m 3 (List.take (Tryd.prog.cellsOf 3) [c5, c6, c7, c8, c9]) = some y0 := hg' 0 _ rfl
  have p1 : DataW.trod enc Tryd.prog w 0 (fun _ => true) true m 3 (List.take (Tryd.prog.cellsOf 3) [c6, c7, c8, c9]) = some y1 := hg' 1 _ rfl
  have p2 : DataW.trod enc Tryd.prog w 0 (fun _ => true) true m 3 (List.take (Tryd.prog.cellsOf 3) [c7, c8, c9]) = some y2 := hg' 2 _ rfl
  have p3 : DataW.trod enc Tryd.prog w 0 (fun _ => true) true m 3 (List.take (Tryd.prog.cellsOf 3) [c8, c9]) = some y3 := hg' 3 _ rfl
  have p4 : DataW.trod enc Tryd.prog w 0 (fun _ => true) true m 22 (List.take (Tryd.prog.cellsOf 22) [c9]) = some y4 := hg' 4 _ rfl
  clear hg'
  rw [cellsI] at p0
  rw [cellsI] at p1
  rw [cellsI] at p2
  rw [cellsI] at p3
  rw [cellsP] at p4
  simp only [List.take] at p0 p1 p2 p3 p4
  obtain ⟨obj, q0, _, v0⟩ := DataW.trod_int Tryd.underlying3 p0
  obtain ⟨frm, q1, _, v1⟩ := DataW.trod_int Tryd.underlying3 p1
  obtain ⟨len, q2, _, v2⟩ := DataW.trod_int Tryd.underlying3 p2
  obtain ⟨cap, q3, _, v3⟩ := DataW.trod_int Tryd.underlying3 p3
  have hwp : light 22 y4.1 := fun m hm => hw5 m (by
    simp only [DataW.weights, Tryd.underlying28]
    exact (weights_each _ _).2 ⟨4, _, _, rfl, rfl, hm⟩)
  obtain ⟨path, pa, pc, q4, hpa, hpc, hpm, hpl, hpe⟩ := path_of p4 hwp
  simp only [List.cons.injEq, and_true] at e0 e1 e2 e3 e4 q0 q1 q2 q3 q4
  subst e0 e1 e2 e3 e4 q0 q1 q2 q3 q4
  unfold reachBytes at hl1 hl4
  have hok : Hd.ok ⟨kind, type, nn, ff, ss, obj, frm, len, cap, path⟩ :=
    ⟨okInt_wf w0, okInt_wf w2, (okU64_wf w3).1, (okU64_wf w3).2, okInt_wf v0, okInt_wf v1, okInt_wf v2, okInt_wf v3, hl1, hl4, hpl, hpe⟩
  rcases DataW.trod_slice Tryd.underlying29 g6 with ⟨e6, rfl⟩ | ⟨a, il, ic, elems, rest, n', en, e6, rfl, _, hle, hm, hel, hget, hsp, _⟩
  · simp only [List.cons.injEq, and_true] at e6
    subst e6
    exact ⟨_, .nil, pa, pc, none, 0, rfl, hok, trivial, by simp [Fo.len], ⟨hpa, hpc, hpm, .inl rfl, by simp [Fo.len], by omega⟩⟩
  · simp only [List.cons.injEq, and_true] at e6
    subst e6
    have hr := (hsp rfl).1
    have hcap := hw6 (ic * 136) (by
      simp only [DataW.weights, Tryd.underlying29, bytesD, List.length_map]
      refine List.mem_cons.2 (.inl ?_)
      congr 1
      omega)
    unfold reachBytes at hcap
    have hwl : ∀ y ∈ elems, light 31 y.1 := fun y hy m hm => hw6 m (by
      simp only [DataW.weights, Tryd.underlying29]
      refine List.mem_cons.2 (.inr (List.mem_append.2 (.inl ((weights_all _).2 ⟨y.1, List.mem_map.2 ⟨y, hy, rfl⟩, hm⟩)))))
    unfold maxLen at hm
    rcases Nat.eq_zero_or_pos il with h0 | h0
    · exact ⟨_, .nil, pa, pc, some a, ic, by subst h0; rfl, hok, trivial, by simp [Fo.len], ⟨hpa, hpc, hpm, .inl rfl, by simp [Fo.len], by omega⟩⟩
    · have hg0 := hget 0 h0
      rw [List.getElem?_eq_getElem (by omega), cellsD] at hg0
      obtain ⟨cs0, hc0, _⟩ := Option.bind_eq_some_iff.1 hg0
      obtain ⟨b, o, ea⟩ := cells_spot hc0 (by decide)
      have ea' : a = ⟨b, o, none⟩ := by
        simp only [Nat.zero_mul] at ea
        simpa [Addr.add] using ea
      subst ea'
      obtain ⟨f, r1, r2, r3⟩ := fo_of (n := n') (fun cs' x' h' hw' => IH n' (by omega) cs' x' h' hw') elems b o (fun i hi => by
        have := hget i (by omega)
        rw [cellsD, add_at] at this
        exact this) hwl
      have hfl : f.len = il := by omega
      exact ⟨_, f, pa, pc, some ⟨b, o, none⟩, ic, by rw [hfl]; rfl, hok, r2, by omega, ⟨hpa, hpc, hpm, .inr ⟨b, o, rfl, trivial, r3⟩, by omega, by omega⟩⟩
end
end Go.Proofs.YtlhfickniegooaaDoor
