/-
  One act of KeyedModel: Drop, Get; any act. KeyedModel: its loop over the acts. KeyedModel: its range over All. Written by an AI agent.
-/
import Derived.Test.YtlhfickniegooaaDoorPk29
namespace Go.Proofs.YtlhfickniegooaaDoor
open Go.RowKit
set_option maxRecDepth 100000

section
variable {c : MoP} {K D O : Nat → Prop} {R : List En} {os : List (Fin 900)} {vals : Nat → Int} {so : S3} {u u' : World}
theorem oI_at {os : List (Fin 900)} {j : Nat} {n : Fin 900} (h : os[j]? = some n) : (oI os)[j]? = some (n.val : Int) := by unfold oI; rw [List.getElem?_map, h]; rfl
/-- What the loop over the order keeps: the rest so far. -/
structure RestS (c : MoP) (K0 D O : Nat → Prop) (R : List En) (th : Nat → Bool) (os : List (Fin 900)) (vals : Nat → Int) (so : S3) (n : Fin 900) (j : Nat) (sr : S3) (K : Nat → Prop) (u : World) : Prop where
  ks : KS c.w0 K u c.m R D O
  mem : MoM c K th vals (oI os) so u
  row : RowI u c.B sr (oI ((os.take j).filter (fun i => decide (i ≠ n))))
  kr : ∀ g, sr.v.ownBlock = some g → K g ∧ so.v.ownBlock ≠ some g
set_option maxHeartbeats 2000000 in
theorem lm_rest {Q : Exit → Act → World → Prop} (hc : c.ok) {g2 i : Nat} {n : Fin 900} {th : Nat → Bool} {a : Act} (hl : os.length ≤ 900) (hs : Sl 263 a [(13, .slice none 0 0), (9, .int .i64 (n.val : Int)), (8, .int .i64 (i : Int)), (7, .pointer (some ⟨c.g7, 0, none⟩)), (6, .pointer (some ⟨c.g6, 0, none⟩)), (5, .slice (some ⟨c.gt, 0, none⟩) 900 900), (4, .pointer (some ⟨c.m, 0, none⟩)), (2, .pointer (some ⟨g2, 0, none⟩)), (0, .slice c.dl c.xs.length c.ql)]) (hk : KS c.w0 K u c.m R D O) (hm : MoM c K th vals (oI os) so u)
    (hQ : ∀ (a' : Act) (u' : World) (K' : Nat → Prop) (sr : S3), Sl 263 a' [(13, .slice sr.d sr.n sr.c), (9, .int .i64 (n.val : Int)), (8, .int .i64 (i : Int)), (7, .pointer (some ⟨c.g7, 0, none⟩)), (6, .pointer (some ⟨c.g6, 0, none⟩)), (5, .slice (some ⟨c.gt, 0, none⟩) 900 900), (4, .pointer (some ⟨c.m, 0, none⟩)), (2, .pointer (some ⟨g2, 0, none⟩)), (0, .slice c.dl c.xs.length c.ql)] → RestS c K D O R th os vals so n os.length sr K' u' → Q .normal a' u') :
    (Code.seq (r_lm 31) (.block 3 (.loop lmL0))).wp Tryd.prog Q a u := by
  refine wp_seq (rg_wp (lm_r31 hs fun a1 h1 => ?_))
  have h1 : Sl 263 a1 [(14, .int .i64 ((0 : Nat) : Int)), (13, .slice none 0 0), (9, .int .i64 (n.val : Int)), (8, .int .i64 (i : Int)), (7, .pointer (some ⟨c.g7, 0, none⟩)), (6, .pointer (some ⟨c.g6, 0, none⟩)), (5, .slice (some ⟨c.gt, 0, none⟩) 900 900), (4, .pointer (some ⟨c.m, 0, none⟩)), (2, .pointer (some ⟨g2, 0, none⟩)), (0, .slice c.dl c.xs.length c.ql)] := h1.to ⟨rfl, rfl, rfl, rfl, rfl, rfl, rfl, rfl, rfl, rfl, trivial⟩
  refine wp_block ?_
  refine wp_loop (fun a' wr => ∃ (j : Nat) (sr : S3) (K' : Nat → Prop), j ≤ os.length ∧ Sl 263 a' [(14, .int .i64 (j : Int)), (13, .slice sr.d sr.n sr.c), (9, .int .i64 (n.val : Int)), (8, .int .i64 (i : Int)), (7, .pointer (some ⟨c.g7, 0, none⟩)), (6, .pointer (some ⟨c.g6, 0, none⟩)), (5, .slice (some ⟨c.gt, 0, none⟩) 900 900), (4, .pointer (some ⟨c.m, 0, none⟩)), (2, .pointer (some ⟨g2, 0, none⟩)), (0, .slice c.dl c.xs.length c.ql)] ∧ RestS c K D O R th os vals so n j sr K' wr) (fun a' _ => muTo os.length (slot a' 14))
    ⟨0, ⟨none, 0, 0⟩, K, Nat.zero_le _, h1, hk, hm, RowI.nil _ _, fun g hg => (by cases hg)⟩ ?_
  rintro a2 w2 ⟨j, sr, K2, hj, h2, hR⟩
  rw [h2.look 14 rfl, muTo_int]
  unfold lmL0
  have hsn : so.n = os.length := by rw [hR.mem.ord.2, oI_len]
  by_cases hlt : j < os.length
  · refine wp_seq (wp_seq (rg_wp (lm_r32 (b158 := true) h2 rfl rfl hR.mem.l7 (decide_eq_true (by omega)) fun a3 h3 => wpn (h3.look 158 rfl) ?_)))
    obtain ⟨m, hmj⟩ : ∃ m, os[j]? = some m := ⟨os[j], by simp [hlt]⟩
    obtain ⟨g, hd, _, _, hcell⟩ := hR.mem.ord.at (oI_at hmj)
    have hix : ∀ w, (Instr.indexAt 22 (.slice so.d so.n so.c) (.int .i64 (j : Int))).run Tryd.prog w = .ok (.pointer (some ⟨g, j, none⟩)) w := fun w => by
      rw [hd]
      exact ix_one Tryd.underlying22 intInf (by omega) w
    have next : ∀ (a' : Act) (w' : World) (sr' : S3) (K' : Nat → Prop), Sl 263 a' [(14, .int .i64 (j : Int)), (13, .slice sr'.d sr'.n sr'.c), (9, .int .i64 (n.val : Int)), (8, .int .i64 (i : Int)), (7, .pointer (some ⟨c.g7, 0, none⟩)), (6, .pointer (some ⟨c.g6, 0, none⟩)), (5, .slice (some ⟨c.gt, 0, none⟩) 900 900), (4, .pointer (some ⟨c.m, 0, none⟩)), (2, .pointer (some ⟨g2, 0, none⟩)), (0, .slice c.dl c.xs.length c.ql)] → RestS c K D O R th os vals so n (j + 1) sr' K' w' →
        ∀ Qn : Exit → Act → World → Prop, (∀ a'', ((∃ (j : Nat) (sr : S3) (K' : Nat → Prop), j ≤ os.length ∧ Sl 263 a'' [(14, .int .i64 (j : Int)), (13, .slice sr.d sr.n sr.c), (9, .int .i64 (n.val : Int)), (8, .int .i64 (i : Int)), (7, .pointer (some ⟨c.g7, 0, none⟩)), (6, .pointer (some ⟨c.g6, 0, none⟩)), (5, .slice (some ⟨c.gt, 0, none⟩) 900 900), (4, .pointer (some ⟨c.m, 0, none⟩)), (2, .pointer (some ⟨g2, 0, none⟩)), (0, .slice c.dl c.xs.length c.ql)] ∧ RestS c K D O R th os vals so n j sr K' w') ∧ muTo os.length (slot a'' 14) < os.length - j) → Qn .normal a'' w') → (r_lm 33).wp Tryd.prog Qn a' w' := fun a' w' sr' K' h' hR' Qn hQn => by
      refine wpl (rg_wp (lm_r33 h' rfl (by omega) fun a6 h6 => hQn a6 ⟨⟨j + 1, sr', K', by omega, h6.to ⟨rfl, rfl, rfl, rfl, rfl, rfl, rfl, rfl, rfl, rfl, trivial⟩, hR'⟩, ?_⟩))
      rw [h6.look 14 rfl]
      show muTo os.length (.int .i64 ((j + 1 : Nat) : Int)) < _
      rw [muTo_int]
      omega
    have htk : os.take (j + 1) = os.take j ++ [m] := by rw [List.take_add_one, hmj]; rfl
    refine wp_seq (wp_block ?_)
    by_cases hmn : m = n
    · refine wp_seq (rg_wp (lm_r34 (b166 := false) h3 rfl rfl rfl hR.mem.l7 hix (lds1 Tryd.underlying3 rfl hcell) (decide_eq_false (by rw [hmn]; simp)) fun a4 h4 => wpc_off (h4.look 166 rfl) (block_norm ?_)))
      refine next a4 w2 sr K2 (h4.to ⟨rfl, rfl, rfl, rfl, rfl, rfl, rfl, rfl, rfl, rfl, trivial⟩) ⟨hR.ks, hR.mem, ?_, hR.kr⟩ _ (fun _ h => h)
      rw [htk, List.filter_append, List.filter_cons_of_neg (by simpa using hmn), List.filter_nil, List.append_nil]
      exact hR.row
    · refine wp_seq (rg_wp (lm_r34 (b166 := true) h3 rfl rfl rfl hR.mem.l7 hix (lds1 Tryd.underlying3 rfl hcell) (decide_eq_true (fun e => hmn (Fin.ext (by omega)))) fun a4 h4 => wp_cond_true (h4.look 166 rfl) ?_))
      have hfl : ((os.take j).filter (fun i => decide (i ≠ n))).length ≤ os.length := Nat.le_trans (List.length_filter_le _ _) (by rw [List.length_take]; exact Nat.min_le_right _ _)
      refine wpl (rg_wp (lm_r35 (C0 := fun s v => AppI w2 c.B sr (oI ((os.take j).filter (fun i => decide (i ≠ n)))) (m.val : Int) s v) h4 rfl rfl rfl hR.mem.l7 hix (lds1 Tryd.underlying3 rfl hcell) (fun ty => app_int hR.row hR.mem.sz (by rw [oI_len]; omega) _ ty) fun a5 s5 u5 hx5 h5 => block_norm ?_))
      obtain ⟨q1, q2, q3⟩ := hx5
      have hsz : (w2.alloc (.cells #[.int .i64 (m.val : Int)] 3)).heap.size = w2.heap.size + 1 := by simp
      have hb := bl_alloc (Below.refl w2.heap.size w2) (.cells #[.int .i64 (m.val : Int)] 3)
      have hmm := (hR.mem.old hb).grown hc q2 (fun g hg => (row_block hR.row.1 hg).1) (fun g hg e => (hR.kr g e.symm).2 hg)
      refine next a5 u5 s5 (fun b => K2 b ∨ s5.v.ownBlock = some b) (h5.to ⟨rfl, rfl, rfl, rfl, rfl, rfl, rfl, rfl, rfl, rfl, trivial⟩) ⟨?_, hmm.kk (fun _ h => .inl h), ?_, fun g hg => ⟨.inr hg, fun e => ?_⟩⟩ _ (fun _ h => h)
      · refine (hR.ks.old hb).grown q2 (fun g hg => ⟨(hR.kr g hg).1, Nat.le_trans hc.lo (row_block hR.row.1 hg).1⟩) (fun b hb' => ?_)
        rcases hb' with hb' | hb'
        · exact .inl hb'
        · rcases q3 with q3 | q3
          · exact .inl (hR.kr b (by rw [← q3]; exact hb')).1
          · have := (row_block q1.1 hb').2
            rw [hb'] at q3
            injection q3 with q3
            exact .inr ⟨by omega, this⟩
      · rw [htk, List.filter_append, List.filter_cons_of_pos (by simpa using hmn), List.filter_nil]
        have e : oI ((os.take j).filter (fun i => decide (i ≠ n)) ++ [m]) = oI ((os.take j).filter (fun i => decide (i ≠ n))) ++ [(m.val : Int)] := by unfold oI; rw [List.map_append]; rfl
        rw [e]
        exact q1
      · rcases q3 with q3 | q3
        · exact (hR.kr g (by rw [← q3]; exact hg)).2 e
        · rw [hg] at q3
          injection q3 with q3
          have := (hR.mem.rowB e).2
          omega
  · have hjn : j = os.length := by omega
    subst hjn
    refine wp_seq (wp_seq (rg_wp (lm_r32 (b158 := false) h2 rfl rfl hR.mem.l7 (decide_eq_false (by omega)) fun a3 h3 => wpx (h3.look 158 rfl) ?_)))
    exact then_exit' (in_block2 (hQ a3 w2 K2 sr (h3.to ⟨rfl, rfl, rfl, rfl, rfl, rfl, rfl, rfl, rfl, trivial⟩) hR))

set_option maxHeartbeats 2000000 in
theorem lm_drop {Q : Exit → Act → World → Prop} (hc : c.ok) {g2 i : Nat} {n : Fin 900} {a : Act} (hs : Sl 263 a [(9, .int .i64 (n.val : Int)), (8, .int .i64 (i : Int)), (7, .pointer (some ⟨c.g7, 0, none⟩)), (6, .pointer (some ⟨c.g6, 0, none⟩)), (5, .slice (some ⟨c.gt, 0, none⟩) 900 900), (4, .pointer (some ⟨c.m, 0, none⟩)), (2, .pointer (some ⟨g2, 0, none⟩)), (0, .slice c.dl c.xs.length c.ql)]) (hM : MoS c K D O R os vals so u)
    (hQ : ∀ (a' : Act) (u' : World) (K' D' O' : Nat → Prop) (R' : List En) (os' : List (Fin 900)) (vals' : Nat → Int) (so' : S3), Sl 263 a' [(9, .int .i64 (n.val : Int)), (8, .int .i64 (i : Int)), (7, .pointer (some ⟨c.g7, 0, none⟩)), (6, .pointer (some ⟨c.g6, 0, none⟩)), (5, .slice (some ⟨c.gt, 0, none⟩) 900 900), (4, .pointer (some ⟨c.m, 0, none⟩)), (2, .pointer (some ⟨g2, 0, none⟩)), (0, .slice c.dl c.xs.length c.ql)] → MoS c K' D' O' R' os' vals' so' u' → Q .normal a' u') :
    (Code.seq (r_lm 26) (.seq (.seq (r_lm 27) (.cond (.tmp 151) (.seq (r_lm 28) .ret) .skip)) (.seq (r_lm 29) (.seq (r_lm 30) (.seq (.seq (r_lm 31) (.block 3 (.loop lmL0))) (r_lm 36)))))).wp Tryd.prog Q a u := by
  have hn := n.isLt
  have hlen : R.length ≤ 900 := by rw [hM.len]; exact nd_len hM.nd
  refine wp_seq (rg_wp (lm_r26 (kn := keyD n.val) (hb := decide (n ∈ os)) (C0 := fun b xk v => (keyD n.val).at v (fun z => b.heap.size ≤ z) xk ∧ Below b.heap.size b v) (C1 := fun v => ∃ R', KS c.w0 K v c.m R' D O ∧ Rep kdM R' (mL (os.filter (fun i => decide (i ≠ n))) vals) ∧ MoM c K (thO os) vals (oI os) so v)
    hs rfl rfl ((kkey_any hn _).mono fun e v hh => let ⟨m, q1, q2, q3⟩ := hh; ⟨m, q1, q2, q3⟩) (fun xk v hv => by
      have hM2 := hM.old hv.2
      by_cases hin : n ∈ os
      · obtain ⟨e, w', hf, _⟩ := rep_has fam_key hM2.ks.map.keys hM2.rep (i := n) rfl (by rw [mL_fst]; simpa using hin)
        refine (ks_drop hM2.ks hc.own (by omega) (key_ok hn) hv.1 (key_right hn).1 (key_right hn).2 hf).mono fun e' v3 hh => ?_
        obtain ⟨q1, X, Z, q2, q3, q4⟩ := hh
        have := rep_drop fam_key (mL_ul hM.nd) hM2.rep hf q2
        rw [mL_out] at this
        exact ⟨by rw [q1, decide_eq_true hin], X ++ Z, q3, this.1, hM2.mem.step hM2.ks q4⟩
      · have hf : fE R (keyD n.val) = none := rep_none fam_key hM2.ks.map.keys hM2.rep (i := n) (fun q => hin (by have := q.2; rw [mL_fst] at this; simpa using this))
        refine (drop_none hM2.ks.map (by omega) (key_ok hn) hv.1 (hM2.ks.own hc.own) (key_right hn).1 (key_right hn).2 hf).mono fun e' v3 hh => ?_
        refine ⟨by rw [hh.1, decide_eq_false hin], R, hM2.ks.old hh.2, ?_, hM2.mem.old hh.2⟩
        rw [← mL_out, outA_none (by rw [mL_fst]; simpa using hin)]
        exact hM2.rep) fun a1 xk u1 u2 _ hx2 h2 => ?_))
  obtain ⟨R2, hk2, hr2, hm2⟩ := hx2
  refine wp_seq (wp_seq (rg_wp (lm_r27 (hb := decide (n ∈ os)) (b150 := false) h2 rfl rfl rfl rfl (fun w => ix_one Tryd.underlying62 boolInf hn w) (by have := hm2.lt hn; rw [thO_mem] at this; exact this) (fun w => by cases decide (n ∈ os) <;> kernel_rfl) fun a3 h3 => wpo (h3.look 151 rfl) ?_)))
  obtain ⟨ct, hB, hsz, _⟩ := hm2.bt
  refine wp_seq (rg_wp (lm_r29 h3 rfl rfl (fun w => ix_one Tryd.underlying62 boolInf hn w) (one_store hB boolInf (by omega) rfl) fun a4 h4 => ?_))
  have hk4 := hk2.set hm2.k.2.2.1 hc.ot.1 n.val [.bool false]
  have hm4 := hm2.there hc hn false
  rw [thO_out] at hm4
  generalize u2.setCells c.gt n.val [.bool false] = u4 at hk4 hm4 ⊢
  refine wp_seq (rg_wp (lm_r30 h4 fun a5 h5 => ?_))
  refine wp_seq (lm_rest hc (nd_len hM.nd) (h5.to ⟨rfl, rfl, rfl, rfl, rfl, rfl, rfl, rfl, rfl, trivial⟩) hk4 hm4 fun a6 u6 K6 sr h6 hR6 => ?_)
  have hrow := hR6.row
  rw [List.take_length] at hrow
  refine wpl (rg_wp (lm_r36 h6 rfl rfl (one_store hR6.mem.b7 (by kernel_rfl) (by show 0 < 1; omega) rfl) fun a7 h7 => ?_))
  exact hQ a7 _ K6 D O R2 (os.filter (fun i => decide (i ≠ n))) vals sr (h7.to ⟨rfl, rfl, rfl, rfl, rfl, rfl, rfl, rfl, trivial⟩) ⟨hR6.ks.set hR6.mem.k.2.1 hc.o7.1 _ _, hr2, hR6.mem.order hc hrow (fun g hg => (hR6.kr g hg).1), hM.vr, hM.nd.filter _⟩

set_option maxHeartbeats 2000000 in
theorem lm_get {Q : Exit → Act → World → Prop} (hc : c.ok) {g2 i : Nat} {n : Fin 900} {a : Act} (hs : Sl 263 a [(9, .int .i64 (n.val : Int)), (8, .int .i64 (i : Int)), (7, .pointer (some ⟨c.g7, 0, none⟩)), (6, .pointer (some ⟨c.g6, 0, none⟩)), (5, .slice (some ⟨c.gt, 0, none⟩) 900 900), (4, .pointer (some ⟨c.m, 0, none⟩)), (2, .pointer (some ⟨g2, 0, none⟩)), (0, .slice c.dl c.xs.length c.ql)]) (hM : MoS c K D O R os vals so u)
    (hQ : ∀ (a' : Act) (u' : World) (K' D' O' : Nat → Prop) (R' : List En) (os' : List (Fin 900)) (vals' : Nat → Int) (so' : S3), Sl 263 a' [(9, .int .i64 (n.val : Int)), (8, .int .i64 (i : Int)), (7, .pointer (some ⟨c.g7, 0, none⟩)), (6, .pointer (some ⟨c.g6, 0, none⟩)), (5, .slice (some ⟨c.gt, 0, none⟩) 900 900), (4, .pointer (some ⟨c.m, 0, none⟩)), (2, .pointer (some ⟨g2, 0, none⟩)), (0, .slice c.dl c.xs.length c.ql)] → MoS c K' D' O' R' os' vals' so' u' → Q .normal a' u') :
    (Code.seq (r_lm 13) (.seq (r_lm 14) (.cond (.tmp 97) (.seq (r_lm 15) .ret) .skip))).wp Tryd.prog Q a u := by
  have hn := n.isLt
  obtain ⟨dg, hdg⟩ : ∃ dg, dg = if n ∈ os then wholeD (vals n.val) else noD := ⟨_, rfl⟩
  refine wp_seq (rg_wp (lm_r13 (kn := keyD n.val) (dg := dg) (hb := decide (n ∈ os)) (C0 := fun b xk v => (keyD n.val).at v (fun z => b.heap.size ≤ z) xk ∧ Below b.heap.size b v) (C1 := fun _ v => MoS c K D O R os vals so v)
    hs rfl rfl ((kkey_any hn _).mono fun e v hh => let ⟨m, q1, q2, q3⟩ := hh; ⟨m, q1, q2, q3⟩) (fun xk v hv => by
      have hM2 := hM.old hv.2
      by_cases hin : n ∈ os
      · obtain ⟨e, w', hf, _, hv', hin'⟩ := rep_has fam_key hM2.ks.map.keys hM2.rep (i := n) rfl (by rw [mL_fst]; simpa using hin)
        have hval : w' = wholeD (vals n.val) := by
          unfold mL at hin'
          obtain ⟨z, _, hz⟩ := List.mem_map.1 hin'
          injection hz with h1 h2
          rw [← h2, h1]
        refine (get_some hM2.ks.map (key_ok hn) hv.1 (hM2.ks.own hc.own) (key_right hn).1 (key_right hn).2 hf).mono fun e' v3 hh => ?_
        obtain ⟨m', q1, _, q2⟩ := hh
        rw [hv', hval] at q1
        exact ⟨m', by rw [q1, hdg, if_pos hin, decide_eq_true hin], hM2.old q2⟩
      · have hf : fE R (keyD n.val) = none := rep_none fam_key hM2.ks.map.keys hM2.rep (i := n) (fun q => hin (by have := q.2; rw [mL_fst] at this; simpa using this))
        refine (get_none hM2.ks.map (key_ok hn) hv.1 (hM2.ks.own hc.own) (key_right hn).1 (key_right hn).2 hf).mono fun e' v3 hh => ?_
        exact ⟨m0, by rw [hh.1, hdg, if_neg hin, decide_eq_false hin]; rfl, hM2.old hh.2⟩) (fun _ v _ _ v2 _ => dat_store (Blk.new v2 31 zeroC) (by show 0 + 11 ≤ 11; omega)) fun a1 xk u1 xm u2 _ hM2 h2 => ?_))
  have hB3 := over_dat (Blk.new u2 31 zeroC) rfl dg xm
  have hb3 : Below u2.heap.size u2 ((u2.alloc (.cells zeroC 31)).setCells u2.heap.size 0 (dg.cs xm).toList) := below_setCells _ _ _ (bl_alloc (Below.refl _ _) _) (Nat.le_refl _)
  have hM3 := hM2.old hb3
  show Code.wp _ _ _ a1 ((u2.alloc (.cells zeroC 31)).setCells u2.heap.size 0 (dg.cs xm).toList)
  generalize (u2.alloc (.cells zeroC 31)).setCells u2.heap.size 0 (dg.cs xm).toList = u3 at hB3 hM3 ⊢
  have hth := hM3.mem.lt hn
  rw [thO_mem] at hth
  by_cases hin : n ∈ os
  · rw [decide_eq_true hin] at h2 hth
    rw [if_pos hin] at hdg
    subst hdg
    refine wp_seq (rg_wp (lm_r14_tff (vn := vals n.val) (vv := vals n.val) h2 rfl rfl rfl rfl rfl rfl (fun w => ix_one Tryd.underlying62 boolInf hn w) hth (fun w => by kernel_rfl) (one_load hB3 Tryd.underlying3 rfl rfl) hM3.mem.l6 (fun w => ix_one Tryd.underlying22 intInf hn w) (hM3.mem.lv hn) (decide_eq_false (by simp)) fun a4 m h4 => wpc_off (h4.look 97 rfl) ?_))
    exact hQ a4 _ K D O R os vals so (h4.to ⟨rfl, rfl, rfl, rfl, rfl, rfl, rfl, rfl, trivial⟩) (hM3.old (below_drewN (Below.refl _ _) m))
  · rw [decide_eq_false hin] at h2 hth
    rw [if_neg hin] at hdg
    subst hdg
    refine wp_seq (rg_wp (lm_r14_ff (vk := 0) (b95 := false) h2 rfl rfl rfl rfl rfl (fun w => ix_one Tryd.underlying62 boolInf hn w) hth (fun w => by kernel_rfl) (one_load hB3 Tryd.underlying3 rfl rfl) (decide_eq_false (by simp)) fun a4 m h4 => wpc_off (h4.look 97 rfl) ?_))
    exact hQ a4 _ K D O R os vals so (h4.to ⟨rfl, rfl, rfl, rfl, rfl, rfl, rfl, rfl, trivial⟩) (hM3.old (below_drewN (Below.refl _ _) m))
end
end Go.Proofs.YtlhfickniegooaaDoor

namespace Go.Proofs.YtlhfickniegooaaDoor
open Go.RowKit
set_option maxRecDepth 100000

def moN (c : MoP) : Nat := min c.xs.length 400
section
variable {c : MoP}
set_option maxHeartbeats 4000000 in
theorem lm_loop {Q : Exit → Act → World → Prop} (hc : c.ok) {K D O : Nat → Prop} {vals : Nat → Int} {so : S3} {u : World} {g2 : Nat} {a : Act} (hs : Sl 263 a [(7, .pointer (some ⟨c.g7, 0, none⟩)), (6, .pointer (some ⟨c.g6, 0, none⟩)), (5, .slice (some ⟨c.gt, 0, none⟩) 900 900), (4, .pointer (some ⟨c.m, 0, none⟩)), (2, .pointer (some ⟨g2, 0, none⟩)), (0, .slice c.dl c.xs.length c.ql)]) (hM : MoS c K D O [] [] vals so u)
    (hQ : ∀ (a' : Act) (u' : World) (K' D' O' : Nat → Prop) (R' : List En) (os' : List (Fin 900)) (vals' : Nat → Int) (so' : S3), Sl 263 a' [(7, .pointer (some ⟨c.g7, 0, none⟩)), (6, .pointer (some ⟨c.g6, 0, none⟩)), (5, .slice (some ⟨c.gt, 0, none⟩) 900 900), (4, .pointer (some ⟨c.m, 0, none⟩)), (2, .pointer (some ⟨g2, 0, none⟩)), (0, .slice c.dl c.xs.length c.ql)] → MoS c K' D' O' R' os' vals' so' u' → Q .normal a' u') :
    (Code.seq (r_lm 8) (.block 0 (.loop lmL1))).wp Tryd.prog Q a u := by
  refine wp_seq (rg_wp (lm_r8 hs fun a1 h1 => ?_))
  have h1 : Sl 263 a1 [(8, .int .i64 ((0 : Nat) : Int)), (7, .pointer (some ⟨c.g7, 0, none⟩)), (6, .pointer (some ⟨c.g6, 0, none⟩)), (5, .slice (some ⟨c.gt, 0, none⟩) 900 900), (4, .pointer (some ⟨c.m, 0, none⟩)), (2, .pointer (some ⟨g2, 0, none⟩)), (0, .slice c.dl c.xs.length c.ql)] := h1.to ⟨rfl, rfl, rfl, rfl, rfl, rfl, rfl, trivial⟩
  refine wp_block ?_
  refine wp_loop (fun a' wr => ∃ (i : Nat) (K D O : Nat → Prop) (R : List En) (os : List (Fin 900)) (vals : Nat → Int) (so : S3), i ≤ moN c ∧ Sl 263 a' [(8, .int .i64 (i : Int)), (7, .pointer (some ⟨c.g7, 0, none⟩)), (6, .pointer (some ⟨c.g6, 0, none⟩)), (5, .slice (some ⟨c.gt, 0, none⟩) 900 900), (4, .pointer (some ⟨c.m, 0, none⟩)), (2, .pointer (some ⟨g2, 0, none⟩)), (0, .slice c.dl c.xs.length c.ql)] ∧ MoS c K D O R os vals so wr) (fun a' _ => muTo (moN c) (slot a' 8))
    ⟨0, K, D, O, [], [], vals, so, Nat.zero_le _, h1, hM⟩ ?_
  rintro a2 w2 ⟨i, K2, D2, O2, R2, os2, vals2, so2, hi, h2, hM2⟩
  rw [h2.look 8 rfl, muTo_int]
  unfold lmL1
  have hNle : moN c ≤ c.xs.length ∧ moN c ≤ 400 := ⟨Nat.min_le_left _ _, Nat.min_le_right _ _⟩
  by_cases hlt : i < moN c
  · refine wp_seq (wp_seq (rg_wp (lm_r9_t (b43 := true) h2 rfl rfl (decide_eq_true (by omega)) (decide_eq_true (by omega)) fun a3 h3 => wpn (h3.look 44 rfl) ?_)))
    obtain ⟨x, hx⟩ : ∃ x, c.xs[i]? = some x := ⟨c.xs[i], by simp [show i < c.xs.length by omega]⟩
    obtain ⟨g, o, hix, hld⟩ := hc.ld hx
    obtain ⟨_, _, _, _, _, _, _, ox1, ox2, ox3⟩ := hc.ls i x hx
    have hlow := hld _ hM2.ks.low
    obtain ⟨n, hn⟩ : ∃ n : Fin 900, n.val = pkN x.2.1 900 := ⟨⟨pkN x.2.1 900, pkN_lt _ (by omega)⟩, rfl⟩
    refine wp_seq (wp_block ?_)
    refine wp_seq (rg_wp (lm_r11 (n := n.val) (x := x.2.1) (C0 := fun v => v = w2) h3 rfl rfl hix hlow.2.1 ((kpick_any (n := 900) ox2 (by omega) w2).mono fun e v hh => ⟨by rw [hh.1, hn], hh.2⟩) fun a4 w4 hx4 h4 => ?_))
    subst hx4
    refine wp_seq (wp_seq (rg_wp (lm_r12 (ka := pkN x.1 4) (x := x.1) (C0 := fun v => v = w4) h4 rfl rfl hix hlow.1 ((kpick_any (n := 4) ox1 (by omega) w4).mono fun e v hh => hh) fun a5 w5 hx5 h5 => wp_block ?_)))
    subst hx5
    have after : ∀ (a' : Act) (u' : World) (K' D' O' : Nat → Prop) (R' : List En) (os' : List (Fin 900)) (vals' : Nat → Int) (so' : S3), Sl 263 a' [(9, .int .i64 (n.val : Int)), (8, .int .i64 (i : Int)), (7, .pointer (some ⟨c.g7, 0, none⟩)), (6, .pointer (some ⟨c.g6, 0, none⟩)), (5, .slice (some ⟨c.gt, 0, none⟩) 900 900), (4, .pointer (some ⟨c.m, 0, none⟩)), (2, .pointer (some ⟨g2, 0, none⟩)), (0, .slice c.dl c.xs.length c.ql)] → MoS c K' D' O' R' os' vals' so' u' →
        ∀ Qn : Exit → Act → World → Prop, (∀ a'' u'', ((∃ (i : Nat) (K D O : Nat → Prop) (R : List En) (os : List (Fin 900)) (vals : Nat → Int) (so : S3), i ≤ moN c ∧ Sl 263 a'' [(8, .int .i64 (i : Int)), (7, .pointer (some ⟨c.g7, 0, none⟩)), (6, .pointer (some ⟨c.g6, 0, none⟩)), (5, .slice (some ⟨c.gt, 0, none⟩) 900 900), (4, .pointer (some ⟨c.m, 0, none⟩)), (2, .pointer (some ⟨g2, 0, none⟩)), (0, .slice c.dl c.xs.length c.ql)] ∧ MoS c K D O R os vals so u'') ∧ muTo (moN c) (slot a'' 8) < moN c - i) → Qn .normal a'' u'') →
        (Code.seq (r_lm 37) (.cond (.tmp 179) (.seq (r_lm 38) .ret) .skip)).wp Tryd.prog (Exit.inBlock 1 (Exit.then ((r_lm 10).wp Tryd.prog Qn) Qn)) a' u' := fun a' u' K' D' O' R' os' vals' so' h' hM' Qn hQn => by
      refine wp_seq (rg_wp (lm_r37 (cl := R'.length) (b179 := false) (C := fun v => MoS c K' D' O' R' os' vals' so' v) h' rfl rfl (fun v hv => (klen_any hv.ks.map).mono fun e v' hh => ⟨hh.1, by rw [hh.2]; exact hv⟩) (fun v hv => hv.mem.l7) (decide_eq_false (by rw [hM'.len, hM'.mem.ord.2, oI_len]; simp)) (hM'.old (below_drewN (Below.refl _ _) 1)) fun a6 u6 hM6 h6 => wpc_off (h6.look 179 rfl) (block_norm ?_)))
      show Code.wp _ (r_lm 10) _ a6 u6
      refine wpl (rg_wp (lm_r10 h6 rfl (by omega) fun a7 h7 => hQn a7 u6 ⟨⟨i + 1, K', D', O', R', os', vals', so', by omega, h7.to ⟨rfl, rfl, rfl, rfl, rfl, rfl, rfl, trivial⟩, hM6⟩, ?_⟩))
      rw [h7.look 8 rfl]
      show muTo (moN c) (.int .i64 ((i + 1 : Nat) : Int)) < _
      rw [muTo_int]
      omega
    by_cases hk0 : pkN x.1 4 = 0
    · refine wp_seq (wp_seq (rg_wp (lm_r16 (b99 := true) h5 rfl (decide_eq_true (by omega)) fun a6 h6 => wpn (h6.look 98 rfl) ?_)))
      refine wp_cond_true (h6.look 98 rfl) (lm_put hc hx (h6.to ⟨rfl, rfl, rfl, rfl, rfl, rfl, rfl, rfl, trivial⟩) hM2 fun a' u' K' D' O' R' os' vals' so' h' hM' => block_norm ?_)
      exact after a' u' K' D' O' R' os' vals' so' h' hM' _ (fun _ _ h => h)
    · refine wp_seq (wp_seq (rg_wp (lm_r16 (b99 := false) h5 rfl (decide_eq_false (by omega)) fun a6 h6 => wp_cond_false (h6.look 98 rfl) ?_)))
      by_cases hk1 : pkN x.1 4 = 1
      · refine wpl (rg_wp (lm_r17 (b100 := true) h6 rfl (decide_eq_true (by omega)) fun a7 h7 => ?_))
        refine wp_cond_true (h7.look 98 rfl) (lm_put hc hx (h7.to ⟨rfl, rfl, rfl, rfl, rfl, rfl, rfl, rfl, trivial⟩) hM2 fun a' u' K' D' O' R' os' vals' so' h' hM' => block_norm ?_)
        exact after a' u' K' D' O' R' os' vals' so' h' hM' _ (fun _ _ h => h)
      · refine wpl (rg_wp (lm_r17 (b100 := false) h6 rfl (decide_eq_false (by omega)) fun a7 h7 => ?_))
        refine wp_cond_false (h7.look 98 rfl) ?_
        by_cases hk2 : pkN x.1 4 = 2
        · refine wp_seq (rg_wp (lm_r25 (b134 := true) h7 rfl (decide_eq_true (by omega)) fun a8 h8 => wp_cond_true (h8.look 133 rfl) ?_))
          refine lm_drop (i := i) hc (h8.to ⟨rfl, rfl, rfl, rfl, rfl, rfl, rfl, rfl, trivial⟩) hM2 fun a' u' K' D' O' R' os' vals' so' h' hM' => block_norm ?_
          exact after a' u' K' D' O' R' os' vals' so' h' hM' _ (fun _ _ h => h)
        · refine wp_seq (rg_wp (lm_r25 (b134 := false) h7 rfl (decide_eq_false (by omega)) fun a8 h8 => wp_cond_false (h8.look 133 rfl) ?_))
          refine lm_get (i := i) hc (h8.to ⟨rfl, rfl, rfl, rfl, rfl, rfl, rfl, rfl, trivial⟩) hM2 fun a' u' K' D' O' R' os' vals' so' h' hM' => block_norm ?_
          exact after a' u' K' D' O' R' os' vals' so' h' hM' _ (fun _ _ h => h)
  · have hin : i = moN c := by omega
    by_cases hxl : i < c.xs.length
    · have h400 : i = 400 := by
        unfold moN at hin
        omega
      refine wp_seq (wp_seq (rg_wp (lm_r9_t (b43 := false) h2 rfl rfl (decide_eq_true (by omega)) (decide_eq_false (by omega)) fun a3 h3 => wpx (h3.look 44 rfl) ?_)))
      exact then_exit' (in_block2 (hQ a3 w2 _ _ _ _ _ _ _ (h3.to ⟨rfl, rfl, rfl, rfl, rfl, rfl, trivial⟩) hM2))
    · refine wp_seq (wp_seq (rg_wp (lm_r9_f h2 rfl rfl (decide_eq_false (by omega)) fun a3 h3 => wpx (h3.look 44 rfl) ?_)))
      exact then_exit' (in_block2 (hQ a3 w2 _ _ _ _ _ _ _ (h3.to ⟨rfl, rfl, rfl, rfl, rfl, rfl, trivial⟩) hM2))
end
end Go.Proofs.YtlhfickniegooaaDoor

namespace Go.Proofs.YtlhfickniegooaaDoor
open Go.RowKit
set_option maxRecDepth 100000

section
variable {c : MoP} {K D O : Nat → Prop} {R : List En} {os : List (Fin 900)} {vals : Nat → Int} {so : S3} {u u' : World}
theorem MoS.ext {B : Nat} (h : MoS c K D O R os vals so u) (e : Ext B u u') (hB : c.w0.heap.size ≤ B) : MoS c K D O R os vals so u' := ⟨h.ks.ext e hB, h.rep, h.mem.ext e, h.vr, h.nd⟩
theorem MoS.add (h : MoS c K D O R os vals so u) (hb : Below u.heap.size u u') {K' : Nat → Prop} (hK : ∀ b, K' b → K b ∨ (u.heap.size ≤ b ∧ b < u'.heap.size)) (hK' : ∀ b, K b → K' b) : MoS c K' D O R os vals so u' := ⟨h.ks.add hb hK, h.rep, (h.mem.old hb).kk hK', h.vr, h.nd⟩
theorem MoS.ent (h : Rep kdM R (mL os vals)) {j : Nat} {e : En} (he : R.reverse[j]? = some e) : ∃ n : Fin 900, os[j]? = some n ∧ e.key = keyD n.val ∧ e.val = wholeD (vals n.val) := by
  obtain ⟨p, hp, h1, h2⟩ := h.rev.at he
  have e1 : (mL os vals).reverse = os.map (fun n => (n, wholeD (vals n.val))) := by unfold mL; rw [List.map_reverse, List.reverse_reverse]
  rw [e1, List.getElem?_map] at hp
  obtain ⟨n, hn, rfl⟩ := Option.map_eq_some_iff.1 hp
  exact ⟨n, hn, h1, h2⟩
/-- The counter's box. -/
structure MoG (c : MoP) (K : Nat → Prop) (so : S3) (g20 : Nat) : Prop where
  k : K g20
  lo : c.w0.heap.size ≤ g20
  hi : c.B ≤ g20
  own : so.v.ownBlock ≠ some g20
theorem MoS.count (hc : c.ok) {g20 : Nat} (hg : MoG c K so g20) (h : MoS c K D O R os vals so u) (o : Nat) (vs : List Value) : MoS c K D O R os vals so (u.setCells g20 o vs) :=
  ⟨h.ks.set hg.k hg.lo o vs, h.rep, h.mem.far (by have := hc.o6.2; have := hg.hi; omega) (by have := hc.o7.2; have := hg.hi; omega) (by have := hc.ot.2; have := hg.hi; omega) (by have := hc.ov.2; have := hg.hi; omega) (fun b hb e => hg.own (by rw [hb, e])) o vs, h.vr, h.nd⟩
theorem eql_all (g : Nat) (w : World) : (binOp .eql 41 (.func (.func 30) #[] #[.pointer (some ⟨g, 0, none⟩)]) .nilFunc).run Tryd.prog w = .ok (.bool false) w := by kernel_rfl

set_option maxHeartbeats 4000000 in
/-- The range over All. -/
theorem lm_all {Q : Exit → Act → World → Prop} (hc : c.ok) {g2 g20 ga gw : Nat} {a : Act} (hs : Sl 263 a [(20, .pointer (some ⟨g20, 0, none⟩)), (19, .func (.func 27) #[] #[.pointer (some ⟨gw, 0, none⟩)]), (18, .func (.func 30) #[] #[.pointer (some ⟨ga, 0, none⟩)]), (7, .pointer (some ⟨c.g7, 0, none⟩)), (6, .pointer (some ⟨c.g6, 0, none⟩)), (5, .slice (some ⟨c.gt, 0, none⟩) 900 900), (4, .pointer (some ⟨c.m, 0, none⟩)), (2, .pointer (some ⟨g2, 0, none⟩)), (0, .slice c.dl c.xs.length c.ql)] []) (hM : MoS c K D O R os vals so u) (hG : MoG c K so g20) (h20 : Blk u g20 3 #[.int .i64 ((0 : Nat) : Int)]) (hga : Blk u ga 24 #[.pointer (some ⟨c.m, 0, none⟩)]) (hgw : Blk u gw 24 #[.pointer (some ⟨c.m, 0, none⟩)]) (na : ga ≠ g20) (nw : gw ≠ g20)
    (hQ : ∀ (a' : Act) (u' : World), Sl 263 a' [(20, .pointer (some ⟨g20, 0, none⟩)), (19, .func (.func 27) #[] #[.pointer (some ⟨gw, 0, none⟩)]), (18, .func (.func 30) #[] #[.pointer (some ⟨ga, 0, none⟩)]), (7, .pointer (some ⟨c.g7, 0, none⟩)), (6, .pointer (some ⟨c.g6, 0, none⟩)), (5, .slice (some ⟨c.gt, 0, none⟩) 900 900), (4, .pointer (some ⟨c.m, 0, none⟩)), (2, .pointer (some ⟨g2, 0, none⟩)), (0, .slice c.dl c.xs.length c.ql)] [{ target := .collected u.heap.size, args := #[] }] → MoS c K D O R os vals so u' → Blk u' g20 3 #[.int .i64 (os.length : Int)] → Blk u' gw 24 #[.pointer (some ⟨c.m, 0, none⟩)] → u'.heap[u.heap.size]? = some (.deferred (some [])) → u.heap.size < u'.heap.size → Q .normal a' u') :
    (Code.seq (r_lm 44) (.block 5 (.rangeFunc (.tmp 190) #[191, 192] (.seq (r_lm 45) (r_lm 46)) (.block 6 (.seq (.seq (r_lm 47) (.cond (.tmp 196) (.seq (r_lm 48) .ret) .skip)) (.seq (r_lm 49) (.seq (.seq (r_lm 50) (.cond (.tmp 222) (.seq (r_lm 51) .ret) .skip)) (r_lm 52)))))))).wp Tryd.prog Q a u := by
  refine wp_seq (rg_wp (lm_r44 hs rfl fun a1 h1 => ?_))
  refine wp_block ?_
  have hlow := hM.ks.low.size
  have hKl : ∀ b, K b → b < u.heap.size := hM.ks.kl
  have hol := nd_len hM.nd
  have hRl := hM.len
  refine range_z (σ := Unit) (g := .tmp 190) (ps := #[191, 192]) (gf := 30) (lb := #[.pointer (some ⟨ga, 0, none⟩)]) (h1.look 190 rfl) (Go.Proofs.enters_of Tryd.func30 (by kernel_rfl) rfl)
    (all_seq (fun _ : Unit => R) R ga c.m u) (Below.refl _ _) (fun _ => rfl) (fun _ b => K b) (fun _ pre A => MoS c K D O R os vals so A ∧ Blk A g20 3 #[.int .i64 (pre.length : Int)] ∧ Blk A ga 24 #[.pointer (some ⟨c.m, 0, none⟩)] ∧ Blk A gw 24 #[.pointer (some ⟨c.m, 0, none⟩)]) (fun _ _ _ _ => False) ?hI (fun _ _ _ _ _ h _ => h) ?hM ?hO ?hY () ?h0
    (fun _ x _ a' A => ∃ g21 g22, Sl 263 a' [(22, .pointer (some ⟨g22, 0, none⟩)), (21, .pointer (some ⟨g21, 0, none⟩)), (20, .pointer (some ⟨g20, 0, none⟩)), (7, .pointer (some ⟨c.g7, 0, none⟩)), (6, .pointer (some ⟨c.g6, 0, none⟩))] [] ∧ Blk A g21 31 (x.k.cs x.dk) ∧ Blk A g22 31 (x.v.cs x.dv)) ?hAx ?ha ?hb ?hd (fun _ _ _ _ h => h.elim) (fun _ _ _ _ h _ => h)
  case hI =>
    rintro _ pre A C ⟨q1, q2, q3, q4⟩ e
    exact ⟨q1.ext e hlow, q2.ext e, q3.ext e, q4.ext e⟩
  case hM =>
    rintro _ pre A ⟨q1, q2, q3, q4⟩
    exact ⟨by rw [q3.cell]; rfl, ⟨D, O, q1.ks.map⟩, by show R.length ≤ _; omega, fun _ => rfl, q1.ks.own hc.own⟩
  case hO =>
    rintro _ pre A ⟨q1, _⟩ b hb
    exact q1.ks.kl b hb
  case hY =>
    rintro _ pre x Hd A C ⟨y1, y4⟩ e
    exact ⟨y1, y4.ext e⟩
  case h0 => exact ⟨hM, h20, hga, hgw⟩
  case hAx =>
    rintro _ x Hd a' A C ⟨g21, g22, x1, x2, x3⟩ e
    exact ⟨g21, g22, x1, x2.ext e, x3.ext e⟩
  case ha =>
    rintro l _ pre x Hd W Kn hi hy hHd hK
    refine wpsI (lm_r45 (dk := x.k) (mk := x.dk) (h1.yield2 191 192 (by omega) (by omega) _ _) rfl (dat_store (Blk.new W 31 zeroC) (by show 0 + 11 ≤ 11; omega)) fun a2 h2 => ?_) (by kernel_rfl) (fun ⟨_, _, h⟩ => h)
    have hB2 := over_dat (Blk.new W 31 zeroC) rfl x.k x.dk
    have hb2 : Below W.heap.size W ((W.alloc (.cells zeroC 31)).setCells W.heap.size 0 (x.k.cs x.dk).toList) := below_setCells _ _ _ (bl_alloc (Below.refl _ _) _) (Nat.le_refl _)
    show Code.wpIn _ _ _ _ _ a2 ((W.alloc (.cells zeroC 31)).setCells W.heap.size 0 (x.k.cs x.dk).toList)
    generalize (W.alloc (.cells zeroC 31)).setCells W.heap.size 0 (x.k.cs x.dk).toList = W2 at hB2 hb2 ⊢
    refine rg_in (lm_r46 (dv := x.v) (mv := x.dv) h2 rfl (dat_store (Blk.new W2 31 zeroC) (by show 0 + 11 ≤ 11; omega)) fun a3 h3 => ?_) (by kernel_rfl) (fun ⟨_, _, h⟩ => h)
    have hB3 := over_dat (Blk.new W2 31 zeroC) rfl x.v x.dv
    have hb3 : Below W2.heap.size W2 ((W2.alloc (.cells zeroC 31)).setCells W2.heap.size 0 (x.v.cs x.dv).toList) := below_setCells _ _ _ (bl_alloc (Below.refl _ _) _) (Nat.le_refl _)
    exact hK a3 _ (bl_trans hb2 hb3) ⟨_, _, h3.to ⟨rfl, rfl, rfl, rfl, rfl, trivial⟩, hB2.below hb3 hB2.lt, hB3⟩
  case hb =>
    rintro l _ pre x Hd a2 W ⟨q1, q2, q3, q4⟩ ⟨⟨e, he, hxk, hxv⟩, lo, mid, hi, hka, _, _, _, _⟩ hHd ⟨g21, g22, h2, x2, x3⟩
    obtain ⟨n, hn, hek, hev⟩ := MoS.ent q1.rep he
    rw [hek] at hxk
    rw [hev] at hxv
    have hnl := n.isLt
    have hjl := (List.getElem?_eq_some_iff.1 hn).1
    obtain ⟨g, hd, hsn, _, hcell⟩ := q1.mem.ord.at (oI_at hn)
    rw [oI_len] at hsn
    have hix : ∀ w, (Instr.indexAt 22 (.slice so.d so.n so.c) (.int .i64 (pre.length : Int))).run Tryd.prog w = .ok (.pointer (some ⟨g, pre.length, none⟩)) w := fun w => by
      rw [hd]
      exact ix_one Tryd.underlying22 intInf (by omega) w
    refine wpIn_block (wpIn_seq (wpsI (lm_r47 (tn := pre.length) (b196 := false) h2 rfl rfl (one_load q2 Tryd.underlying3 rfl rfl) q1.mem.l7 (decide_eq_false (by omega)) fun a3 h3 => wpoI (h3.look 196 rfl) ?_) (by kernel_rfl) (fun ⟨_, _, h⟩ => h)))
    have hdr : Below W.heap.size W (W.drewN 1) := below_drewN (Below.refl _ _) 1
    have hld : ∀ v, Below W.heap.size W v → Lds Tryd.prog 3 (.pointer (some ⟨g, pre.length, none⟩)) (.int .i64 (n.val : Int)) v := fun v hv => by
      obtain ⟨g', hd', _, _, hcell'⟩ := (q1.old hv).mem.ord.at (oI_at hn)
      rw [hd] at hd'
      injection hd' with hd'
      injection hd' with hd'
      subst hd'
      exact lds1 Tryd.underlying3 rfl hcell'
    refine wpsI (lm_r49 (d21 := x.k) (m21 := x.dk) (tn := pre.length) (on := n.val) (kn := keyD n.val) (b203 := true) (C := fun v => Below W.heap.size W v) (C0 := fun b xk v => (keyD n.val).at v (fun z => b.heap.size ≤ z) xk ∧ Below b.heap.size b v) (C1 := fun v => Below W.heap.size W v)
      h3 rfl rfl rfl (fun v hv => dat_whole (x2.below hv x2.lt)) (fun v hv => (q1.old hv).mem.l7) (fun v hv => one_load (q2.below hv q2.lt) Tryd.underlying3 rfl rfl) hix hld hdr ((kkey_any hnl _).mono fun e v hh => let ⟨m, r1, r2, r3⟩ := hh; ⟨m, r1, r2, r3⟩) (fun _ v hv => bl_trans hdr hv.2)
      (fun xk v hv => (ksame_any (d := x.k) (by rw [hxk]; exact key_ok hnl) (key_ok hnl) (hka.old (bl_trans hdr hv.2)) hv.1).mono fun e v2 hh => ⟨by rw [hh.1, hxk]; show Ending.returned (.bool (sameD (keyD n.val).h (keyD n.val).k (keyD n.val).h (keyD n.val).k)) = _; rw [sameD_refl], bl_trans (bl_trans hdr hv.2) hh.2⟩) fun a4 _ _ W4 _ hb4 h4 => ?_) (by kernel_rfl) (fun ⟨_, _, h⟩ => h)
    have q14 := q1.old hb4
    have q24 := q2.below hb4 q2.lt
    have x34 := x3.below hb4 x3.lt
    rw [hxv] at x34
    refine wpIn_seq (wpsI (lm_r50_f (vn := vals n.val) (vv := vals n.val) (tn := pre.length) (on := n.val) (vk := 2) (b221 := false) h4 rfl rfl rfl rfl rfl (one_load x34 Tryd.underlying3 rfl rfl) q14.mem.l6 q14.mem.l7 (one_load q24 Tryd.underlying3 rfl rfl) hix (hld _ hb4) (fun w => ix_one Tryd.underlying22 intInf hnl w) (q14.mem.lv hnl) (decide_eq_false (by simp)) (one_load x34 Tryd.underlying3 rfl rfl) (decide_eq_false (by simp)) fun a5 mm h5 => wpoI (h5.look 222 rfl) ?_) (by kernel_rfl) (fun ⟨_, _, h⟩ => h))
    have hb5 : Below W4.heap.size W4 (W4.drewN mm) := below_drewN (Below.refl _ _) mm
    have q15 := q14.old hb5
    have q25 := q24.below hb5 q24.lt
    have hb05 := bl_trans hb4 hb5
    refine wplI (lm_r52 (tn := pre.length) h5 rfl (one_load q25 Tryd.underlying3 rfl rfl) (by omega) (one_store q25 intInf (by show 0 < 1; omega) rfl) fun a6 h6 => block_norm ?_) (by kernel_rfl) (fun ⟨_, _, h⟩ => h)
    have hmv : Moved (fun b => K b) W ((W4.drewN mm).setCells g20 0 [.int .i64 ((pre.length : Int) + 1)]) := (Moved.of_below hb05).set (.inl hG.k) _ _
    refine ⟨keepsFrom_moved hmv hKl, (), ⟨MoS.count hc hG q15 _ _, ?_, Blk.farL na _ _ _ ((q3.below hb4 q3.lt).below hb5 (q3.below hb4 q3.lt).lt), Blk.farL nw _ _ _ ((q4.below hb4 q4.lt).below hb5 (q4.below hb4 q4.lt).lt)⟩, hmv.more (fun _ h => .inl h), fun b hb => .inl hb⟩
    have := q25.set_ 0 (.int .i64 ((pre.length : Int) + 1))
    rw [List.length_append]
    exact this
  case hd =>
    rintro _ xs W hE ⟨q1, q2, q3, q4⟩ hD
    have hxl : xs.length = os.length := by rw [show xs.length = R.length from hE, hRl]
    rw [hxl] at q2
    refine block_norm (hQ _ W ?_ q1 q2 q4 hD (Array.getElem?_eq_some_iff.1 hD).1)
    have h6 := h1.to (l0 := [(20, .pointer (some ⟨g20, 0, none⟩)), (19, .func (.func 27) #[] #[.pointer (some ⟨gw, 0, none⟩)]), (18, .func (.func 30) #[] #[.pointer (some ⟨ga, 0, none⟩)]), (7, .pointer (some ⟨c.g7, 0, none⟩)), (6, .pointer (some ⟨c.g6, 0, none⟩)), (5, .slice (some ⟨c.gt, 0, none⟩) 900 900), (4, .pointer (some ⟨c.m, 0, none⟩)), (2, .pointer (some ⟨g2, 0, none⟩)), (0, .slice c.dl c.xs.length c.ql)]) ⟨rfl, rfl, rfl, rfl, rfl, rfl, rfl, rfl, rfl, trivial⟩
    exact ⟨h6.size, by simp [h6.defers], h6.known⟩
end
end Go.Proofs.YtlhfickniegooaaDoor
