/-
  Contracts of the reference's feed and literal. Contract of the reference's number. Written by an AI agent.
-/
import Derived.Test.YtpggcmlddmckcaaDoorRf2
namespace Go.Proofs.YtpggcmlddmckcaaDoor
open Go.RowKit Go.Sort
set_option maxRecDepth 100000

theorem tokInf : (Tryd.prog.info? 48).map (·.size) = some 3 := by kernel_rfl
theorem wrgInf : (Tryd.prog.info? 26).map (·.size) = some 3 := by kernel_rfl
theorem TokCells.load2 {w : World} {g i : Nat} {t : Tok} (h : TokCells w g i t) : Lds Tryd.prog 48 (.pointer (some ⟨g, i * 3, none⟩)) (.agg #[.int .i64 (t.kind : Int), .string (bs t.text), .int .i64 (t.place : Int)]) w :=
  ldsA (cs := [.int .i64 (t.kind : Int), .string (bs t.text), .int .i64 (t.place : Int)]) Tryd.underlying48 rfl tokInf (fun j v hj => by
    rcases j with _ | _ | _ | j
    · injection hj with hj; rw [← hj]; exact h.1
    · injection hj with hj; rw [← hj]; exact h.2.1
    · injection hj with hj; rw [← hj]; exact h.2.2
    · cases hj)
theorem feed_any (ts : List Tok) (hz : ts.length ≤ 1000000) (hg : ∀ t ∈ ts, TokGood t) (i : Nat) (B : Nat) (v : Value) (w : World) (hv : Toks w B v ts) (hB : B ≤ w.heap.size) :
    Calls Tryd.prog 31 #[v, .int .i64 (i : Int)] w fun e w' => ∃ x, e = .returned x ∧ (Toks w' B x (if lastE ts then ts ++ [⟨1, [], i⟩] else ts) ∧ Below B w w') := by
  obtain ⟨d, cap, rfl, hR⟩ := hv.form
  refine calls_ev (vs := [.slice d ts.length cap, .int .i64 (i : Int)]) 23 Tryd.func31 fe_body (by kernel_rfl) (by simp) fun a0 h0 => ?_
  unfold feBody
  refine wp_seq (fe_r0 h0 fun a1 h1 => ?_)
  rcases snoc_of ts with rfl | ⟨m, t, rfl⟩
  · refine wp_seq (wp_seq (fe_r1_f h1 rfl (decide_eq_false (by simp)) fun a2 h2 => wpo (h2.look 16 rfl) ?_))
    refine wp_seq (fe_r3 h2 rfl fun a3 h3 => wp_ret ?_)
    exact ret1 rfl h3 rfl ⟨_, rfl, hv, Below.refl _ _⟩
  · have hlen : (m ++ [t]).length = m.length + 1 := by simp
    obtain ⟨g, rfl, hgl, hc⟩ := hR.at m.length (by omega)
    have ht : (m ++ [t])[m.length]'(by omega) = t := by simp
    rw [ht] at hc
    have hlast : lastE (m ++ [t]) = endT t := lastE_snoc m t
    refine wp_seq (wp_seq (fe_r1_t h1 rfl (decide_eq_true (by omega)) (by omega) (ix_at (o := m.length * 3) m.length (by omega) Tryd.underlying23 tokInf (by omega) rfl) hc.load2 (ends_any t (hg t (by simp)) w) fun a2 w2 hb2 h2 => ?_))
    rw [hlast]
    have hv2 : Toks w2 B _ (m ++ [t]) := own_below' hv hb2
    cases he : endT t with
    | true =>
      rw [he] at h2
      refine wp_cond_true (h2.look 16 rfl) ?_
      refine wp_seq (fe_r2 h2 rfl rfl (fun ty => app_tok ⟨1, [], i⟩ hv2 (Nat.le_trans hB hb2.size) hz ty) fun a3 x w3 hx h3 => wp_ret ?_)
      refine then_ret (ret1 rfl h3 rfl ⟨_, rfl, ?_, (hb2.mono hB).trans (own_grew hv2 (Nat.le_trans hB hb2.size) hx.2)⟩)
      rw [if_pos rfl]
      exact hx.1
    | false =>
      rw [he] at h2
      refine wpo (h2.look 16 rfl) ?_
      refine wp_seq (fe_r3 h2 rfl fun a3 h3 => wp_ret ?_)
      refine ret1 rfl h3 rfl ⟨_, rfl, ?_, hb2.mono hB⟩
      rw [if_neg (by decide)]
      exact hv2

/-- What the reference's literal hands back. -/
def litV : Ans (List UInt8 × Nat) → Value
  | .ok x => .tuple #[.string (bs x.1), .int .i64 (x.2 : Int), .agg #[.int .i64 0, .int .i64 0, .string ⟨#[]⟩]]
  | .bad b => .tuple #[.string ⟨#[]⟩, .int .i64 0, .agg #[.int .i64 (b.code : Int), .int .i64 (b.place : Int), .string ⟨#[]⟩]]
def WrB (w : World) (g : Nat) (c p : Int) : Prop := Blk w g 26 #[.int .i64 c, .int .i64 p, .string ⟨#[]⟩]
theorem WrB.load {w : World} {g : Nat} {c p : Int} (h : WrB w g c p) : Lds Tryd.prog 26 (.pointer (some ⟨g, 0, none⟩)) (.agg #[.int .i64 c, .int .i64 p, .string ⟨#[]⟩]) w :=
  ldsA (cs := [.int .i64 c, .int .i64 p, .string ⟨#[]⟩]) Tryd.underlying26 rfl wrgInf (range_blk h fun j v hj => by rw [Nat.zero_add]; simpa using hj)
theorem WrB.store {w : World} {g : Nat} {c p c' p' : Int} (h : WrB w g c p) : (Instr.storeAt 26 (.pointer (some ⟨g, 0, none⟩)) (.agg #[.int .i64 c', .int .i64 p', .string ⟨#[]⟩])).run Tryd.prog w = .ok () (w.setCells g 0 [.int .i64 c', .int .i64 p', .string ⟨#[]⟩]) :=
  stsA (there_blk h (by simp)) wrgInf (by simp [Value.oneCell'])
theorem WrB.set {w : World} {g : Nat} {c p : Int} (h : WrB w g c p) (c' p' : Int) : WrB (w.setCells g 0 [.int .i64 c', .int .i64 p', .string ⟨#[]⟩]) g c' p' := Blk.setL [.int .i64 c', .int .i64 p', .string ⟨#[]⟩] 0 _ _ h

set_option maxHeartbeats 4000000 in
theorem rliteral_any (s : ByteArray) (hs : s.size ≤ 140737488300000) (i : Nat) (hi : i < s.size) (w : World) :
    Calls Tryd.prog 38 #[.string s, .int .i64 (i : Int)] w fun e w' => e = .returned (litV (litL i (i + 1) [] (s.data.toList.drop (i + 1)))) ∧ Below w.heap.size w w' := by
  have hsl : s.data.toList.length = s.size := by simp
  generalize hR : litL i (i + 1) [] (s.data.toList.drop (i + 1)) = R
  refine calls_ev (vs := [.string s, .int .i64 (i : Int)]) 63 Tryd.func38 lt_body (by kernel_rfl) (by simp) fun a0 h0 => ?_
  unfold ltBody
  refine wp_seq (lt_r0 h0 fun a1 h1 => ?_)
  have hW := Blk.new w 26 #[.int .i64 0, .int .i64 0, .string ⟨#[]⟩]
  have hb1 := bl_alloc (Below.refl w.heap.size w) (.cells #[.int .i64 0, .int .i64 0, .string ⟨#[]⟩] 26)
  have hz1 : (w.alloc (.cells #[.int .i64 0, .int .i64 0, .string ⟨#[]⟩] 26)).heap.size = w.heap.size + 1 := by simp
  have hW1 : WrB (w.alloc (.cells #[.int .i64 0, .int .i64 0, .string ⟨#[]⟩] 26)) w.heap.size 0 0 := hW
  generalize w.alloc (.cells #[.int .i64 0, .int .i64 0, .string ⟨#[]⟩] 26) = w1 at hW1 hb1 hz1 ⊢
  refine wp_seq (lt_r1 h1 fun a2 h2 => ?_)
  refine wp_seq (wp_seq (lt_r2 h2 rfl (by omega) fun a3 h3 => ?_))
  have done : ∀ (Q : Exit → Act → World → Prop) (v x : Value) (c p : Int) a' w' l', Sl 63 a' l' → l'.lookup 4 = some v → l'.lookup 5 = some x → l'.lookup 6 = some (.pointer (some ⟨w.heap.size, 0, none⟩)) → WrB w' w.heap.size c p → Below w.heap.size w w' → litV R = .tuple #[v, x, .agg #[.int .i64 c, .int .i64 p, .string ⟨#[]⟩]] →
      bodyPost Tryd.prog Tryd.f38 (fun e w' => e = .returned (litV R) ∧ Below w.heap.size w w') .ret a' w' := fun _ v x c p a' w' l' h' e4 e5 e6 hw hb he =>
    ret_ttc rfl h' e4 e5 e6 hw.load ⟨by rw [he], hb⟩
  refine wp_block ?_
  refine wp_loop (fun a' wr => ∃ (k : Nat) (vb : Value) (out : List UInt8), i + 1 ≤ k ∧ k ≤ s.size ∧ out.length ≤ k ∧ litL i k out (s.data.toList.drop k) = R ∧ Sl 63 a' [(8, .int .i64 (k : Int)), (7, vb), (6, .pointer (some ⟨w.heap.size, 0, none⟩)), (1, .int .i64 (i : Int)), (0, .string s)] ∧
      BRow wr (w.heap.size + 1) vb out ∧ WrB wr w.heap.size 0 0 ∧ Below w.heap.size w wr ∧ w.heap.size + 1 ≤ wr.heap.size) (fun a' _ => muTo (s.size + 1) (slot a' 8))
    ⟨i + 1, .slice none 0 0, [], by omega, by omega, by simp, hR, h3.to ⟨rfl, rfl, rfl, rfl, rfl, trivial⟩, BRow.nil _ _, hW1, hb1, by omega⟩ ?_
  rintro a4 w4 ⟨k, vb, out, hk1, hk2, hol, hL, h4, hB4, hW4, hb4, hz4⟩
  rw [h4.look 8 rfl, muTo_int]
  unfold ltL0
  refine wp_seq (wp_seq ?_)
  have stop : ∀ a5 l5, Sl 63 a5 l5 → AllL l5 [(6, .pointer (some ⟨w.heap.size, 0, none⟩)), (1, .int .i64 (i : Int))] → R = .bad ⟨11, i⟩ → (Code.seq (r_lt 15) .ret).wp Tryd.prog (bodyPost Tryd.prog Tryd.f38 (fun e w' => e = .returned (litV R) ∧ Below w.heap.size w w')) a5 w4 := fun a5 l5 h5 hl he => by
    refine wp_seq (lt_r15 (h5.to hl) rfl rfl hW4.store fun a6 h6 => wp_ret ?_)
    exact done (fun _ _ _ => True) _ _ 11 i a6 _ _ h6 rfl rfl rfl (hW4.set 11 i) (below_setCells _ _ _ hb4 (Nat.le_refl _)) (by rw [he]; rfl)
  by_cases hlt : k < s.size
  · have hix := fun w => idx_str hlt (x := (k : Int)) rfl w
    have hd := drop_list s k hlt
    rw [hd, litL] at hL
    by_cases h10 : s[k]'hlt = 10
    · rw [if_neg (by rw [h10]; decide), if_pos h10] at hL
      refine lt_r3_t h4 rfl rfl (decide_eq_true (by omega)) hix (decide_eq_false (by rw [h10]; decide)) fun a5 h5 => wpx (h5.look 22 rfl) ?_
      exact then_exit (in_block' (stop a5 _ h5 ⟨rfl, rfl, trivial⟩ hL.symm))
    have n10 : ¬ (((s[k]'hlt).toNat : Int) = 10) := fun e => h10 (UInt8.toNat_inj.1 (by have : (10 : UInt8).toNat = 10 := rfl; omega))
    refine lt_r3_t h4 rfl rfl (decide_eq_true (by omega)) hix (decide_eq_true n10) fun a5 h5 => wpn (h5.look 22 rfl) ?_
    refine wp_seq (wp_block ?_)
    refine wp_seq (lt_r5 h5 rfl rfl hix fun a6 h6 => ?_)
    refine wp_block ?_
    have next : ∀ (a' : Act) (w' : World) (k' : Nat) (vb' : Value) (out' : List UInt8) l', Sl 63 a' l' → AllL l' [(8, .int .i64 (k' : Int)), (7, vb'), (6, .pointer (some ⟨w.heap.size, 0, none⟩)), (1, .int .i64 (i : Int)), (0, .string s)] → k ≤ k' → k' + 1 ≤ s.size → out'.length ≤ k' + 1 → litL i (k' + 1) out' (s.data.toList.drop (k' + 1)) = R → BRow w' (w.heap.size + 1) vb' out' → WrB w' w.heap.size 0 0 → Below w.heap.size w w' → w.heap.size + 1 ≤ w'.heap.size →
        ∀ Q : Exit → Act → World → Prop, (∀ a'', ((∃ (k : Nat) (vb : Value) (out : List UInt8), i + 1 ≤ k ∧ k ≤ s.size ∧ out.length ≤ k ∧ litL i k out (s.data.toList.drop k) = R ∧ Sl 63 a'' [(8, .int .i64 (k : Int)), (7, vb), (6, .pointer (some ⟨w.heap.size, 0, none⟩)), (1, .int .i64 (i : Int)), (0, .string s)] ∧
          BRow w' (w.heap.size + 1) vb out ∧ WrB w' w.heap.size 0 0 ∧ Below w.heap.size w w' ∧ w.heap.size + 1 ≤ w'.heap.size) ∧ muTo (s.size + 1) (slot a'' 8) < s.size + 1 - k) → Q .normal a'' w') → (r_lt 4).wp Tryd.prog Q a' w' := fun a' w' k' vb' out' l' h' hl q1 q2 q3 q4 q5 q6 q7 q8 Q hQ => by
      refine wpl (lt_r4 (h'.to hl) rfl (by omega) fun a'' h'' => hQ a'' ⟨⟨k' + 1, vb', out', by omega, q2, q3, q4, h''.to ⟨rfl, rfl, rfl, rfl, rfl, trivial⟩, q5, q6, q7, q8⟩, ?_⟩)
      rw [h''.look 8 rfl]
      show muTo (s.size + 1) (.int .i64 ((k' + 1 : Nat) : Int)) < _
      rw [muTo_int]
      omega
    have hwv : vb.ownBlock ≠ some w.heap.size := by
      rcases own_block hB4 with e | ⟨b, _, e, e1, _, _⟩ <;> rw [e]
      · simp
      · intro e2; injection e2 with e2; omega
    by_cases h34 : s[k]'hlt = 34
    · rw [if_pos h34] at hL
      obtain ⟨d7, q7, rfl⟩ : ∃ d q, vb = .slice d out.length q := by
        rcases hB4.2 with ⟨e, e0⟩ | ⟨g, cap, cur, e, _⟩
        · exact ⟨none, 0, by rw [e, e0]⟩
        · exact ⟨_, cap, e⟩
      refine wp_seq (lt_r7 h6 rfl (decide_eq_true (by rw [h34]; rfl)) fun a7 h7 => wp_cond_true (h7.look 34 rfl) ?_)
      refine wp_seq (lt_r8 h7 rfl rfl rfl (own_string hB4) (by omega) hW4.store fun a8 h8 => wp_ret ?_)
      repeat (first | with_reducible refine then_ret ?_ | with_reducible refine block_ret ?_)
      exact done (fun _ _ _ => True) _ _ 0 0 a8 _ _ h8 rfl rfl rfl (hW4.set 0 0) (below_setCells _ _ _ hb4 (Nat.le_refl _)) (by rw [← hL]; rfl)
    rw [if_neg h34, if_neg h10] at hL
    have n34 : ¬ (((s[k]'hlt).toNat : Int) = 34) := fun e => h34 (UInt8.toNat_inj.1 (by have : (34 : UInt8).toNat = 34 := rfl; omega))
    refine wp_seq (lt_r7 h6 rfl (decide_eq_false n34) fun a7 h7 => wp_cond_false (h7.look 34 rfl) ?_)
    by_cases h92 : s[k]'hlt = 92
    · rw [if_pos h92] at hL
      refine wp_seq (lt_r9 h7 rfl (decide_eq_true (by rw [h92]; rfl)) fun a8 h8 => wp_cond_true (h8.look 41 rfl) ?_)
      refine wp_seq (lt_r10 h8 rfl rfl (resc_any s (by omega) k hlt w4) fun a9 w9 hb9 h9 => ?_)
      have hW9 : WrB w9 w.heap.size 0 0 := Blk.below hW4 hb9 (by omega)
      have hB9 : BRow w9 (w.heap.size + 1) vb out := own_below' hB4 hb9
      have hbw9 := hb4.trans (hb9.mono (by omega))
      by_cases h0 : (escL (s.data.toList.drop (k + 1))).2 = 0
      · rw [if_pos h0] at hL
        rw [if_pos h0] at h9
        refine wp_seq (wp_seq (lt_r11 h9 rfl (decide_eq_true rfl) fun a10 h10 => wp_cond_true (h10.look 50 rfl) ?_))
        refine wp_seq (lt_r12 h10 rfl rfl hW9.store fun a11 h11 => wp_ret ?_)
        repeat (first | with_reducible refine then_ret ?_ | with_reducible refine block_ret ?_)
        exact done (fun _ _ _ => True) _ _ 11 k a11 _ _ h11 rfl rfl rfl (hW9.set 11 k) (below_setCells _ _ _ hbw9 (Nat.le_refl _)) (by rw [← hL]; rfl)
      · rw [if_neg h0] at hL
        rw [if_neg h0] at h9
        have hle := esc_le (s.data.toList.drop (k + 1))
        rw [List.length_drop, hsl] at hle
        refine wp_seq (wp_seq (lt_r11 h9 rfl (decide_eq_false (by omega)) fun a10 h10 => wpo (h10.look 50 rfl) ?_))
        refine wp_seq (lt_r13 h10 rfl rfl (fun ty => app_byt [(escL (s.data.toList.drop (k + 1))).1] #[.int .u8 ((escL (s.data.toList.drop (k + 1))).1.toNat : Int)] rfl hB9 (by have := hb9.size; omega) (by simp; omega) ty) fun a11 vb' w11 hx h11 => ?_)
        have hw11 : WrB w11 w.heap.size 0 0 := Blk.grown hW9 hx.2 (Ne.symm hwv)
        refine wpl (lt_r14 h11 rfl rfl (by omega) (by omega) fun a12 h12 => block_norm (block_norm ?_))
        show Code.wp _ (r_lt 4) _ a12 w11
        have e : (k : Int) + (((escL (s.data.toList.drop (k + 1))).2 : Int) + 1) - 1 = ((k + (escL (s.data.toList.drop (k + 1))).2 : Nat) : Int) := by omega
        rw [e] at h12
        exact next a12 w11 (k + (escL (s.data.toList.drop (k + 1))).2) vb' (out ++ [(escL (s.data.toList.drop (k + 1))).1]) _ h12 ⟨rfl, rfl, rfl, rfl, rfl, trivial⟩ (by omega) (by omega) (by simp; omega) (by
          have e1 : k + (escL (s.data.toList.drop (k + 1))).2 + 1 = k + 1 + (escL (s.data.toList.drop (k + 1))).2 := by omega
          rw [← hL, List.drop_drop, e1]) hx.1 hw11 (hbw9.trans ((own_grew hB9 (by have := hb9.size; omega) hx.2).mono (by omega))) (Nat.le_trans hz4 (Nat.le_trans hb9.size hx.2.size)) _ (fun _ h => h)
    · rw [if_neg h92] at hL
      have n92 : ¬ (((s[k]'hlt).toNat : Int) = 92) := fun e => h92 (UInt8.toNat_inj.1 (by have : (92 : UInt8).toNat = 92 := rfl; omega))
      refine wp_seq (lt_r9 h7 rfl (decide_eq_false n92) fun a8 h8 => wp_cond_false (h8.look 41 rfl) ?_)
      refine wpl (lt_r6 h8 rfl rfl rfl hix (fun ty => app_byt [s[k]'hlt] #[.int .u8 ((s[k]'hlt).toNat : Int)] rfl hB4 hz4 (by simp; omega) ty) fun a9 vb' w9 hx h9 => block_norm (block_norm ?_))
      have hw9 : WrB w9 w.heap.size 0 0 := Blk.grown hW4 hx.2 (Ne.symm hwv)
      show Code.wp _ (r_lt 4) _ a9 w9
      exact next a9 w9 k vb' (out ++ [s[k]'hlt]) _ h9 ⟨rfl, rfl, rfl, rfl, rfl, trivial⟩ (Nat.le_refl _) (by omega) (by simp; omega) hL hx.1 hw9 (hb4.trans ((own_grew hB4 hz4 hx.2).mono (by omega))) (Nat.le_trans hz4 hx.2.size) _ (fun _ h => h)
  · rw [List.drop_of_length_le (by omega), litL] at hL
    refine lt_r3_f h4 rfl rfl (decide_eq_false (by omega)) fun a5 h5 => wpx (h5.look 22 rfl) ?_
    exact then_exit (in_block' (stop a5 _ h5 ⟨rfl, rfl, trivial⟩ hL.symm))
end Go.Proofs.YtpggcmlddmckcaaDoor

namespace Go.Proofs.YtpggcmlddmckcaaDoor
open Go.RowKit Go.Sort
set_option maxRecDepth 100000

def tokA (t : Tok) : Value := .agg #[.int .i64 (t.kind : Int), .string (bs t.text), .int .i64 (t.place : Int)]
def TokZ (w : World) (g : Nat) (k : Int) (x : List UInt8) (p : Int) : Prop := Blk w g 48 #[.int .i64 k, .string (bs x), .int .i64 p]
theorem TokZ.load {w : World} {g : Nat} {k p : Int} {x : List UInt8} (h : TokZ w g k x p) : Lds Tryd.prog 48 (.pointer (some ⟨g, 0, none⟩)) (.agg #[.int .i64 k, .string (bs x), .int .i64 p]) w :=
  ldsA (cs := [.int .i64 k, .string (bs x), .int .i64 p]) Tryd.underlying48 rfl tokInf (range_blk h fun j v hj => by rw [Nat.zero_add]; simpa using hj)
theorem TokZ.store {w : World} {g : Nat} {k p k' p' : Int} {x : List UInt8} {x' : ByteArray} (h : TokZ w g k x p) : (Instr.storeAt 48 (.pointer (some ⟨g, 0, none⟩)) (.agg #[.int .i64 k', .string x', .int .i64 p'])).run Tryd.prog w = .ok () (w.setCells g 0 [.int .i64 k', .string x', .int .i64 p']) :=
  stsA (there_blk h (by simp)) tokInf (by simp [Value.oneCell'])
theorem TokZ.set {w : World} {g : Nat} {k p : Int} {x : List UInt8} (h : TokZ w g k x p) (k' : Int) (x' : List UInt8) (p' : Int) : TokZ (w.setCells g 0 [.int .i64 k', .string (bs x'), .int .i64 p']) g k' x' p' := Blk.setL [.int .i64 k', .string (bs x'), .int .i64 p'] 0 _ _ h
theorem intInf : (Tryd.prog.info? 3).map (·.size) = some 1 := by kernel_rfl
theorem strInf : (Tryd.prog.info? 9).map (·.size) = some 1 := by kernel_rfl
theorem slat_r (x : Value) (a b c : Option Value) (w : World) : (Instr.sliceAt 9 x a b c).run Tryd.prog w = (Instr.slice 9 x a b c).run Tryd.prog w := by simp [Instr.sliceAt, run_underlying Tryd.underlying9]
theorem sub_run {s : ByteArray} (i n : Nat) (h : i + n ≤ s.size) (w : World) : (Instr.sliceAt 9 (.string s) (some (.int .i64 (i : Int))) (some (.int .i64 ((i : Int) + (n : Int)))) none).run Tryd.prog w = .ok (.string (bs ((s.data.toList.drop i).take n))) w := by
  rw [slat_r, sl_to (a := i) (b := i + n) (by omega) h rfl (by omega), show i + n - i = n by omega]

theorem run_cons' (b : Bool) (c : UInt8) (r : List UInt8) : runL b (c :: r) = if inRun b c = true then runL b r + 1 else 0 := by
  unfold runL
  split
  · rename_i h; rw [List.takeWhile_cons_of_pos h, List.length_cons]
  · rename_i h; rw [List.takeWhile_cons_of_neg h]; rfl
theorem run_head (b : Bool) : ∀ (l : List UInt8) (c : UInt8) (r : List UInt8), l.drop (runL b l) = c :: r → inRun b c = false
  | [], c, r, h => by simp at h
  | d :: l, c, r, h => by
    rw [run_cons'] at h
    by_cases hd : inRun b d = true
    · rw [if_pos hd, List.drop_succ_cons] at h
      exact run_head b l c r h
    · rw [if_neg hd, List.drop_zero] at h
      injection h with h1 h2
      subst h1
      simpa using hd
def letNext (l : List UInt8) : Bool := match l with
  | c :: _ => isLet c
  | [] => false
theorem next_run {l : List UInt8} (h : ∀ c r, l = c :: r → isDig c = false) : decide (0 < runL true l) = letNext l := by
  cases l with
  | nil => rfl
  | cons c r =>
    have hd := h c r rfl
    rw [run_cons']
    unfold letNext inRun
    rw [hd]
    cases hl : isLet c <;> simp [hl]
theorem num_bad (l : List UInt8) : numBad l = (((decide (1 < runL false l) && (l.head? == some 48)) || (if 0 < numPart (l.drop (runL false l)) then decide (15 < runL false l + numPart (l.drop (runL false l))) else overB (l.take (runL false l)))) || letNext (l.drop (if 0 < numPart (l.drop (runL false l)) then runL false l + 1 + numPart (l.drop (runL false l)) else runL false l))) := by
  have hl := numT_len 0 l
  unfold numBad
  rw [hl]
  have hnext : ∀ c r, l.drop (if 0 < numPart (l.drop (runL false l)) then runL false l + 1 + numPart (l.drop (runL false l)) else runL false l) = c :: r → isDig c = false := fun c r h => by
    have key : ∀ m : List UInt8, m.drop (runL false m) = c :: r → isDig c = false := fun m hm => by
      have := run_head false m c r hm
      simpa [inRun] using this
    by_cases hp : 0 < numPart (l.drop (runL false l))
    · rw [if_pos hp] at h
      cases hr : l.drop (runL false l) with
      | nil => rw [hr] at hp; simp [numPart] at hp
      | cons d m =>
        rw [hr] at hp h
        have h46 : d = 46 := by
          unfold numPart at hp
          by_cases hd : d = 46
          · exact hd
          · simp [hd] at hp
        have e : numPart (d :: m) = runL false m := by unfold numPart; simp [h46]
        rw [e, show runL false l + 1 + runL false m = runL false l + (runL false m + 1) by omega, ← List.drop_drop, hr, List.drop_succ_cons] at h
        exact key m h
    · rw [if_neg hp] at h
      exact key l h
  rw [next_run hnext]
  cases (decide (1 < runL false l) && (l.head? == some 48)) <;> cases (if 0 < numPart (l.drop (runL false l)) then decide (15 < runL false l + numPart (l.drop (runL false l))) else overB (l.take (runL false l))) <;> simp

set_option maxHeartbeats 4000000 in
theorem rnumber_any (s : ByteArray) (hs : s.size ≤ 9223372036854770000) (i : Nat) (hi : i < s.size) (w : World) :
    Calls Tryd.prog 47 #[.string s, .int .i64 (i : Int)] w fun e w' => e = .returned (.tuple #[tokA (numT i (s.data.toList.drop i)), .bool (numBad (s.data.toList.drop i))]) ∧ Below w.heap.size w w' := by
  have hsl : s.data.toList.length = s.size := by simp
  have hdl : (s.data.toList.drop i).length = s.size - i := by rw [List.length_drop, hsl]
  have hn : runL false (s.data.toList.drop i) ≤ s.size - i := by rw [← hdl]; exact run_le _ _
  have hbad := num_bad (s.data.toList.drop i)
  have hrun := rrun_any s (by omega) i (by omega) false
  obtain ⟨n, hnn⟩ : ∃ n, n = runL false (s.data.toList.drop i) := ⟨_, rfl⟩
  obtain ⟨p, hpp⟩ : ∃ p, p = numPart ((s.data.toList.drop i).drop n) := ⟨_, rfl⟩
  rw [← hnn] at hrun hbad hn
  rw [← hpp] at hbad
  have hT : numT i (s.data.toList.drop i) = ⟨if 0 < p then 5 else 4, (s.data.toList.drop i).take (if 0 < p then n + 1 + p else n), i⟩ := by
    unfold numT
    rw [← hnn, ← hpp]
    by_cases h : 0 < p
    · rw [if_pos h, if_pos h, if_pos h]
    · rw [if_neg h, if_neg h, if_neg h]
  have hple : i + n + p + 1 ≤ s.size ∨ p = 0 := by
    have := numPart_le ((s.data.toList.drop i).drop n)
    rw [← hpp, List.length_drop, hdl] at this
    omega
  refine calls_ev (vs := [.string s, .int .i64 (i : Int)]) 90 Tryd.func47 nu_body (by kernel_rfl) (by simp) fun a0 h0 => ?_
  unfold nuBody
  refine wp_seq (nu_r0 h0 fun a1 h1 => ?_)
  have hZ1 : TokZ (w.alloc (.cells #[.int .i64 0, .string ⟨#[]⟩, .int .i64 0] 48)) w.heap.size 0 [] 0 := Blk.new _ _ _
  have hb1 := bl_alloc (Below.refl w.heap.size w) (.cells #[.int .i64 0, .string ⟨#[]⟩, .int .i64 0] 48)
  generalize hw1 : w.alloc (.cells #[.int .i64 0, .string ⟨#[]⟩, .int .i64 0] 48) = w1 at hZ1 hb1 ⊢
  obtain ⟨g4, hg4⟩ : ∃ g, g = w.heap.size := ⟨_, rfl⟩
  rw [← hg4] at h1 hZ1
  refine wp_seq (nu_r1 h1 rfl rfl (hrun w1) fun a2 w1' hw h2 => ?_)
  subst hw
  have hN := Blk.new w1 48 #[.int .i64 0, .string ⟨#[]⟩, .int .i64 0]
  refine wp_seq (nu_r2 h2 rfl (TokZ.store (x := []) hN) fun a3 h3 => ?_)
  have hZ2 : TokZ ((w1.alloc (.cells #[.int .i64 0, .string ⟨#[]⟩, .int .i64 0] 48)).setCells w1.heap.size 0 [.int .i64 4, .string (bs []), .int .i64 (i : Int)]) w1.heap.size 4 [] i := TokZ.set (x := []) hN 4 [] i
  have hlt4 : g4 < w1.heap.size := hZ1.lt
  have hZ4 : TokZ ((w1.alloc (.cells #[.int .i64 0, .string ⟨#[]⟩, .int .i64 0] 48)).setCells w1.heap.size 0 [.int .i64 4, .string (bs []), .int .i64 (i : Int)]) g4 0 [] 0 := Blk.farL (by omega) _ _ _ (hZ1.alloc _)
  have hb2 : Below w.heap.size w ((w1.alloc (.cells #[.int .i64 0, .string ⟨#[]⟩, .int .i64 0] 48)).setCells w1.heap.size 0 [.int .i64 4, .string (bs []), .int .i64 (i : Int)]) := below_setCells _ _ _ (bl_alloc hb1 _) hb1.size
  show Code.wp _ _ _ a3 ((w1.alloc (.cells #[.int .i64 0, .string ⟨#[]⟩, .int .i64 0] 48)).setCells w1.heap.size 0 [.int .i64 4, .string (bs []), .int .i64 (i : Int)])
  generalize (w1.alloc (.cells #[.int .i64 0, .string ⟨#[]⟩, .int .i64 0] 48)).setCells w1.heap.size 0 [.int .i64 4, .string (bs []), .int .i64 (i : Int)] = w2 at hZ2 hZ4 hb2 ⊢
  obtain ⟨g7, hg7⟩ : ∃ g, g = w1.heap.size := ⟨_, rfl⟩
  rw [← hg7] at h3 hZ2 hlt4
  have hg7w : w.heap.size ≤ g7 := by omega
  -- from the last test on
  have tail : ∀ (a' : Act) (w' : World) (bd : Bool) (n' : Nat) (kd : Nat) l', Sl 90 a' l' → AllL l' [(8, .bool bd), (7, .pointer (some ⟨g7, 0, none⟩)), (6, .int .i64 (n' : Int)), (4, .pointer (some ⟨g4, 0, none⟩)), (1, .int .i64 (i : Int)), (0, .string s)] → TokZ w' g7 kd [] i → TokZ w' g4 0 [] 0 → Below w.heap.size w w' → i + n' ≤ s.size →
      numT i (s.data.toList.drop i) = ⟨kd, (s.data.toList.drop i).take n', i⟩ → numBad (s.data.toList.drop i) = (bd || letNext ((s.data.toList.drop i).drop n')) →
      (Code.seq (.seq (r_nu 12) (.cond (.tmp 80) (r_nu 13) .skip)) (.seq (r_nu 14) (.seq (r_nu 15) .ret))).wp Tryd.prog (bodyPost Tryd.prog Tryd.f47 (fun e w' => e = .returned (.tuple #[tokA (numT i (s.data.toList.drop i)), .bool (numBad (s.data.toList.drop i))]) ∧ Below w.heap.size w w')) a' w' := fun a' w' bd n' kd l' h' hl z7 z4 hb hfit hnt hnb => by
    have h' := h'.to hl
    have fin : ∀ a6 w6 l6, Sl 90 a6 l6 → AllL l6 [(8, .bool (numBad (s.data.toList.drop i))), (7, .pointer (some ⟨g7, 0, none⟩)), (6, .int .i64 (n' : Int)), (4, .pointer (some ⟨g4, 0, none⟩)), (1, .int .i64 (i : Int)), (0, .string s)] → TokZ w6 g7 kd [] i → TokZ w6 g4 0 [] 0 → Below w.heap.size w w6 →
        (Code.seq (r_nu 14) (.seq (r_nu 15) .ret)).wp Tryd.prog (bodyPost Tryd.prog Tryd.f47 (fun e w' => e = .returned (.tuple #[tokA (numT i (s.data.toList.drop i)), .bool (numBad (s.data.toList.drop i))]) ∧ Below w.heap.size w w')) a6 w6 := fun a6 w6 l6 h6 hl6 y7 y4 hb6 => by
      refine wp_seq (nu_r14 (h6.to hl6) rfl rfl rfl rfl (by omega) (sub_run i n' hfit) (sts1 (there_blk y7 (by simp)) strInf rfl) fun a7 h7 => ?_)
      have x7 : TokZ (w6.setCells g7 1 [.string (bs ((s.data.toList.drop i).take n'))]) g7 kd ((s.data.toList.drop i).take n') i := y7.set_ 1 _
      have x4 : TokZ (w6.setCells g7 1 [.string (bs ((s.data.toList.drop i).take n'))]) g4 0 [] 0 := Blk.farL (by omega) _ _ _ y4
      refine wp_seq (nu_r15 h7 rfl rfl rfl x7.load (TokZ.store x4) fun a8 h8 => wp_ret ?_)
      have v4 := TokZ.set x4 kd ((s.data.toList.drop i).take n') i
      refine ret_ct rfl h8 rfl rfl v4.load ⟨by rw [hnt]; rfl, below_setCells _ _ _ (below_setCells _ _ _ hb6 hg7w) (by omega)⟩
    by_cases hlt : i + n' < s.size
    · have hix := fun w => idx_str hlt (x := (i : Int) + (n' : Int)) (by omega) w
      have hd := drop_list s (i + n') hlt
      have hnx : letNext ((s.data.toList.drop i).drop n') = isLet (s[i + n']'hlt) := by rw [List.drop_drop, hd]; rfl
      have hlet := rletter_any ((s[i + n']'hlt).toNat : Int) w'
      rw [letN_of] at hlet
      refine wp_seq (wp_seq (nu_r12_t h' rfl rfl rfl (by omega) (decide_eq_true (by omega)) hix hlet fun a5 w5 hw5 h5 => ?_))
      subst hw5
      cases hT : isLet (s[i + n']'hlt) with
      | true =>
        rw [hT] at h5
        refine wp_cond_true (h5.look 80 rfl) ?_
        refine wpl (nu_r13 h5 fun a6 h6 => ?_)
        exact fin a6 w' _ h6 ⟨by rw [hnb, hnx, hT, Bool.or_true]; rfl, rfl, rfl, rfl, rfl, rfl, trivial⟩ z7 z4 hb
      | false =>
        rw [hT] at h5
        refine wpo (h5.look 80 rfl) ?_
        exact fin a5 w' _ h5 ⟨by rw [hnb, hnx, hT, Bool.or_false]; rfl, rfl, rfl, rfl, rfl, rfl, trivial⟩ z7 z4 hb
    · refine wp_seq (wp_seq (nu_r12_f h' rfl rfl rfl (by omega) (decide_eq_false (by omega)) fun a5 h5 => wpo (h5.look 80 rfl) ?_))
      have hnx : letNext ((s.data.toList.drop i).drop n') = false := by rw [List.drop_of_length_le (by omega)]; rfl
      exact fin a5 w' _ h5 ⟨by rw [hnb, hnx, Bool.or_false]; rfl, rfl, rfl, rfl, rfl, rfl, trivial⟩ z7 z4 hb
  -- the first flag
  have hz0 : (s.data.toList.drop i).head? = some (s[i]'hi) := by rw [drop_list s i hi]; rfl
  have two : ∀ (N : Act → World → Prop) (Q : Exit → Act → World → Prop), (∀ a' l', Sl 90 a' l' → AllL l' [(8, .bool (decide (1 < n) && ((s.data.toList.drop i).head? == some 48))), (7, .pointer (some ⟨g7, 0, none⟩)), (6, .int .i64 (n : Int)), (4, .pointer (some ⟨g4, 0, none⟩)), (1, .int .i64 (i : Int)), (0, .string s)] → N a' w2) → (r_nu 3).wp Tryd.prog (Exit.then N Q) a3 w2 := fun N Q hN' => by
    by_cases h1n : 1 < n
    · have hix := fun w => idx_str hi (x := (i : Int)) rfl w
      refine nu_r3_t h3 rfl rfl rfl (decide_eq_true (by omega)) hix rfl fun a4 h4 => ?_
      have e : decide (((s[i]'hi).toNat : Int) = 48) = (decide (1 < n) && ((s.data.toList.drop i).head? == some 48)) := by
        rw [hz0, decide_eq_true h1n, Bool.true_and]
        by_cases h48 : s[i]'hi = 48
        · rw [h48]; rfl
        · rw [decide_eq_false (fun e => h48 (UInt8.toNat_inj.1 (by have : (48 : UInt8).toNat = 48 := rfl; omega)))]
          exact (beq_false_of_ne (fun e => h48 (by injection e))).symm
      exact hN' a4 _ h4 ⟨by rw [← e]; rfl, rfl, rfl, rfl, rfl, rfl, trivial⟩
    · refine nu_r3_f h3 rfl (decide_eq_false (by omega)) fun a4 h4 => ?_
      exact hN' a4 _ h4 ⟨by rw [decide_eq_false h1n, Bool.false_and]; rfl, rfl, rfl, rfl, rfl, rfl, trivial⟩
  generalize hb0 : (decide (1 < n) && ((s.data.toList.drop i).head? == some 48)) = b0 at two hbad
  refine wp_seq (two _ _ fun a4 l4 h4 hl4 => ?_)
  refine wp_seq (nu_r4 (h4.to hl4) fun a5 h5 => ?_)
  -- the part
  have three : ∀ (K : Act → World → Prop) (Q : Exit → Act → World → Prop), (∀ a' l', Sl 90 a' l' → AllL l' [(9, .int .i64 (p : Int)), (8, .bool b0), (7, .pointer (some ⟨g7, 0, none⟩)), (6, .int .i64 (n : Int)), (4, .pointer (some ⟨g4, 0, none⟩)), (1, .int .i64 (i : Int)), (0, .string s)] → K a' w2) →
      (Code.seq (r_nu 5) (.cond (.tmp 36) (r_nu 6) .skip)).wp Tryd.prog (Exit.then K Q) a5 w2 := fun K Q hK => by
    by_cases hlt : i + n < s.size
    · have hix := fun w => idx_str hlt (x := (i : Int) + (n : Int)) (by omega) w
      have hd := drop_list s (i + n) hlt
      rw [List.drop_drop, hd] at hpp
      by_cases h46 : s[i + n]'hlt = 46
      · have e : p = runL false (s.data.toList.drop (i + n + 1)) := by rw [hpp]; unfold numPart; simp [h46]
        refine wp_seq (nu_r5_t h5 rfl rfl rfl (by omega) (decide_eq_true (by omega)) hix (decide_eq_true (by rw [h46]; rfl)) fun a6 h6 => wp_cond_true (h6.look 36 rfl) ?_)
        have hr2 := rrun_any s (by omega) (i + n + 1) (by omega) false w2
        rw [← e] at hr2
        refine nu_r6 h6 rfl rfl rfl (by omega) (by omega) hr2 fun a7 w7 hw7 h7 => ?_
        subst hw7
        exact hK a7 _ h7 ⟨rfl, rfl, rfl, rfl, rfl, rfl, rfl, trivial⟩
      · have e : p = 0 := by rw [hpp]; unfold numPart; simp [h46]
        refine wp_seq (nu_r5_t h5 rfl rfl rfl (by omega) (decide_eq_true (by omega)) hix (decide_eq_false (fun e => h46 (UInt8.toNat_inj.1 (by have : (46 : UInt8).toNat = 46 := rfl; omega)))) fun a6 h6 => wpc_off (h6.look 36 rfl) ?_)
        exact hK a6 _ h6 ⟨by rw [e]; rfl, rfl, rfl, rfl, rfl, rfl, rfl, trivial⟩
    · have e : p = 0 := by rw [hpp, List.drop_drop, List.drop_of_length_le (by omega)]; rfl
      refine wp_seq (nu_r5_f h5 rfl rfl rfl (by omega) (decide_eq_false (by omega)) fun a6 h6 => wpc_off (h6.look 36 rfl) ?_)
      exact hK a6 _ h6 ⟨by rw [e]; rfl, rfl, rfl, rfl, rfl, rfl, rfl, trivial⟩
  refine wp_seq (three _ _ fun a6 l6 h6 hl6 => ?_)
  have h6 := h6.to hl6
  by_cases hp0 : 0 < p
  · rw [if_pos hp0, if_pos hp0] at hbad
    rw [if_pos hp0, if_pos hp0] at hT
    refine wp_seq (wp_seq (nu_r7 h6 rfl (decide_eq_true (by omega)) fun a7 h7 => wp_cond_true (h7.look 44 rfl) ?_))
    refine wp_seq (nu_r8 h7 rfl (sts1 (there_blk hZ2 (by simp)) intInf rfl) fun a8 h8 => ?_)
    have y7 : TokZ (w2.setCells g7 0 [.int .i64 5]) g7 5 [] i := hZ2.set_ 0 _
    have y4 : TokZ (w2.setCells g7 0 [.int .i64 5]) g4 0 [] 0 := Blk.farL (by omega) _ _ _ hZ4
    have yb : Below w.heap.size w (w2.setCells g7 0 [.int .i64 5]) := below_setCells _ _ _ hb2 hg7w
    generalize w2.setCells g7 0 [.int .i64 5] = w3 at y7 y4 yb ⊢
    have go : ∀ (bd : Bool) a9 l9, bd = (b0 || decide (15 < n + p)) → Sl 90 a9 l9 → AllL l9 [(9, .int .i64 (p : Int)), (8, .bool bd), (7, .pointer (some ⟨g7, 0, none⟩)), (6, .int .i64 (n : Int)), (4, .pointer (some ⟨g4, 0, none⟩)), (1, .int .i64 (i : Int)), (0, .string s)] →
        (r_nu 10).wp Tryd.prog (Exit.then ((Code.seq (.seq (r_nu 12) (.cond (.tmp 80) (r_nu 13) .skip)) (.seq (r_nu 14) (.seq (r_nu 15) .ret))).wp Tryd.prog (bodyPost Tryd.prog Tryd.f47 (fun e w' => e = .returned (.tuple #[tokA (numT i (s.data.toList.drop i)), .bool (numBad (s.data.toList.drop i))]) ∧ Below w.heap.size w w'))) (bodyPost Tryd.prog Tryd.f47 (fun e w' => e = .returned (.tuple #[tokA (numT i (s.data.toList.drop i)), .bool (numBad (s.data.toList.drop i))]) ∧ Below w.heap.size w w'))) a9 w3 := fun bd a9 l9 hbd h9 hl9 => by
      refine wpl (nu_r10 (h9.to hl9) rfl rfl (by omega) (by omega) fun a10 h10 => ?_)
      exact tail a10 w3 bd (n + 1 + p) 5 _ h10 ⟨rfl, rfl, rfl, rfl, rfl, rfl, trivial⟩ y7 y4 yb (by omega) hT (by rw [hbad, hbd])
    cases b0 with
    | true =>
      refine wp_seq (nu_r9_t h8 rfl fun a9 h9 => ?_)
      exact go true a9 _ (by rw [Bool.true_or]) h9 ⟨rfl, rfl, rfl, rfl, rfl, rfl, rfl, trivial⟩
    | false =>
      by_cases h15 : 15 < n + p
      · refine wp_seq (nu_r9_ft h8 rfl rfl rfl (by omega) (decide_eq_true (by omega)) fun a9 h9 => ?_)
        exact go true a9 _ (by rw [decide_eq_true h15]; rfl) h9 ⟨rfl, rfl, rfl, rfl, rfl, rfl, rfl, trivial⟩
      · refine wp_seq (nu_r9_ff h8 rfl rfl rfl (by omega) (decide_eq_false (by omega)) fun a9 h9 => ?_)
        exact go false a9 _ (by rw [decide_eq_false h15]; rfl) h9 ⟨rfl, rfl, rfl, rfl, rfl, rfl, rfl, trivial⟩
  · rw [if_neg hp0, if_neg hp0] at hbad
    rw [if_neg hp0, if_neg hp0] at hT
    refine wp_seq (wp_seq (nu_r7 h6 rfl (decide_eq_false (by omega)) fun a7 h7 => wp_cond_false (h7.look 44 rfl) ?_))
    have go : ∀ (bd : Bool) a9 l9, bd = (b0 || overB ((s.data.toList.drop i).take n)) → Sl 90 a9 l9 → AllL l9 [(8, .bool bd), (7, .pointer (some ⟨g7, 0, none⟩)), (6, .int .i64 (n : Int)), (4, .pointer (some ⟨g4, 0, none⟩)), (1, .int .i64 (i : Int)), (0, .string s)] →
        (Code.seq (.seq (r_nu 12) (.cond (.tmp 80) (r_nu 13) .skip)) (.seq (r_nu 14) (.seq (r_nu 15) .ret))).wp Tryd.prog (bodyPost Tryd.prog Tryd.f47 (fun e w' => e = .returned (.tuple #[tokA (numT i (s.data.toList.drop i)), .bool (numBad (s.data.toList.drop i))]) ∧ Below w.heap.size w w')) a9 w2 := fun bd a9 l9 hbd h9 hl9 =>
      tail a9 w2 bd n 4 l9 h9 hl9 hZ2 hZ4 hb2 (by omega) hT (by rw [hbad, hbd])
    cases b0 with
    | true =>
      refine wpl (nu_r11_t h7 rfl fun a9 h9 => ?_)
      exact go true a9 _ (by rw [Bool.true_or]) h9 ⟨rfl, rfl, rfl, rfl, rfl, rfl, trivial⟩
    | false =>
      have hab := above_any (bs ((s.data.toList.drop i).take n)) w2
      rw [bs_list] at hab
      cases ho : overB ((s.data.toList.drop i).take n) with
      | true =>
        rw [ho] at hab
        refine wpl (nu_r11_ft h7 rfl rfl rfl rfl (by omega) (sub_run i n (by omega)) hab fun a9 w9 hw9 h9 => ?_)
        subst hw9
        exact go true a9 _ (by rw [ho]; rfl) h9 ⟨rfl, rfl, rfl, rfl, rfl, rfl, trivial⟩
      | false =>
        rw [ho] at hab
        refine wpl (nu_r11_ff h7 rfl rfl rfl rfl (by omega) (sub_run i n (by omega)) hab fun a9 w9 hw9 h9 => ?_)
        subst hw9
        exact go false a9 _ (by rw [ho]; rfl) h9 ⟨rfl, rfl, rfl, rfl, rfl, rfl, trivial⟩
end Go.Proofs.YtpggcmlddmckcaaDoor
