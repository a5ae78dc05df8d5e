/-
  LexStands walked: it returns true. Written by an AI agent.
-/
import Derived.Test.YtpggcmlddmckcaaDoorSt2
import Derived.Test.YtpggcmlddmckcaaDoorSt3
namespace Go.Proofs.YtpggcmlddmckcaaDoor
open Go.RowKit Go.Sort
set_option maxRecDepth 100000

theorem neq_bool (a b : Bool) (w : World) : (binOp .neq 4 (.bool a) (.bool b)).run Tryd.prog w = .ok (.bool (a != b)) w := by
  have h : ∀ d : Nat, (Op.equalIn (d + 1) 4 (.bool a) (.bool b)).run Tryd.prog w = .ok (a == b) w := fun d => by simp [Op.equalIn, run_underlying Tryd.underlying4]
  simp only [binOp]
  simp [Op.equal, Op.maxDepth, h 9999]
  cases a <;> cases b <;> rfl
theorem tok_info : (Tryd.prog.info? 48).map (·.size) = some 3 := by kernel_rfl
/-- A token's block, its three loads. -/
def TokB (w : World) (g : Nat) (t : Tok) : Prop := Blk w g 48 #[.int .i64 (t.kind : Int), .string (bs t.text), .int .i64 (t.place : Int)]
theorem TokB.f0 {w : World} {g : Nat} {t : Tok} (h : TokB w g t) : Lds Tryd.prog 3 (.pointer (some ⟨g, 0, none⟩)) (.int .i64 (t.kind : Int)) w := lds1 Tryd.underlying3 rfl (h.cell 0)
theorem TokB.f1 {w : World} {g : Nat} {t : Tok} (h : TokB w g t) : Lds Tryd.prog 9 (.pointer (some ⟨g, 1, none⟩)) (.string (bs t.text)) w := lds1 Tryd.underlying9 rfl (h.cell 1)
theorem TokB.f2 {w : World} {g : Nat} {t : Tok} (h : TokB w g t) : Lds Tryd.prog 3 (.pointer (some ⟨g, 2, none⟩)) (.int .i64 (t.place : Int)) w := lds1 Tryd.underlying3 rfl (h.cell 2)
theorem TokCells.range {w : World} {g i : Nat} {t : Tok} (h : TokCells w g i t) : w.rangeAt g (i * 3) [.int .i64 (t.kind : Int), .string (bs t.text), .int .i64 (t.place : Int)] := fun j v hj => by
  rcases j with _ | _ | _ | j
  · injection hj with hj; rw [← hj]; exact h.1
  · injection hj with hj; rw [← hj]; exact h.2.1
  · injection hj with hj; rw [← hj]; exact h.2.2
  · cases hj
theorem TokCells.load {w : World} {g i : Nat} {t : Tok} (h : TokCells w g i t) : Lds Tryd.prog 48 (.pointer (some ⟨g, i * 3, none⟩)) (.agg #[.int .i64 (t.kind : Int), .string (bs t.text), .int .i64 (t.place : Int)]) w := ldsA Tryd.underlying48 rfl tok_info h.range

theorem lenFrom_le (q says : List UInt8) : ∀ (m k : Nat), lenFrom q says k m ≤ q.length
  | 0, k => by rw [lenFrom]; exact Nat.zero_le _
  | m + 1, k => by
    rw [lenFrom]
    split
    · exact Nat.zero_le _
    · split
      · exact lenFrom_le q says m (k + 1)
      · split
        · split
          · omega
          · exact Nat.zero_le _
        · exact lenFrom_le q says m (k + 1)
theorem tokN_le {s : List UInt8} {t : Tok} (hp : t.place ≤ s.length) (h : TokOk s t) : t.place + tokN s t ≤ s.length := by
  rcases h with ⟨hk, _, _⟩ | ⟨hk, _⟩ | ⟨hk, _, hf, _⟩
  · rw [tokN, if_pos hk]
    split <;> omega
  · rw [tokN, if_neg (by omega), if_pos hk]
    have := lenFrom_le (s.drop t.place) t.text s.length 2
    rw [List.length_drop] at this
    unfold lenL
    omega
  · rw [tokN, if_neg (by omega), if_neg (by omega)]
    exact hf
noncomputable def stArm : Code := (.seq (r_st 15) (.cond (.tmp 69) (.seq (r_st 16) (.seq (.seq (r_st 17) (.cond (.tmp 94) (.seq (r_st 18) .ret) .skip)) (.seq (r_st 19) (.cond (.tmp 99) (r_st 20) .skip)))) (.seq (r_st 21) (.cond (.tmp 100) (.seq (r_st 22) (.seq (r_st 23) (.cond (.tmp 109) (.seq (r_st 24) .ret) .skip))) (.seq (.seq (r_st 25) (.cond (.tmp 110) .skip (.seq (r_st 26) (.cond (.tmp 110) .skip (.seq (r_st 27) (.cond (.tmp 110) .skip (.seq (r_st 28) (.cond (.tmp 110) .skip (r_st 29))))))))) (.cond (.tmp 110) (.seq (.seq (r_st 30) (.cond (.tmp 139) (.seq (r_st 31) .ret) .skip)) (.seq (r_st 32) (.seq (r_st 33) (.seq (r_st 34) (.cond (.tmp 157) (.seq (r_st 35) .ret) .skip))))) (.seq (r_st 14) .ret)))))))

/-- The arms: behind them slot 9 holds how long the token is. -/
theorem st_arm (s : ByteArray) (hs : s.size ≤ 60000) (t : Tok) (hp : t.place ≤ s.size) (hok : TokOk s.data.toList t) (w1 : World) (hL : LexAt w1) (g : Nat) (hB : TokB w1 g t) (v7 v4 : Value) (a1 : Act)
    (h1 : Sl 171 a1 [(68, .int .i64 (t.kind : Int)), (9, .int .i64 (t.text.length : Int)), (8, .pointer (some ⟨g, 0, none⟩)), (7, v7), (4, v4), (3, .bool true), (0, .string s)])
    (Q : Exit → Act → World → Prop)
    (hQ : ∀ a' w', Sl 171 a' [(9, .int .i64 ((tokN s.data.toList t : Nat) : Int)), (8, .pointer (some ⟨g, 0, none⟩)), (7, v7), (4, v4), (3, .bool true), (0, .string s)] → TokB w' g t → Below w1.heap.size w1 w' → Q .normal a' w') :
    stArm.wp Tryd.prog Q a1 w1 := by
  have hsl : s.data.toList.length = s.size := by simp
  unfold stArm
  rcases hok with ⟨hk, htx, hend⟩ | ⟨hk, hlen⟩ | ⟨hk, hne, hfit, htk, hnm, hwd⟩
  · -- an end
    refine wp_seq (st_r15 h1 rfl (decide_eq_true (by omega)) fun a2 h2 => wp_cond_true (h2.look 69 rfl) ?_)
    refine wp_seq (st_r16 h2 fun a3 h3 => ?_)
    have hx : decide ((bs t.text) ≠ (⟨#[]⟩ : ByteArray)) = false := decide_eq_false (not_not_intro (by rw [htx]; rfl))
    have fin : ∀ a4, Sl 171 a4 [(9, .int .i64 0), (8, .pointer (some ⟨g, 0, none⟩)), (7, v7), (4, v4), (3, .bool true), (0, .string s)] → (Code.seq (r_st 19) (.cond (.tmp 99) (r_st 20) .skip)).wp Tryd.prog Q a4 w1 := fun a4 h4 => by
      by_cases hlt : t.place < s.size
      · refine wp_seq (st_r19 h4 rfl rfl hB.f2 (decide_eq_true (by omega)) fun a5 h5 => wp_cond_true (h5.look 99 rfl) ?_)
        refine wpl (st_r20 h5 fun a6 h6 => ?_)
        have e : tokN s.data.toList t = 1 := by rw [tokN, if_pos hk, if_pos (by omega)]
        exact hQ a6 w1 (by rw [e]; exact h6.to ⟨rfl, rfl, rfl, rfl, rfl, rfl, trivial⟩) hB (Below.refl _ _)
      · refine wp_seq (st_r19 h4 rfl rfl hB.f2 (decide_eq_false (by omega)) fun a5 h5 => wpc_off (h5.look 99 rfl) ?_)
        have e : tokN s.data.toList t = 0 := by rw [tokN, if_pos hk, if_neg (by omega)]
        exact hQ a5 w1 (by rw [e]; exact h5.to ⟨rfl, rfl, rfl, rfl, rfl, rfl, trivial⟩) hB (Below.refl _ _)
    by_cases hlt : t.place < s.size
    · have hix := fun w => idx_str hlt (x := (t.place : Int)) rfl w
      have hc : s[t.place]'hlt = 59 ∨ s[t.place]'hlt = 10 := by
        have := hend (by omega)
        have e : s.data.toList[t.place]? = some (s[t.place]'hlt) := by
          rw [List.getElem?_eq_getElem (by omega)]
          simp
          rfl
        rw [e] at this
        rcases this with h | h
        · injection h with h; exact .inl h
        · injection h with h; exact .inr h
      by_cases h59 : s[t.place]'hlt = 59
      · refine wp_seq (wp_seq (st_r17_ftf h3 rfl rfl hB.f1 hx hB.f2 (decide_eq_true (by omega)) hix (decide_eq_false (not_not_intro (u8_eq h59 rfl))) fun a4 h4 => wpo (h4.look 94 rfl) ?_))
        exact fin a4 (h4.to ⟨rfl, rfl, rfl, rfl, rfl, rfl, trivial⟩)
      · have h10 := hc.resolve_left h59
        refine wp_seq (wp_seq (st_r17_ftt h3 rfl rfl hB.f1 hx hB.f2 (decide_eq_true (by omega)) hix (decide_eq_true (u8_ne h59 rfl)) (decide_eq_false (not_not_intro (u8_eq h10 rfl))) fun a4 h4 => wpo (h4.look 94 rfl) ?_))
        exact fin a4 (h4.to ⟨rfl, rfl, rfl, rfl, rfl, rfl, trivial⟩)
    · refine wp_seq (wp_seq (st_r17_ff h3 rfl rfl hB.f1 hx hB.f2 (decide_eq_false (by omega)) fun a4 h4 => wpo (h4.look 94 rfl) ?_))
      exact fin a4 (h4.to ⟨rfl, rfl, rfl, rfl, rfl, rfl, trivial⟩)
  · -- a text
    refine wp_seq (st_r15 h1 rfl (decide_eq_false (by omega)) fun a2 h2 => wp_cond_false (h2.look 69 rfl) ?_)
    refine wp_seq (st_r21 h2 rfl (decide_eq_true (by omega)) fun a3 h3 => wp_cond_true (h3.look 100 rfl) ?_)
    refine wp_seq (st_r22 h3 rfl rfl hB.f2 hB.f1 (length_any s (by omega) t.place hp t.text w1) fun a4 w4 hb4 h4 => ?_)
    have e : tokN s.data.toList t = lenL s.data.toList t.place t.text := by rw [tokN, if_neg (by omega), if_pos hk]
    refine wp_seq (st_r23 h4 rfl (decide_eq_false (by omega)) fun a5 h5 => wpc_off (h5.look 109 rfl) ?_)
    exact hQ a5 w4 (by rw [e]; exact h5.to ⟨rfl, rfl, rfl, rfl, rfl, rfl, trivial⟩) (hB.below hb4 hB.lt) hb4
  · -- a name, a word, a number, a sign
    have hk1 : t.kind ≠ 1 := by omega
    have hk6 : t.kind ≠ 6 := by omega
    have e : tokN s.data.toList t = t.text.length := by rw [tokN, if_neg hk1, if_neg hk6]
    have hpos : 0 < t.text.length := List.length_pos_iff.2 hne
    refine wp_seq (st_r15 h1 rfl (decide_eq_false (by omega)) fun a2 h2 => wp_cond_false (h2.look 69 rfl) ?_)
    refine wp_seq (st_r21 h2 rfl (decide_eq_false (by omega)) fun a3 h3 => wp_cond_false (h3.look 100 rfl) ?_)
    have fin : ∀ a4, Sl 171 a4 [(110, .bool true), (9, .int .i64 (t.text.length : Int)), (8, .pointer (some ⟨g, 0, none⟩)), (7, v7), (4, v4), (3, .bool true), (0, .string s)] →
        (Code.cond (.tmp 110) (.seq (.seq (r_st 30) (.cond (.tmp 139) (.seq (r_st 31) .ret) .skip)) (.seq (r_st 32) (.seq (r_st 33) (.seq (r_st 34) (.cond (.tmp 157) (.seq (r_st 35) .ret) .skip))))) (.seq (r_st 14) .ret)).wp Tryd.prog Q a4 w1 := fun a4 h4 => by
      refine wp_cond_true (h4.look 110 rfl) ?_
      have hsub : ∀ w, (Instr.sliceAt 9 (.string s) (some (.int .i64 (t.place : Int))) (some (.int .i64 ((t.place : Int) + (t.text.length : Int)))) none).run Tryd.prog w = .ok (.string (bs t.text)) w := fun w => by
        rw [slat_str, sl_to (a := t.place) (b := t.place + t.text.length) (by omega) (by omega) rfl (by omega), show t.place + t.text.length - t.place = t.text.length by omega, htk]
      refine wp_seq (wp_seq (st_r30_ff h4 rfl rfl rfl (decide_eq_false (by omega)) hB.f2 (by omega) (decide_eq_false (by omega)) hsub hB.f1 (decide_eq_false (by simp)) fun a5 m h5 => wpo (h5.look 139 rfl) ?_))
      have hB5 : TokB (w1.drewN m) g t := hB.drewN m
      have hb5 : Below w1.heap.size w1 (w1.drewN m) := below_drewN (Below.refl _ _) m
      have hL5 := hL.below hb5 (Nat.le_refl _)
      generalize w1.drewN m = w5 at hB5 hb5 hL5 ⊢
      refine wp_seq (st_r32 h5 rfl hB5.f1 (Name_any (bs t.text) (by rw [bs_size]; omega) w5 hL5) fun a6 w6 hb6 h6 => ?_)
      have hB6 : TokB w6 g t := hB5.below hb6 hB5.lt
      refine wp_seq (st_r33 h6 rfl hB6.f1 (Word_any (bs t.text) w6 (hL5.below hb6 (Nat.le_refl _))) fun a7 w7 hb7 h7 => ?_)
      have hB7 : TokB w7 g t := hB6.below hb7 hB6.lt
      refine wp_seq (st_r34_f h7 rfl rfl rfl hB7.f0 rfl (fun w => (neq_bool _ _ w).trans (by
          rw [bs_list, hnm]
          have : decide ((t.kind : Int) = 2) = decide (t.kind = 2) := decide_eq_decide.2 (by omega)
          rw [this, bne_self_eq_false])) rfl (fun w => (neq_bool _ _ w).trans (by
          rw [bs_list, hwd]
          have : decide ((t.kind : Int) = 3) = decide (t.kind = 3) := decide_eq_decide.2 (by omega)
          rw [this, bne_self_eq_false])) fun a8 h8 => wpc_off (h8.look 157 rfl) ?_)
      exact hQ a8 w7 (by rw [e]; exact h8.to ⟨rfl, rfl, rfl, rfl, rfl, rfl, trivial⟩) hB7 (bl_trans (bl_trans hb5 hb6) hb7)
    refine wp_seq (wp_seq ?_)
    by_cases k2 : t.kind = 2
    · refine st_r25 h3 rfl (decide_eq_true (by omega)) fun a4 h4 => wp_cond_true (h4.look 110 rfl) (wp_skip ?_)
      exact fin a4 (h4.to ⟨rfl, rfl, rfl, rfl, rfl, rfl, rfl, trivial⟩)
    refine st_r25 h3 rfl (decide_eq_false (by omega)) fun a4 h4 => wp_cond_false (h4.look 110 rfl) (wp_seq ?_)
    by_cases k3 : t.kind = 3
    · refine st_r26 h4 rfl (decide_eq_true (by omega)) fun a5 h5 => wp_cond_true (h5.look 110 rfl) (wp_skip ?_)
      exact fin a5 (h5.to ⟨rfl, rfl, rfl, rfl, rfl, rfl, rfl, trivial⟩)
    refine st_r26 h4 rfl (decide_eq_false (by omega)) fun a5 h5 => wp_cond_false (h5.look 110 rfl) (wp_seq ?_)
    by_cases k4 : t.kind = 4
    · refine st_r27 h5 rfl (decide_eq_true (by omega)) fun a6 h6 => wp_cond_true (h6.look 110 rfl) (wp_skip ?_)
      exact fin a6 (h6.to ⟨rfl, rfl, rfl, rfl, rfl, rfl, rfl, trivial⟩)
    refine st_r27 h5 rfl (decide_eq_false (by omega)) fun a6 h6 => wp_cond_false (h6.look 110 rfl) (wp_seq ?_)
    by_cases k5 : t.kind = 5
    · refine st_r28 h6 rfl (decide_eq_true (by omega)) fun a7 h7 => wp_cond_true (h7.look 110 rfl) (wp_skip ?_)
      exact fin a7 (h7.to ⟨rfl, rfl, rfl, rfl, rfl, rfl, rfl, trivial⟩)
    refine st_r28 h6 rfl (decide_eq_false (by omega)) fun a7 h7 => wp_cond_false (h7.look 110 rfl) ?_
    refine wpl (st_r29 h7 rfl (decide_eq_true (by omega)) fun a8 h8 => ?_)
    exact fin a8 (h8.to ⟨rfl, rfl, rfl, rfl, rfl, rfl, rfl, trivial⟩)

noncomputable def stTurn : Code := .seq (.block 1 (.seq (r_st 9) (.seq (.seq (r_st 10) (.cond (.tmp 63) (.seq (r_st 11) .ret) .skip)) (.seq (r_st 12) (.seq (.seq (r_st 13) (.block 2 stArm)) (r_st 36)))))) (r_st 8)
theorem st_loop0 : stL0 = .seq (.seq (r_st 7) (.cond (.tmp 37) .skip (.exit 0))) stTurn := rfl

set_option maxHeartbeats 4000000 in
theorem st_turn (s : ByteArray) (hs : s.size ≤ 60000) (ts : List Tok) (i p : Nat) (hi : i < ts.length) (h3 : i < 3000) (hS : Stands s.data.toList p (ts.drop i)) (d : Option Addr) (cap : Nat) (w w1 : World) (hL : LexAt w) (hb : Below w.heap.size w w1) (hR : TokRow w1 d ts) (a1 : Act)
    (h1 : Sl 171 a1 [(7, .int .i64 (i : Int)), (6, .int .i64 (p : Int)), (4, .slice d ts.length cap), (3, .bool true), (0, .string s)]) (Q : Exit → Act → World → Prop)
    (hQ : ∀ a' w' (p' : Nat), Sl 171 a' [(7, .int .i64 ((i + 1 : Nat) : Int)), (6, .int .i64 (p' : Int)), (4, .slice d ts.length cap), (3, .bool true), (0, .string s)] → Stands s.data.toList p' (ts.drop (i + 1)) → Below w.heap.size w w' → TokRow w' d ts → Q .normal a' w') :
    stTurn.wp Tryd.prog Q a1 w1 := by
  have hsl : s.data.toList.length = s.size := by simp
  rw [List.drop_eq_getElem_cons hi] at hS
  obtain ⟨q1, q2, q3, hok, hS'⟩ := hS
  obtain ⟨gr, rfl, hgr, hc⟩ := hR.at i hi
  generalize ts[i] = t at q1 q2 q3 hok hS' hc
  unfold stTurn
  refine wp_seq (wp_block ?_)
  have hN := Blk.new w1 48 #[.int .i64 0, .string ⟨#[]⟩, .int .i64 0]
  refine wp_seq (st_r9 h1 rfl rfl (ix_at (o := i * 3) i rfl Tryd.underlying23 tok_info hi rfl) hc.load (stsA (there_blk hN (by simp)) tok_info (by simp [Value.oneCell'])) fun a2 h2 => ?_)
  have hB2 : TokB ((w1.alloc (.cells #[.int .i64 0, .string ⟨#[]⟩, .int .i64 0] 48)).setCells w1.heap.size 0 [.int .i64 (t.kind : Int), .string (bs t.text), .int .i64 (t.place : Int)]) w1.heap.size t :=
    Blk.setL [.int .i64 (t.kind : Int), .string (bs t.text), .int .i64 (t.place : Int)] 0 _ _ hN
  have hb2 := below_setCells [.int .i64 (t.kind : Int), .string (bs t.text), .int .i64 (t.place : Int)] 0 _ (bl_alloc (Below.refl w1.heap.size w1) (.cells #[.int .i64 0, .string ⟨#[]⟩, .int .i64 0] 48)) (Nat.le_refl _)
  generalize (w1.alloc (.cells #[.int .i64 0, .string ⟨#[]⟩, .int .i64 0] 48)).setCells w1.heap.size 0 [.int .i64 (t.kind : Int), .string (bs t.text), .int .i64 (t.place : Int)] = w2 at hB2 hb2 ⊢
  generalize w1.heap.size = g at h2 hB2
  have hsub : ∀ w, (Instr.sliceAt 9 (.string s) (some (.int .i64 (p : Int))) (some (.int .i64 (t.place : Int))) none).run Tryd.prog w = .ok (.string (bs ((s.data.toList.drop p).take (t.place - p)))) w := fun w => by
    rw [slat_str, sl_to (a := p) (b := t.place) q1 (by omega) rfl rfl]
  refine wp_seq (wp_seq (st_r10_ff h2 rfl rfl rfl hB2.f2 (decide_eq_false (by omega)) (decide_eq_false (by omega)) hsub (between_any _ (by rw [bs_size]; simp; omega) w2) fun a3 w3 hw3 h3 => wpo ((h3.look 63 rfl).trans (by rw [bs_list, q3]; rfl)) ?_))
  subst hw3
  refine wp_seq (st_r12 h3 rfl hB2.f1 fun a4 h4 => ?_)
  refine wp_seq (wp_seq (st_r13 h4 rfl hB2.f0 fun a5 h5 => ?_))
  refine wp_block ?_
  have h5' := h5.to (l0 := [(68, .int .i64 (t.kind : Int)), (9, .int .i64 ((bs t.text).size : Int)), (8, .pointer (some ⟨g, 0, none⟩)), (7, .int .i64 (i : Int)), (4, .slice (some ⟨gr, 0, none⟩) ts.length cap), (3, .bool true), (0, .string s)]) ⟨rfl, rfl, rfl, rfl, rfl, rfl, rfl, trivial⟩
  rw [bs_size] at h5'
  refine st_arm s hs t (by omega) hok w2 (hL.below (bl_trans hb hb2) (Nat.le_refl _)) g hB2 _ _ a5 h5' _ fun a6 w6 h6 hB6 hb6 => ?_
  have htn := tokN_le (show t.place ≤ s.data.toList.length by omega) hok
  refine wpl (st_r36 h6 rfl rfl hB6.f2 (by omega) fun a7 h7 => ?_)
  show Code.wp _ (r_st 8) _ a7 w6
  refine wpl (st_r8 h7 rfl (by omega) fun a8 h8 => ?_)
  exact hQ a8 w6 _ (h8.to ⟨rfl, rfl, rfl, rfl, rfl, trivial⟩) hS' (bl_trans (bl_trans hb hb2) hb6) ((hR.below hb2).below hb6)

set_option maxHeartbeats 4000000 in
theorem lexStands_any (s : ByteArray) (hs : s.size ≤ 140737488351232) (w : World) (hL : LexAt w) :
    Calls Tryd.prog 7 #[.string s] w fun e w' => e = .returned (.bool true) ∧ Below w.heap.size w w' := by
  have hsl : s.data.toList.length = s.size := by simp
  refine calls_ev (vs := [.string s]) 171 Tryd.func7 st_body (by kernel_rfl) (by simp) fun a0 h0 => ?_
  unfold stBody
  refine wp_seq (st_r0 h0 fun a1 h1 => ?_)
  refine wp_seq (st_r1 h1 (known_any w hL) fun a2 w2 hb2 h2 => ?_)
  have hL2 := hL.below hb2 (Nat.le_refl _)
  refine wp_seq (st_r2 h2 rfl ((scan_p s w2 hL2).mono fun e w' ⟨x, ev, he, hp, hb⟩ => ⟨x, ev, he, show ScanP _ w2 w' x ev ∧ Below w2.heap.size w2 w' from ⟨hp, hb⟩⟩) fun a3 x ev w3 hx h3 => ?_)
  obtain ⟨hp, hb3⟩ := hx
  have hbw3 := bl_trans hb2 hb3
  cases hS : scan s.data.toList with
  | bad b =>
    rw [hS] at hp
    obtain ⟨rfl, g, rfl, _⟩ := hp
    refine wp_seq (wp_seq (st_r3e h3 rfl rfl fun a4 h4 => wp_cond_true (h4.look 23 rfl) ?_))
    refine wp_seq (st_r4 h4 rfl rfl (decide_eq_true rfl) fun a5 h5 => wp_ret ?_)
    repeat (first | with_reducible refine then_ret ?_ | with_reducible refine block_ret ?_)
    exact ret1 rfl h5 rfl ⟨rfl, hbw3⟩
  | ok ts =>
    rw [hS] at hp
    obtain ⟨rfl, ht⟩ := hp
    have hst := stands_of _ _ hS
    have hsz : s.size ≤ 60000 := by
      by_cases h : s.size ≤ 60000
      · exact h
      · unfold scan at hS
        rw [if_pos (by omega)] at hS
        cases hS
    have hplace : PlaceP 0 s.data.toList (.ok ts) := by
      unfold scan at hS
      rw [if_neg (by omega)] at hS
      rw [← hS]
      exact scan_places _ _ _ _ (Nat.le_refl _)
    have hlen : ts.length ≤ 60001 := by
      have := hplace.1
      omega
    obtain ⟨d, cap, rfl, hR⟩ := ht.form
    refine wp_seq (wp_seq (st_r3n h3 rfl rfl fun a4 h4 => wpo (h4.look 23 rfl) ?_))
    refine wp_seq (st_r5 h4 fun a5 h5 => ?_)
    refine wp_seq (wp_seq (st_r6 h5 fun a6 h6 => ?_))
    refine wp_block ?_
    refine wp_loop (fun a' wr => ∃ (i p : Nat), i ≤ ts.length ∧ i ≤ 3000 ∧ Sl 171 a' [(7, .int .i64 (i : Int)), (6, .int .i64 (p : Int)), (4, .slice d ts.length cap), (3, .bool true), (0, .string s)] ∧ Stands s.data.toList p (ts.drop i) ∧ Below w.heap.size w wr ∧ TokRow wr d ts) (fun a' _ => muTo 3000 (slot a' 7))
      ⟨0, 0, by omega, by omega, h6.to ⟨rfl, rfl, rfl, rfl, rfl, trivial⟩, hst, hbw3, hR⟩ ?_
    rintro a7 w7 ⟨i, p, hi, hi3, h7, hS7, hb7, hR7⟩
    rw [h7.look 7 rfl, muTo_int, st_loop0]
    refine wp_seq (wp_seq ?_)
    have out : ∀ a8 l8, Sl 171 a8 l8 → l8.lookup 4 = some (.slice d ts.length cap) → l8.lookup 0 = some (.string s) → l8.lookup 6 = some (.int .i64 (p : Int)) → (3000 ≤ ts.length ∨ i = ts.length) →
        (Code.seq (r_st 37) .ret).wp Tryd.prog (bodyPost Tryd.prog Tryd.f7 (fun e w' => e = .returned (.bool true) ∧ Below w.heap.size w w')) a8 w7 := fun a8 l8 h8 e4 e0 e6 hor => by
      by_cases hbig : 3000 ≤ ts.length
      · refine wp_seq (st_r37_t h8 e4 (decide_eq_true (by omega)) fun a9 h9 => wp_ret ?_)
        repeat (first | with_reducible refine then_ret ?_ | with_reducible refine block_ret ?_)
        exact ret1 rfl h9 rfl ⟨rfl, hb7⟩
      · have hie := hor.resolve_left hbig
        rw [hie, List.drop_of_length_le (Nat.le_refl _)] at hS7
        obtain ⟨r1, r2⟩ := hS7
        refine wp_seq (st_r37_f h8 e4 e0 e6 (decide_eq_false (by omega)) (fun w => (slat_str _ _ _ _ w).trans (sl_from (k := p) (by omega) rfl w)) (between_any _ (by rw [bs_size]; simp; omega) w7) fun a9 w9 hw9 h9 => wp_ret ?_)
        subst hw9
        repeat (first | with_reducible refine then_ret ?_ | with_reducible refine block_ret ?_)
        exact ret1 rfl h9 rfl ⟨by rw [bs_list, r2], hb7⟩
    by_cases hlt : i < ts.length
    · by_cases h3k : i < 3000
      · refine st_r7_t h7 rfl rfl (decide_eq_true (by omega)) (decide_eq_true (by omega)) fun a8 h8 => wpn (h8.look 37 rfl) ?_
        refine st_turn s hsz ts i p hlt h3k hS7 d cap w w7 hL hb7 hR7 a8 (h8.to ⟨rfl, rfl, rfl, rfl, rfl, trivial⟩) _ fun a9 w9 p' h9 hS9 hb9 hR9 => ?_
        refine ⟨⟨i + 1, p', by omega, by omega, h9, hS9, hb9, hR9⟩, ?_⟩
        rw [h9.look 7 rfl, muTo_int]
        omega
      · refine st_r7_t h7 rfl rfl (decide_eq_true (by omega)) (decide_eq_false (by omega)) fun a8 h8 => wpx (h8.look 37 rfl) ?_
        refine then_exit (in_block' ?_)
        exact out a8 _ h8 rfl rfl rfl (.inl (by omega))
    · refine st_r7_f h7 rfl rfl (decide_eq_false (by omega)) fun a8 h8 => wpx (h8.look 37 rfl) ?_
      refine then_exit (in_block' ?_)
      exact out a8 _ h8 rfl rfl rfl (.inr (by omega))
end Go.Proofs.YtpggcmlddmckcaaDoor
