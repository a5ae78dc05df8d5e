/-
  Contracts of pick and same. Written by an AI agent.
-/
import Derived.Test.YtpggcmlddmckcaaDoorBl1
import Derived.Test.YtpggcmlddmckcaaDoorOw
import Derived.Test.YtpggcmlddmckcaaDoorLm
namespace Go.Proofs.YtpggcmlddmckcaaDoor
open Go.RowKit Go.Sort
set_option maxRecDepth 100000

theorem neg_run {a : Int} (h1 : -9223372036854775807 ≤ a) (h2 : a ≤ 9223372036854775807) (w : World) : (Op.unary .neg (.int .i64 a)).run Tryd.prog w = .ok (.int .i64 (-a)) w := by
  have h : inK .i64 (0 - a) := by
    show (-9223372036854775808 : Int) ≤ 0 - a ∧ 0 - a ≤ 9223372036854775807
    omega
  have e := in_wrap h
  simp only [Op.unary, Op.intArith, e]
  simp
theorem rem_run {a b : Int} (ha : 0 ≤ a) (hb : 0 < b) (w : World) : (binOp .rem 3 (.int .i64 a) (.int .i64 b)).run Tryd.prog w = .ok (.int .i64 (a % b)) w := by
  have hb0 : ¬ b = 0 := by omega
  have h : a.tmod b = a % b := Int.tmod_eq_emod_of_nonneg ha
  simp [binOp, Op.intDiv, hb0, h]
/-- What pick answers of six things. -/
def pkN (c : Int) : Int := (if c < 0 then -(c + 1) else c) % 6
theorem pick_any (c : Int) (h1 : -9223372036854775808 ≤ c) (h2 : c ≤ 9223372036854775807) (w : World) :
    Calls Tryd.prog 30 #[.int .i64 c, .int .i64 6] w fun e w' => e = .returned (.int .i64 (pkN c)) ∧ w = w' := by
  refine calls_ev (vs := [.int .i64 c, .int .i64 6]) 13 Tryd.func30 pk_body (by kernel_rfl) (by simp) fun a0 h0 => ?_
  unfold pkBody
  refine wp_seq (pk_r0 h0 fun a1 h1' => ?_)
  by_cases hc : c < 0
  · refine wp_seq (wp_seq (pk_r1 h1' rfl (decide_eq_true hc) fun a2 h2' => wp_cond_true (h2'.look 6 rfl) ?_))
    refine wpl (pk_r2 h2' rfl (by omega) (neg_run (by omega) (by omega)) fun a3 h3 => ?_)
    refine wp_seq (pk_r3 h3 rfl rfl (rem_run (by omega) (by omega)) fun a4 h4 => wp_ret ?_)
    exact ret1 rfl h4 rfl ⟨by rw [pkN, if_pos hc], rfl⟩
  · refine wp_seq (wp_seq (pk_r1 h1' rfl (decide_eq_false hc) fun a2 h2' => wpo (h2'.look 6 rfl) ?_))
    refine wp_seq (pk_r3 h2' rfl rfl (rem_run (by omega) (by omega)) fun a4 h4 => wp_ret ?_)
    exact ret1 rfl h4 rfl ⟨by rw [pkN, if_neg hc], rfl⟩
theorem tok_info' : (Tryd.prog.info? 48).map (·.size) = some 3 := by kernel_rfl
theorem neTok' (a b : Int) (x : ByteArray) (w : World) : (binOp .neq 48 (.agg #[.int .i64 a, .string x, .int .i64 b]) (.agg #[.int .i64 a, .string x, .int .i64 b])).run Tryd.prog w = .ok (.bool false) w := by
  simp [go_sem, Tryd.underlying48]
theorem TokCells.load' {w : World} {g i : Nat} {t : Tok} (h : TokCells w g i t) : Lds Tryd.prog 48 (.pointer (some ⟨g, i * 3, none⟩)) (.agg #[.int .i64 (t.kind : Int), .string (bs t.text), .int .i64 (t.place : Int)]) w :=
  ldsA (cs := [.int .i64 (t.kind : Int), .string (bs t.text), .int .i64 (t.place : Int)]) Tryd.underlying48 rfl tok_info' (fun j v hj => by
    rcases j with _ | _ | _ | j
    · injection hj with hj; rw [← hj]; exact h.1
    · injection hj with hj; rw [← hj]; exact h.2.1
    · injection hj with hj; rw [← hj]; exact h.2.2
    · cases hj)
theorem same_eq (ts : List Tok) (hz : ts.length ≤ 1000000) (d0 d1 : Option Addr) (q0 q1 : Nat) (w : World) (h0 : TokRow w d0 ts) (h1 : TokRow w d1 ts) :
    Calls Tryd.prog 13 #[.slice d0 ts.length q0, .slice d1 ts.length q1] w fun e w' => e = .returned (.bool true) ∧ Below w.heap.size w w' := by
  refine calls_ev (vs := [.slice d0 ts.length q0, .slice d1 ts.length q1]) 26 Tryd.func13 sm_body (by kernel_rfl) (by simp) fun a0 k0 => ?_
  unfold smBody
  refine wp_seq (sm_r0 k0 fun a1 k1 => ?_)
  refine wp_seq (wp_seq (sm_r1 k1 rfl rfl (decide_eq_false (by simp)) fun a2 k2 => wpo (k2.look 10 rfl) ?_))
  refine wp_seq (wp_seq (sm_r3 k2 fun a3 k3 => ?_))
  refine wp_block ?_
  refine wp_loop (fun a' wr => ∃ (i : Nat), i ≤ ts.length ∧ Sl 26 a' [(5, .int .i64 (i : Int)), (1, .slice d1 ts.length q1), (0, .slice d0 ts.length q0)] ∧ ∃ m, wr = w.drewN m) (fun a' _ => muTo ts.length (slot a' 5)) ⟨0, by omega, k3.to ⟨rfl, rfl, rfl, trivial⟩, 0, rfl⟩ ?_
  rintro a4 _ ⟨i, hi, k4, m, rfl⟩
  rw [k4.look 5 rfl, muTo_int]
  unfold smL0
  refine wp_seq (wp_seq ?_)
  by_cases hlt : i < ts.length
  · refine sm_r4 k4 rfl rfl (decide_eq_true (by omega)) fun a5 k5 => wpn (k5.look 14 rfl) ?_
    refine wp_seq (wp_block ?_)
    obtain ⟨g0, rfl, _, c0⟩ := h0.at i hlt
    obtain ⟨g1, rfl, _, c1⟩ := h1.at i hlt
    have l0 : Lds Tryd.prog 48 (.pointer (some ⟨g0, i * 3, none⟩)) _ (w.drewN m) := TokCells.load' (w := w.drewN m) c0
    have l1 : Lds Tryd.prog 48 (.pointer (some ⟨g1, i * 3, none⟩)) _ (w.drewN m) := TokCells.load' (w := w.drewN m) c1
    refine wp_seq (sm_r6 k5 rfl rfl rfl (ix_at i rfl Tryd.underlying23 tok_info' hlt rfl) l0 (ix_at i rfl Tryd.underlying23 tok_info' hlt rfl) l1 (neTok' _ _ _) fun a6 m' k6 => wpc_off (k6.look 25 rfl) ?_)
    refine wpl (sm_r5 k6 rfl (by omega) fun a7 k7 => ?_)
    refine ⟨⟨i + 1, by omega, k7.to ⟨rfl, rfl, rfl, trivial⟩, m + m', by simp [World.drewN, Nat.add_assoc]⟩, ?_⟩
    rw [k7.look 5 rfl]
    show muTo ts.length (.int .i64 ((i + 1 : Nat) : Int)) < _
    rw [muTo_int]
    omega
  · refine sm_r4 k4 rfl rfl (decide_eq_false (by omega)) fun a5 k5 => wpx (k5.look 14 rfl) ?_
    refine then_exit (in_block' ?_)
    show Code.wp _ (Code.seq (r_sm 8) .ret) _ a5 _
    refine wp_seq (sm_r8 k5 fun a6 k6 => wp_ret ?_)
    exact ret1 rfl k6 rfl ⟨rfl, below_drewN (Below.refl _ _) m⟩

/-- What is put in, by a raw number. -/
def chK (k : Int) (line : Bool) : List UInt8 := if k = 1 then [32] else if k = 2 then [9, 32] else if k = 3 then (if line then [32, 47, 47, 32, 34, 120] else []) else if k = 4 then (if line then [47, 47, 47] else []) else []
theorem chK_ins (k : Int) (line : Bool) : Ins line (chK k line) := by
  unfold chK
  split
  · exact .inr (.inl rfl)
  split
  · exact .inr (.inr (.inl rfl))
  split
  · cases line
    · exact .inl rfl
    · exact .inr (.inr (.inr ⟨rfl, .inl rfl⟩))
  split
  · cases line
    · exact .inl rfl
    · exact .inr (.inr (.inr ⟨rfl, .inr rfl⟩))
  · exact .inl rfl
theorem chK_len (k : Int) (line : Bool) : (chK k line).length ≤ 6 := by
  rcases chK_ins k line with h | h | h | ⟨_, h | h⟩ <;> rw [h] <;> simp
theorem BRow.form {w : World} {B : Nat} {v : Value} {l : List UInt8} (h : BRow w B v l) : ∃ d q, v = .slice d l.length q := by
  rcases h.2 with ⟨rfl, h0⟩ | ⟨g, cap, cur, rfl, _⟩
  · exact ⟨none, 0, by rw [h0]⟩
  · exact ⟨_, cap, rfl⟩
theorem grown_refl (w : World) (row : Option Nat) : w.grownBy w row := ⟨rfl, rfl, rfl, Nat.le_refl _, fun _ _ _ => rfl⟩

noncomputable def blArm : Code := (.seq (r_bl 18) (.cond (.tmp 95) (r_bl 19) (.seq (r_bl 20) (.cond (.tmp 100) (r_bl 21) (.seq (r_bl 22) (.cond (.tmp 105) (.seq (r_bl 23) (.cond (.tmp 107) (r_bl 24) .skip)) (.seq (r_bl 25) (.cond (.tmp 110) (.seq (r_bl 26) (.cond (.tmp 112) (r_bl 27) .skip)) .skip))))))))
/-- The arms: what is put in. -/
theorem bl_arm (k : Int) (line : Bool) (L : List UInt8) (hL : L.length ≤ 1000000) (B : Nat) (v : Value) (w : World) (hv : BRow w B v L) (hB : B ≤ w.heap.size) (s : ByteArray) (d1 d6 : Option Addr) (n1 q1 n6 q6 fr i g : Nat) (vw : Value) (a : Act)
    (h : Sl 144 a [(94, .int .i64 k), (13, .bool line), (12, .pointer (some ⟨g, 0, none⟩)), (11, .int .i64 (i : Int)), (10, .int .i64 (fr : Int)), (9, vw), (8, v), (6, .slice d6 n6 q6), (1, .slice d1 n1 q1), (0, .string s)]) (Q : Exit → Act → World → Prop)
    (hQ : ∀ a' w' v', Sl 144 a' [(12, .pointer (some ⟨g, 0, none⟩)), (11, .int .i64 (i : Int)), (10, .int .i64 (fr : Int)), (9, vw), (8, v'), (6, .slice d6 n6 q6), (1, .slice d1 n1 q1), (0, .string s)] → BRow w' B v' (L ++ chK k line) → w.grownBy w' v.ownBlock → Q .normal a' w') :
    blArm.wp Tryd.prog Q a w := by
  have none : ∀ a' l', Sl 144 a' l' → AllL l' [(12, .pointer (some ⟨g, 0, Option.none⟩)), (11, .int .i64 (i : Int)), (10, .int .i64 (fr : Int)), (9, vw), (8, v), (6, .slice d6 n6 q6), (1, .slice d1 n1 q1), (0, .string s)] → chK k line = [] → Q .normal a' w := fun a' l' h' hl he =>
    hQ a' w v (h'.to hl) (by rw [he, List.append_nil]; exact hv) (grown_refl _ _)
  have some' : ∀ a' l' w' v' m, Sl 144 a' l' → AllL l' [(12, .pointer (some ⟨g, 0, Option.none⟩)), (11, .int .i64 (i : Int)), (10, .int .i64 (fr : Int)), (9, vw), (8, v'), (6, .slice d6 n6 q6), (1, .slice d1 n1 q1), (0, .string s)] → chK k line = m → BRow w' B v' (L ++ m) ∧ w.grownBy w' v.ownBlock → Q .normal a' w' := fun a' l' w' v' m h' hl he hr =>
    hQ a' w' v' (h'.to hl) (by rw [he]; exact hr.1) hr.2
  unfold blArm
  by_cases k1 : k = 1
  · refine wp_seq (bl_r18 h rfl (decide_eq_true k1) fun a2 h2 => wp_cond_true (h2.look 95 rfl) ?_)
    refine wpl (bl_r19 h2 rfl (fun ty => app_byt [32] #[.int .u8 32] rfl hv hB (by simp; omega) ty) fun a3 x w3 hx h3 => ?_)
    exact some' a3 _ w3 x [32] h3 ⟨rfl, rfl, rfl, rfl, rfl, rfl, rfl, rfl, trivial⟩ (by rw [chK, if_pos k1]) hx
  refine wp_seq (bl_r18 h rfl (decide_eq_false k1) fun a2 h2 => wp_cond_false (h2.look 95 rfl) ?_)
  by_cases k2 : k = 2
  · refine wp_seq (bl_r20 h2 rfl (decide_eq_true k2) fun a3 h3 => wp_cond_true (h3.look 100 rfl) ?_)
    refine wpl (bl_r21 h3 rfl (fun ty => app_byt [9, 32] #[.int .u8 9, .int .u8 32] rfl hv hB (by simp; omega) ty) fun a4 x w4 hx h4 => ?_)
    exact some' a4 _ w4 x [9, 32] h4 ⟨rfl, rfl, rfl, rfl, rfl, rfl, rfl, rfl, trivial⟩ (by rw [chK, if_neg k1, if_pos k2]) hx
  refine wp_seq (bl_r20 h2 rfl (decide_eq_false k2) fun a3 h3 => wp_cond_false (h3.look 100 rfl) ?_)
  by_cases k3 : k = 3
  · refine wp_seq (bl_r22 h3 rfl (decide_eq_true k3) fun a4 h4 => wp_cond_true (h4.look 105 rfl) ?_)
    cases line with
    | true =>
      refine wp_seq (bl_r23 h4 rfl fun a5 h5 => wp_cond_true (h5.look 107 rfl) ?_)
      refine wpl (bl_r24 h5 rfl (fun ty => app_str [32, 47, 47, 32, 34, 120] hv hB (by simp; omega) ty) fun a6 x w6 hx h6 => ?_)
      exact some' a6 _ w6 x _ h6 ⟨rfl, rfl, rfl, rfl, rfl, rfl, rfl, rfl, trivial⟩ (by rw [chK, if_neg k1, if_neg k2, if_pos k3, if_pos rfl]) hx
    | false =>
      refine wp_seq (bl_r23 h4 rfl fun a5 h5 => wpc_off (h5.look 107 rfl) ?_)
      exact none a5 _ h5 ⟨rfl, rfl, rfl, rfl, rfl, rfl, rfl, rfl, trivial⟩ (by rw [chK, if_neg k1, if_neg k2, if_pos k3, if_neg (by decide)])
  refine wp_seq (bl_r22 h3 rfl (decide_eq_false k3) fun a4 h4 => wp_cond_false (h4.look 105 rfl) ?_)
  by_cases k4 : k = 4
  · refine wp_seq (bl_r25 h4 rfl (decide_eq_true k4) fun a5 h5 => wp_cond_true (h5.look 110 rfl) ?_)
    cases line with
    | true =>
      refine wp_seq (bl_r26 h5 rfl fun a6 h6 => wp_cond_true (h6.look 112 rfl) ?_)
      refine wpl (bl_r27 h6 rfl (fun ty => app_str [47, 47, 47] hv hB (by simp; omega) ty) fun a7 x w7 hx h7 => ?_)
      exact some' a7 _ w7 x _ h7 ⟨rfl, rfl, rfl, rfl, rfl, rfl, rfl, rfl, trivial⟩ (by rw [chK, if_neg k1, if_neg k2, if_neg k3, if_pos k4, if_pos rfl]) hx
    | false =>
      refine wp_seq (bl_r26 h5 rfl fun a6 h6 => wpc_off (h6.look 112 rfl) ?_)
      exact none a6 _ h6 ⟨rfl, rfl, rfl, rfl, rfl, rfl, rfl, rfl, trivial⟩ (by rw [chK, if_neg k1, if_neg k2, if_neg k3, if_pos k4, if_neg (by decide)])
  · refine wp_seq (bl_r25 h4 rfl (decide_eq_false k4) fun a5 h5 => wpc_off (h5.look 110 rfl) ?_)
    exact none a5 _ h5 ⟨rfl, rfl, rfl, rfl, rfl, rfl, rfl, rfl, trivial⟩ (by rw [chK, if_neg k1, if_neg k2, if_neg k3, if_neg k4])
end Go.Proofs.YtpggcmlddmckcaaDoor
