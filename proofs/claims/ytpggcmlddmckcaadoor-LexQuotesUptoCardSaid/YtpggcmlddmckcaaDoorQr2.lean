/-
  Contracts of the reference's Quote and Unquote, and the law LexQuotes of texts of at most 35184372000000 bytes. Written by an AI agent.
-/
import Derived.Test.YtpggcmlddmckcaaDoorQr1
import Derived.Test.YtpggcmlddmckcaaDoorSn4
import Derived.Test.YtpggcmlddmckcaaDoorQu2
namespace Go.Proofs.YtpggcmlddmckcaaDoor
open Go.RowKit Go.Sort
set_option maxRecDepth 100000

theorem quo16 (c : UInt8) (w : World) : (binOp .quo 5 (.int .u8 (c.toNat : Int)) (.int .u8 16)).run Tryd.prog w = .ok (.int .u8 ((c.toNat / 16 : Nat) : Int)) w := by
  have e := u8_quo c
  have h : IntKind.u8.wrap ((c.toNat : Int).tdiv 16) = ((c.toNat / 16 : Nat) : Int) := by simpa [IntKind.wrap, IntKind.signed, IntKind.bits] using e
  simp only [binOp, Op.intArith, Op.intDiv]
  have e3 : ((c.toNat : Int).tdiv 16) = (c.toNat : Int) / 16 := Int.tdiv_eq_ediv_of_nonneg (by omega)
  rw [e3] at h
  simp
  simpa using h
theorem rem16 (c : UInt8) (w : World) : (binOp .rem 5 (.int .u8 (c.toNat : Int)) (.int .u8 16)).run Tryd.prog w = .ok (.int .u8 ((c.toNat % 16 : Nat) : Int)) w := by
  have e := u8_rem c
  have h : IntKind.u8.wrap ((c.toNat : Int).tmod 16) = ((c.toNat % 16 : Nat) : Int) := by
    rw [e]
    have h2 : (((c.toNat % 16 : Nat) : Int)) % 256 = ((c.toNat % 16 : Nat) : Int) := by omega
    simpa [IntKind.wrap, IntKind.signed, IntKind.bits] using h2
  simp only [binOp, Op.intArith, Op.intDiv]
  simp [h]
  simpa using e
theorem u8_dec (c k : UInt8) {x : Int} (hx : x = (k.toNat : Int)) : decide ((c.toNat : Int) = x) = decide (c = k) := by
  subst hx
  by_cases h : c = k
  · subst h; simp
  · rw [decide_eq_false h]
    exact decide_eq_false fun e => h (UInt8.toNat_inj.1 (by omega))

set_option maxHeartbeats 4000000 in
theorem rquote_any (s : ByteArray) (hs : s.size ≤ 35184372000000) (w : World) :
    Calls Tryd.prog 20 #[.string s] w fun e w' => e = .returned (.string (bs (quote s.data.toList))) ∧ Below w.heap.size w w' := by
  have hsl : s.data.toList.length = s.size := by simp
  refine calls_ev (vs := [.string s]) 63 Tryd.func20 rq_body (by kernel_rfl) (by simp) fun a0 h0 => ?_
  unfold rqBody
  refine wp_seq (rq_r0 h0 fun a1 h1 => ?_)
  refine wp_seq (rq_r1 h1 fun a2 h2 => ?_)
  have hA : Blk (w.alloc (.cells #[.int .u8 34] 5)) w.heap.size 5 #[.int .u8 34] := Blk.new _ _ _
  have hbA : Below w.heap.size w (w.alloc (.cells #[.int .u8 34] 5)) := bl_alloc (Below.refl _ _) _
  generalize w.alloc (.cells #[.int .u8 34] 5) = w1 at hA hbA ⊢
  have hown : BRow w1 w.heap.size (.slice (some ⟨w.heap.size, 0, none⟩) 1 1) [34] :=
    ⟨rfl, .inr ⟨w.heap.size, 1, #[.int .u8 34], rfl, Nat.le_refl _, hA, Nat.le_refl _, by unfold maxLen; omega, rfl, rfl⟩⟩
  refine wp_seq (wp_seq (rq_r2 h2 fun a3 h3 => ?_))
  refine wp_block ?_
  refine wp_loop (fun a' wr => ∃ (i : Nat) (v : Value), i ≤ s.size ∧ Sl 63 a' [(4, .int .i64 (i : Int)), (3, v), (0, .string s)] ∧ BRow wr w.heap.size v (34 :: (s.data.toList.take i).flatMap quoteC) ∧ Below w.heap.size w wr) (fun a' _ => muTo s.size (slot a' 4))
    ⟨0, _, by omega, h3.to ⟨rfl, rfl, rfl, trivial⟩, hown, hbA⟩ ?_
  rintro a4 wr ⟨i, v, hi, h4, hB, hb⟩
  rw [h4.look 4 rfl, muTo_int]
  have hlen : (34 :: (s.data.toList.take i).flatMap quoteC).length ≤ 140737488354000 := by
    have := quoteL_len (s.data.toList.take i)
    rw [List.length_take] at this
    rw [List.length_cons]
    omega
  unfold rqL0
  by_cases hlt : i < s.size
  · refine wp_seq (wp_seq (rq_r3 h4 rfl rfl (decide_eq_true (by omega)) fun a5 h5 => wpn (h5.look 10 rfl) ?_))
    refine wp_seq (wp_block ?_)
    refine wp_seq (rq_r5 h5 rfl rfl (fun w => idx_str hlt rfl w) fun a6 h6 => ?_)
    refine wp_block ?_
    obtain ⟨c, hc⟩ : ∃ c, s[i]'hlt = c := ⟨_, rfl⟩
    rw [hc] at h6
    have hcl := c.toNat_lt
    have htk : s.data.toList.take (i + 1) = s.data.toList.take i ++ [c] := by
      rw [List.take_succ_eq_append_getElem (by omega)]
      congr 2
    have fin : ∀ (m : List UInt8) (a' : Act) (w' : World) (v' : Value) l', quoteC c = m → Sl 63 a' l' → AllL l' [(4, .int .i64 (i : Int)), (3, v'), (0, .string s)] → BRow w' w.heap.size v' ((34 :: (s.data.toList.take i).flatMap quoteC) ++ m) ∧ wr.grownBy w' v.ownBlock →
        ∀ Q : Exit → Act → World → Prop, (∀ a'', ((∃ (i : Nat) (v : Value), i ≤ s.size ∧ Sl 63 a'' [(4, .int .i64 (i : Int)), (3, v), (0, .string s)] ∧ BRow w' w.heap.size v (34 :: (s.data.toList.take i).flatMap quoteC) ∧ Below w.heap.size w w') ∧ muTo s.size (slot a'' 4) < s.size - i) → Q .normal a'' w') → (r_rq 4).wp Tryd.prog Q a' w' := fun m a' w' v' l' hm h' hl hx Q hQ => by
      refine wpl (rq_r4 (h'.to hl) rfl (by omega) fun a'' h'' => hQ a'' ⟨⟨i + 1, v', by omega, h''.to ⟨rfl, rfl, rfl, trivial⟩, ?_, hb.trans (own_grew hB hb.size hx.2)⟩, ?_⟩)
      · rw [htk, List.flatMap_append, ← List.cons_append]
        have e : [c].flatMap quoteC = m := by simp [hm]
        rw [e]
        exact hx.1
      · rw [h''.look 4 rfl]
        show muTo s.size (.int .i64 ((i + 1 : Nat) : Int)) < _
        rw [muTo_int]
        omega
    have app := fun (m : List UInt8) cs (hcs : cs.toList = m.map byteV) (hm : m.length ≤ 4) ty => app_byt (w := wr) m cs hcs hB hb.size (by omega) ty
    by_cases e10 : c = 10
    · refine wp_seq (rq_r7 h6 rfl ((u8_dec c 10 rfl).trans (decide_eq_true e10)) fun a7 h7 => wp_cond_true (h7.look 20 rfl) (wpl (rq_r8 h7 rfl (app [92, 110] _ rfl (by simp)) fun a8 v8 w8 hx h8 => block_norm (block_norm ?_))))
      show Code.wp _ (r_rq 4) _ a8 w8
      exact fin [92, 110] a8 w8 v8 _ (by unfold quoteC; rw [if_neg (by rw [e10]; decide), if_pos e10]) h8 ⟨rfl, rfl, rfl, trivial⟩ hx _ (fun _ h => h)
    refine wp_seq (rq_r7 h6 rfl ((u8_dec c 10 rfl).trans (decide_eq_false e10)) fun a7 h7 => wp_cond_false (h7.look 20 rfl) ?_)
    by_cases e9 : c = 9
    · refine wp_seq (rq_r9 h7 rfl ((u8_dec c 9 rfl).trans (decide_eq_true e9)) fun a8 h8 => wp_cond_true (h8.look 26 rfl) (wpl (rq_r10 h8 rfl (app [92, 116] _ rfl (by simp)) fun a9 v9 w9 hx h9 => block_norm (block_norm ?_))))
      show Code.wp _ (r_rq 4) _ a9 w9
      exact fin [92, 116] a9 w9 v9 _ (by unfold quoteC; rw [if_neg (by rw [e9]; decide), if_neg e10, if_pos e9]) h9 ⟨rfl, rfl, rfl, trivial⟩ hx _ (fun _ h => h)
    refine wp_seq (rq_r9 h7 rfl ((u8_dec c 9 rfl).trans (decide_eq_false e9)) fun a8 h8 => wp_cond_false (h8.look 26 rfl) ?_)
    by_cases e34 : c = 34 ∨ c = 92
    · have hc : ∀ Q : Exit → Act → World → Prop, (∀ a9, Sl 63 a9 [(32, .bool true), (5, .int .u8 (c.toNat : Int)), (4, .int .i64 (i : Int)), (3, v), (0, .string s)] → (Code.cond (.tmp 32) (r_rq 12) (.seq (r_rq 13) (.cond (.tmp 43) (r_rq 14) (r_rq 6)))).wp Tryd.prog Q a9 wr) → (Code.seq (r_rq 11) (.cond (.tmp 32) (r_rq 12) (.seq (r_rq 13) (.cond (.tmp 43) (r_rq 14) (r_rq 6))))).wp Tryd.prog Q a8 wr := fun Q hQ => by
        by_cases e : c = 34
        · exact wp_seq (rq_r11_t h8 rfl ((u8_dec c 34 rfl).trans (decide_eq_true e)) fun a9 h9 => hQ a9 (h9.to ⟨rfl, rfl, rfl, rfl, rfl, trivial⟩))
        · exact wp_seq (rq_r11_f h8 rfl ((u8_dec c 34 rfl).trans (decide_eq_false e)) ((u8_dec c 92 rfl).trans (decide_eq_true (e34.resolve_left e))) fun a9 h9 => hQ a9 (h9.to ⟨rfl, rfl, rfl, rfl, rfl, trivial⟩))
      refine hc _ fun a9 h9 => wp_cond_true (h9.look 32 rfl) (wpl (rq_r12 h9 rfl rfl (app [92, c] _ rfl (by simp)) fun a10 v10 w10 hx h10 => block_norm (block_norm ?_)))
      show Code.wp _ (r_rq 4) _ a10 w10
      exact fin [92, c] a10 w10 v10 _ (by unfold quoteC; rw [if_pos e34]) h10 ⟨rfl, rfl, rfl, trivial⟩ hx _ (fun _ h => h)
    refine wp_seq (rq_r11_f h8 rfl ((u8_dec c 34 rfl).trans (decide_eq_false fun e => e34 (.inl e))) ((u8_dec c 92 rfl).trans (decide_eq_false fun e => e34 (.inr e))) fun a9 h9 => wp_cond_false (h9.look 32 rfl) ?_)
    by_cases e32 : c.toNat < 32 ∨ 126 < c.toNat
    · have hc : ∀ Q : Exit → Act → World → Prop, (∀ a9, Sl 63 a9 [(43, .bool true), (5, .int .u8 (c.toNat : Int)), (4, .int .i64 (i : Int)), (3, v), (0, .string s)] → (Code.cond (.tmp 43) (r_rq 14) (r_rq 6)).wp Tryd.prog Q a9 wr) → (Code.seq (r_rq 13) (.cond (.tmp 43) (r_rq 14) (r_rq 6))).wp Tryd.prog Q a9 wr := fun Q hQ => by
        by_cases e : c.toNat < 32
        · exact wp_seq (rq_r13_t h9 rfl (decide_eq_true (by omega)) fun a9 h9 => hQ a9 (h9.to ⟨rfl, rfl, rfl, rfl, rfl, trivial⟩))
        · exact wp_seq (rq_r13_f h9 rfl (decide_eq_false (by omega)) (decide_eq_true (by omega)) fun a9 h9 => hQ a9 (h9.to ⟨rfl, rfl, rfl, rfl, rfl, trivial⟩))
      have app4 := fun ty => app_byt (w := wr.drewN 1) [92, 120, hexD (c.toNat / 16), hexD (c.toNat % 16)] #[.int .u8 92, .int .u8 120, .int .u8 ((hexD (c.toNat / 16)).toNat : Int), .int .u8 ((hexD (c.toNat % 16)).toNat : Int)] rfl hB hb.size (by simp only [List.length_cons, List.length_nil] at hlen ⊢; omega) ty
      refine hc _ fun a10 h10 => wp_cond_true (h10.look 43 rfl) (wpl (rq_r14 (C := fun _ => True) h10 rfl rfl (fun w => quo16 c w) (fun w => hex_idx (c.toNat / 16) (by omega) rfl w) (fun w => rem16 c w) (fun w => hex_idx (c.toNat % 16) (by omega) rfl w) trivial trivial app4 fun a11 v11 w11 hx h11 => block_norm (block_norm ?_)))
      show Code.wp _ (r_rq 4) _ a11 w11
      exact fin _ a11 w11 v11 _ (by unfold quoteC; rw [if_neg e34, if_neg e10, if_neg e9, if_pos e32]) h11 ⟨rfl, rfl, rfl, trivial⟩ ⟨hx.1, hx.2.os, hx.2.tape, hx.2.output, hx.2.size, hx.2.block⟩ _ (fun _ h => h)
    · refine wp_seq (rq_r13_f h9 rfl (decide_eq_false (by omega)) (decide_eq_false (by omega)) fun a10 h10 => wp_cond_false (h10.look 43 rfl) (wpl (rq_r6 h10 rfl rfl (app [c] _ rfl (by simp)) fun a11 v11 w11 hx h11 => block_norm (block_norm ?_))))
      show Code.wp _ (r_rq 4) _ a11 w11
      exact fin [c] a11 w11 v11 _ (by unfold quoteC; rw [if_neg e34, if_neg e10, if_neg e9, if_neg e32]) h11 ⟨rfl, rfl, rfl, trivial⟩ hx _ (fun _ h => h)
  · refine wp_seq (wp_seq (rq_r3 h4 rfl rfl (decide_eq_false (by omega)) fun a5 h5 => wpx (h5.look 10 rfl) ?_))
    refine then_exit (in_block' ?_)
    show Code.wp _ (Code.seq (r_rq 15) .ret) _ a5 wr
    have hie : s.data.toList.take i = s.data.toList := List.take_of_length_le (by omega)
    refine wp_seq (rq_r15 h5 rfl (fun ty => app_byt [34] #[.int .u8 34] rfl hB hb.size (by simp only [List.length_cons, List.length_nil] at hlen ⊢; omega) ty) (fun x w1 hx => own_string hx.1) fun a6 x w6 hx h6 => wp_ret ?_)
    exact ret1 rfl h6 rfl ⟨by rw [hie]; rfl, hb.trans (own_grew hB hb.size hx.2)⟩

def txU : Ans (List UInt8) → List UInt8
  | .ok t => t
  | .bad _ => []
def baU : Ans (List UInt8) → Option Bad
  | .ok _ => none
  | .bad b => some b
def unqV (r : Ans (List UInt8)) : Value := .tuple #[.string (bs (txU r)), .agg #[.int .i64 (bdC (baU r)), .int .i64 (bdP (baU r)), .string ⟨#[]⟩]]

set_option maxHeartbeats 4000000 in
theorem runq_any (s : ByteArray) (hs : s.size ≤ 140737488300000) (w : World) :
    Calls Tryd.prog 17 #[.string s] w fun e w' => e = .returned (unqV (unquote s.data.toList)) ∧ bdOk (baU (unquote s.data.toList)) ∧ Below w.heap.size w w' := by
  have hsl : s.data.toList.length = s.size := by simp
  generalize hR : unquote s.data.toList = R
  refine calls_ev (vs := [.string s]) 40 Tryd.func17 ru_body (by kernel_rfl) (by simp) fun a0 h0 => ?_
  unfold ruBody
  refine wp_seq (ru_r0 h0 fun a1 h1 => ?_)
  have hW := Blk.new w 26 #[.int .i64 0, .int .i64 0, .string ⟨#[]⟩]
  have hb1 := bl_alloc (Below.refl w.heap.size w) (.cells #[.int .i64 0, .int .i64 0, .string ⟨#[]⟩] 26)
  have hz1 : (w.alloc (.cells #[.int .i64 0, .int .i64 0, .string ⟨#[]⟩] 26)).heap.size = w.heap.size + 1 := by simp
  have hW1 : WrB (w.alloc (.cells #[.int .i64 0, .int .i64 0, .string ⟨#[]⟩] 26)) w.heap.size 0 0 := hW
  generalize w.alloc (.cells #[.int .i64 0, .int .i64 0, .string ⟨#[]⟩] 26) = w1 at hW1 hb1 hz1 ⊢
  have done : ∀ (v : Value) (c p : Int) a' w' l', Sl 40 a' l' → l'.lookup 2 = some v → l'.lookup 3 = some (.pointer (some ⟨w.heap.size, 0, none⟩)) → WrB w' w.heap.size c p → Below w.heap.size w w' → bdOk (baU R) → unqV R = .tuple #[v, .agg #[.int .i64 c, .int .i64 p, .string ⟨#[]⟩]] →
      bodyPost Tryd.prog Tryd.f17 (fun e w' => e = .returned (unqV R) ∧ bdOk (baU R) ∧ Below w.heap.size w w') .ret a' w' := fun v c p a' w' l' h' e2 e3 hw hb hk he =>
    ret_tc rfl h' e2 e3 hw.load ⟨by rw [he], hk, hb⟩
  by_cases he : s = ⟨#[]⟩
  · have hR' : R = .bad ⟨11, 0⟩ := by rw [← hR, he]; rfl
    refine wp_seq (wp_seq (ru_r1_t h1 rfl (decide_eq_true he) fun a2 h2 => wp_cond_true (h2.look 13 rfl) ?_))
    refine wp_seq (ru_r2 h2 rfl hW1.store fun a3 h3 => wp_ret (then_ret ?_))
    exact done _ 11 0 a3 _ _ h3 rfl rfl (hW1.set 11 0) (below_setCells _ _ _ hb1 (Nat.le_refl _)) (by rw [hR']; exact (by decide : (11 : Nat) ≠ 0)) (by rw [hR']; rfl)
  have hpos : 0 < s.size := by
    rcases Nat.eq_zero_or_pos s.size with e | e
    · exact absurd (by obtain ⟨⟨l⟩⟩ := s; simp [ByteArray.size] at e; rw [e]) he
    · exact e
  have hix := fun w => idx_str hpos (x := 0) rfl w
  have hd := drop_list s 0 hpos
  rw [List.drop_zero, Nat.zero_add] at hd
  by_cases h34 : ¬ s[0]'hpos = 34
  · have n34 : ¬ (((s[0]'hpos).toNat : Int) = 34) := fun e => h34 (UInt8.toNat_inj.1 (by have : (34 : UInt8).toNat = 34 := rfl; omega))
    have hR' : R = .bad ⟨11, 0⟩ := by rw [← hR, hd, unquote, if_neg h34]
    refine wp_seq (wp_seq (ru_r1_f h1 rfl (decide_eq_false he) hix (decide_eq_true n34) fun a2 h2 => wp_cond_true (h2.look 13 rfl) ?_))
    refine wp_seq (ru_r2 h2 rfl hW1.store fun a3 h3 => wp_ret (then_ret ?_))
    exact done _ 11 0 a3 _ _ h3 rfl rfl (hW1.set 11 0) (below_setCells _ _ _ hb1 (Nat.le_refl _)) (by rw [hR']; exact (by decide : (11 : Nat) ≠ 0)) (by rw [hR']; rfl)
  replace h34 : s[0]'hpos = 34 := Decidable.not_not.1 h34
  refine wp_seq (wp_seq (ru_r1_f h1 rfl (decide_eq_false he) hix (decide_eq_false (by rw [h34]; decide)) fun a2 h2 => wpo (h2.look 13 rfl) ?_))
  have hlit := rliteral_any s hs 0 hpos w1
  rw [Nat.zero_add] at hlit
  rw [hd, unquote, if_pos h34] at hR
  have hql : (s.data.toList.drop 1).length + 1 = s.size := by rw [List.length_drop, hsl]; omega
  cases hL : litL 0 1 [] (s.data.toList.drop 1) with
  | bad b =>
    rw [hL] at hR hlit
    have hR : R = .bad b := hR.symm
    have hbc : b.code = 11 := lit_code 0 _ _ _ _ b (Nat.le_refl _) hL
    refine wp_seq (ru_r3 h2 rfl hlit (fun w2 _ => WrB.store (c := 0) (p := 0) (Blk.new w2 _ _)) fun a3 w2 hb2 h3 => ?_)
    have y6 : WrB _ _ (b.code : Int) (b.place : Int) := WrB.set (c := 0) (p := 0) (Blk.new w2 26 #[.int .i64 0, .int .i64 0, .string ⟨#[]⟩]) b.code b.place
    have hb3 := below_setCells [.int .i64 (b.code : Int), .int .i64 (b.place : Int), .string ⟨#[]⟩] 0 _ (bl_alloc (Below.refl w2.heap.size w2) (.cells #[.int .i64 0, .int .i64 0, .string ⟨#[]⟩] 26)) (Nat.le_refl _)
    generalize World.setCells _ w2.heap.size 0 _ = w3 at y6 hb3 ⊢
    have hW3 : WrB w3 w.heap.size 0 0 := hW1.over (bl_trans hb2 hb3) hW1.lt
    have hb03 := bl_trans hb1 (bl_trans hb2 hb3)
    refine wp_seq (wp_block ?_)
    refine wp_seq (ru_r4 h3 rfl (lds1 Tryd.underlying24 rfl (y6.cell 0)) (decide_eq_true (by omega)) fun a4 h4 => wp_cond_true (h4.look 21 rfl) ?_)
    refine wp_seq (ru_r5 h4 rfl rfl y6.load (WrB.store (hW3.drewN 1)) fun a5 h5 => wp_ret (block_ret (then_ret ?_)))
    exact done _ _ _ a5 _ _ h5 rfl rfl (WrB.set (hW3.drewN 1) b.code b.place) (below_setCells _ _ _ (below_drewN hb03 1) (Nat.le_refl _)) (by rw [hR]; show b.code ≠ 0; omega) (by rw [hR]; rfl)
  | ok x =>
    rw [hL] at hR hlit
    have hR : (if x.2 < (s.data.toList.drop 1).length + 1 then .bad ⟨11, x.2⟩ else if 65536 < x.1.length then .bad ⟨13, 0⟩ else .ok x.1) = R := hR
    rw [hql] at hR
    refine wp_seq (ru_r3 h2 rfl hlit (fun w2 _ => WrB.store (c := 0) (p := 0) (Blk.new w2 _ _)) fun a3 w2 hb2 h3 => ?_)
    have y6 : WrB _ _ 0 0 := WrB.set (c := 0) (p := 0) (Blk.new w2 26 #[.int .i64 0, .int .i64 0, .string ⟨#[]⟩]) 0 0
    have hb3 := below_setCells [.int .i64 0, .int .i64 0, .string ⟨#[]⟩] 0 _ (bl_alloc (Below.refl w2.heap.size w2) (.cells #[.int .i64 0, .int .i64 0, .string ⟨#[]⟩] 26)) (Nat.le_refl _)
    generalize World.setCells _ w2.heap.size 0 _ = w3 at y6 hb3 ⊢
    have hW3 : WrB w3 w.heap.size 0 0 := hW1.over (bl_trans hb2 hb3) hW1.lt
    have hb03 := bl_trans hb1 (bl_trans hb2 hb3)
    refine wp_seq (wp_block ?_)
    refine wp_seq (ru_r4 h3 rfl (lds1 Tryd.underlying24 rfl (y6.cell 0)) (decide_eq_false (by simp)) fun a4 h4 => wp_cond_false (h4.look 21 rfl) ?_)
    by_cases e1 : x.2 < s.size
    · rw [if_pos e1] at hR
      refine wp_seq (ru_r6 h4 rfl rfl (decide_eq_true (by omega)) fun a5 h5 => wp_cond_true (h5.look 26 rfl) ?_)
      refine wp_seq (ru_r7 h5 rfl rfl hW3.store fun a6 h6 => wp_ret (block_ret (then_ret ?_)))
      exact done _ _ _ a6 _ _ h6 rfl rfl (hW3.set 11 x.2) (below_setCells _ _ _ hb03 (Nat.le_refl _)) (by rw [← hR]; exact (by decide : (11 : Nat) ≠ 0)) (by rw [← hR]; rfl)
    rw [if_neg e1] at hR
    refine wp_seq (ru_r6 h4 rfl rfl (decide_eq_false (by omega)) fun a5 h5 => wp_cond_false (h5.look 26 rfl) ?_)
    have hbz : (bs x.1).size = x.1.length := bs_size _
    by_cases e2 : 65536 < x.1.length
    · rw [if_pos e2] at hR
      refine wp_seq (ru_r8 h5 rfl (decide_eq_true (by omega)) fun a6 h6 => wp_cond_true (h6.look 33 rfl) ?_)
      refine wp_seq (ru_r9 h6 rfl hW3.store fun a7 h7 => wp_ret (block_ret (then_ret ?_)))
      exact done _ _ _ a7 _ _ h7 rfl rfl (hW3.set 13 0) (below_setCells _ _ _ hb03 (Nat.le_refl _)) (by rw [← hR]; exact (by decide : (13 : Nat) ≠ 0)) (by rw [← hR]; rfl)
    rw [if_neg e2] at hR
    refine wp_seq (ru_r8 h5 rfl (decide_eq_false (by omega)) fun a6 h6 => wpc_off (h6.look 33 rfl) (block_norm ?_))
    show Code.wp _ (Code.seq (r_ru 10) .ret) _ a6 w3
    refine wp_seq (ru_r10 h6 rfl rfl hW3.store fun a7 h7 => wp_ret ?_)
    exact done _ _ _ a7 _ _ h7 rfl rfl (hW3.set 0 0) (below_setCells _ _ _ hb03 (Nat.le_refl _)) (by rw [← hR]; trivial) (by rw [← hR]; rfl)

theorem unq_e (s : ByteArray) (hs : s.size ≤ 140737488355320) (w : World) : Calls Tryd.prog 18 #[.string s] w fun e w' => ∃ x ev, e = .returned (.tuple #[x, ev]) ∧ (x = .string (bs (txU (unquote s.data.toList))) ∧ Ev (baU (unquote s.data.toList)) w w' ev ∧ Below w.heap.size w w') :=
  (unq_p s hs w).mono fun e w' ⟨x, ev, he, hb, h⟩ => by
    refine ⟨x, ev, he, ?_⟩
    cases hr : unquote s.data.toList with
    | ok t =>
      rw [hr] at h
      exact ⟨h.1, h.2, hb⟩
    | bad b =>
      rw [hr] at h
      obtain ⟨rfl, g, rfl, hw⟩ := h
      exact ⟨rfl, ⟨g, rfl, hw⟩, hb⟩

set_option maxHeartbeats 4000000 in
theorem lexQuotes_any (s : ByteArray) (hs : s.size ≤ 35184372000000) (w : World) (hL : LexAt w) :
    Calls Tryd.prog 4 #[.string s] w fun e w' => e = .returned (.bool true) ∧ Below w.heap.size w w' := by
  refine calls_ev (vs := [.string s]) 65 Tryd.func4 lq_body (by kernel_rfl) (by simp) fun a0 h0 => ?_
  unfold lqBody
  refine wp_seq (lq_r0 h0 fun a1 h1 => ?_)
  refine wp_seq (lq_r1 h1 (known_any w hL) fun a2 w2 hb2 h2 => ?_)
  have hL2 := hL.below hb2 (Nat.le_refl _)
  have hru := runq_any s (by omega) w2
  have hun := fun w' => unq_e s (by omega) w'
  unfold unqV at hru
  generalize txU (unquote s.data.toList) = t at hru hun
  generalize baU (unquote s.data.toList) = b at hru hun
  refine wp_seq (lq_r2 h2 rfl hru (fun w3 _ => WrB.store (c := 0) (p := 0) (Blk.new w3 _ _)) fun a3 w3 hx h3 => ?_)
  obtain ⟨hk, hb3⟩ := hx
  have hW : WrB _ _ (bdC b) (bdP b) := WrB.set (c := 0) (p := 0) (Blk.new w3 26 #[.int .i64 0, .int .i64 0, .string ⟨#[]⟩]) (bdC b) (bdP b)
  have hb4 := below_setCells [.int .i64 (bdC b), .int .i64 (bdP b), .string ⟨#[]⟩] 0 _ (bl_alloc (Below.refl w3.heap.size w3) (.cells #[.int .i64 0, .int .i64 0, .string ⟨#[]⟩] 26)) (Nat.le_refl _)
  obtain ⟨g5, hg5⟩ : ∃ g, g = w3.heap.size := ⟨_, rfl⟩
  rw [← hg5] at h3 hW
  rw [← hg5]
  rw [show w3.heap.size = g5 from hg5.symm] at hb4
  generalize hw4 : World.setCells _ g5 0 _ = w4 at hW hb4 ⊢
  rw [hg5] at hb4
  have hbw4 := bl_trans (bl_trans hb2 hb3) hb4
  clear hw4
  refine wp_seq (lq_r3 h3 rfl (hun w4) fun a4 xa ea w5 hx h4 => ?_)
  obtain ⟨rfl, va5, hb5⟩ := hx
  refine wp_seq (lq_r4 h4 rfl (hun w5) fun a5 xb eb w6 hx h5 => ?_)
  obtain ⟨rfl, vb6, hb6⟩ := hx
  have hW6 : WrB w6 g5 _ _ := hW.over (bl_trans hb5 hb6) hW.lt
  refine wp_seq (lq_r5 h5 rfl rfl hW6.load (told_ev (va5.below hb6) hk) fun a6 w7 hb7 h6 => ?_)
  have hW7 : WrB w7 g5 _ _ := hW6.over hb7 hW6.lt
  refine wp_seq (lq_r6 h6 rfl rfl hW7.load (told_ev (vb6.below hb7) hk) fun a7 w8 hb8 h7 => ?_)
  have h68 := bl_trans hb7 hb8
  have h58 := bl_trans hb6 h68
  refine wp_seq (lq_r7 h7 rfl rfl (fresh_ev va5 (vb6.below h68) h58) fun a8 w9 hb9 h8 => ?_)
  have hb09 := bl_trans hbw4 (bl_trans hb5 (bl_trans h58 hb9))
  refine wp_seq (lq_r8_ttt h8 rfl rfl rfl rfl rfl rfl rfl rfl (quote_any s (by omega) w9) (fun w10 hb => (rquote_any s hs w10).mono fun _ _ h => ⟨h.1, bl_trans hb h.2⟩) (decide_eq_true rfl) (decide_eq_true rfl) (decide_eq_true rfl) fun a9 w10 w11 hb10 hb11 h9 => wp_ret ?_)
  exact ret1 rfl h9 rfl ⟨rfl, bl_trans hb09 hb11⟩
end Go.Proofs.YtpggcmlddmckcaaDoor
