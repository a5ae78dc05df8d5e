/-
  The reference's token and the plain one; contract of the reference's Scan. Contract of the reference's Scan. Written by an AI agent.
-/
import Derived.Test.YtpggcmlddmckcaaDoorRf5
import Derived.Test.YtpggcmlddmckcaaDoorLp
import Derived.Test.YtpggcmlddmckcaaDoorSc2
import Derived.Test.YtpggcmlddmckcaaDoorSt2
namespace Go.Proofs.YtpggcmlddmckcaaDoor
open Go.RowKit Go.Sort
set_option maxRecDepth 100000

theorem lit_code (at0 : Nat) : ∀ (n : Nat) (l : List UInt8) (i : Nat) (out : List UInt8) (b : Bad), l.length ≤ n → litL at0 i out l = .bad b → b.code = 11
  | _, [], i, out, b, _, e => by
    rw [litL] at e
    injection e with e
    subst e
    rfl
  | 0, _ :: _, _, _, _, h, _ => by simp at h
  | n + 1, c :: r, i, out, b, h, e => by
    have hr : r.length ≤ n := by simpa using h
    rw [litL] at e
    by_cases h1 : c = 34
    · rw [if_pos h1] at e; cases e
    rw [if_neg h1] at e
    by_cases h2 : c = 10
    · rw [if_pos h2] at e; injection e with e; subst e; rfl
    rw [if_neg h2] at e
    by_cases h3 : c = 92
    · rw [if_pos h3] at e
      by_cases h4 : (escL r).2 = 0
      · rw [if_pos h4] at e; injection e with e; subst e; rfl
      rw [if_neg h4] at e
      exact lit_code at0 n _ _ _ b (by simp; omega) e
    · rw [if_neg h3] at e
      exact lit_code at0 n _ _ _ b hr e
theorem let_34 : isLet 34 = false := by decide
theorem dig_34 : isDig 34 = false := by decide
/-- The two readers of a token say the same. -/
theorem one_rtok (i : Nat) (c : UInt8) (r : List UInt8) (h59 : c ≠ 59) :
    (∃ x, oneL i (c :: r) = .ok x ∧ rtok i (c :: r) = (x.1, i + x.2, ⟨0, 0⟩)) ∨ (∃ b, oneL i (c :: r) = .bad b ∧ b.code ≠ 0 ∧ (rtok i (c :: r)).2.2 = b) := by
  rw [oneL, rtok, if_neg h59]
  by_cases h34 : c = 34
  · subst h34
    rw [if_pos rfl, let_34, dig_34, if_neg Bool.false_ne_true, if_neg Bool.false_ne_true, if_pos rfl]
    cases hl : litL i (i + 1) [] r with
    | ok x =>
      have := (lit_len i r.length r (i + 1) [] x (Nat.le_refl _) hl).1
      exact .inl ⟨_, rfl, by simp only; congr 2; omega⟩
    | bad b => exact .inr ⟨b, rfl, by rw [lit_code i r.length r _ _ b (Nat.le_refl _) hl]; decide, rfl⟩
  rw [if_neg h34]
  by_cases hd : isDig c = true
  · rw [if_pos hd, dig_let c hd, if_neg Bool.false_ne_true, if_pos hd]
    cases hb : numBad (c :: r) with
    | true => exact .inr ⟨_, rfl, by simp, rfl⟩
    | false => exact .inl ⟨_, rfl, rfl⟩
  rw [if_neg hd]
  by_cases hl : isLet c = true
  · rw [if_pos hl, if_pos hl]
    by_cases h40 : 40 < runL true (c :: r)
    · rw [if_pos h40, if_pos h40]; exact .inr ⟨_, rfl, by simp, rfl⟩
    · rw [if_neg h40, if_neg h40]; exact .inl ⟨_, rfl, rfl⟩
  rw [if_neg hl, if_neg hl, if_neg hd, if_neg h34]
  cases hf : signsL.find? (fun x => x.isPrefixOf (c :: r)) with
  | some x => exact .inl ⟨_, rfl, rfl⟩
  | none => exact .inr ⟨_, rfl, by simp, rfl⟩
/-- What the reference's Scan hands back. -/
def RScan (r : Ans (List Tok)) (w : World) (e : Ending) (w' : World) : Prop := Below w.heap.size w w' ∧ match r with
  | .ok ts => ∃ v, e = .returned (.tuple #[v, .agg #[.int .i64 0, .int .i64 0, .string ⟨#[]⟩]]) ∧ Toks w' w.heap.size v ts
  | .bad b => e = .returned (.tuple #[.slice none 0 0, .agg #[.int .i64 (b.code : Int), .int .i64 (b.place : Int), .string ⟨#[]⟩]]) ∧ b.code ≠ 0
end Go.Proofs.YtpggcmlddmckcaaDoor

namespace Go.Proofs.YtpggcmlddmckcaaDoor
open Go.RowKit Go.Sort
set_option maxRecDepth 100000

set_option maxHeartbeats 4000000 in
/-- The reference's remark: the loop stops at its end. -/
theorem rs_inner (s : ByteArray) (hs : s.size ≤ 9223372036854775000) (v : Value) (g : Nat) (i : Nat) (hi : i ≤ s.size) (w : World) (a : Act) (h : Sl 98 a [(5, .int .i64 (i : Int)), (4, v), (3, .pointer (some ⟨g, 0, none⟩)), (0, .string s)]) (Q : Exit → Act → World → Prop)
    (hQ : ∀ a', Sl 98 a' [(5, .int .i64 ((i + remL (s.data.toList.drop i) : Nat) : Int)), (4, v), (3, .pointer (some ⟨g, 0, none⟩)), (0, .string s)] → Q .normal a' w) : (Code.block 3 (.loop rsL0)).wp Tryd.prog Q a w := by
  have hsl : s.data.toList.length = s.size := by simp
  refine wp_block ?_
  refine wp_loop (fun a' wr => ∃ (j : Nat), i ≤ j ∧ j ≤ s.size ∧ j + remL (s.data.toList.drop j) = i + remL (s.data.toList.drop i) ∧ Sl 98 a' [(5, .int .i64 (j : Int)), (4, v), (3, .pointer (some ⟨g, 0, none⟩)), (0, .string s)] ∧ w = wr) (fun a' _ => muTo s.size (slot a' 5)) ⟨i, Nat.le_refl _, hi, rfl, h, rfl⟩ ?_
  rintro a1 _ ⟨j, h1, h2, h3, h4, rfl⟩
  rw [h4.look 5 rfl, muTo_int]
  unfold rsL0
  refine wp_seq (wp_seq ?_)
  by_cases hlt : j < s.size
  · have hix := fun w => idx_str hlt (x := (j : Int)) rfl w
    have hd := drop_list s j hlt
    by_cases hc : s[j]'hlt = 10
    · rw [hd, rem_stop hc] at h3
      refine rs_r21_t h4 rfl rfl (decide_eq_true (by omega)) hix (decide_eq_false (not_not_intro (u8_eq hc rfl))) fun a2 h5 => wpx (h5.look 90 rfl) ?_
      refine then_exit (in_block' ?_)
      exact hQ a2 ((h5.to (l0 := [(5, .int .i64 (j : Int)), (4, v), (3, .pointer (some ⟨g, 0, none⟩)), (0, .string s)]) ⟨rfl, rfl, rfl, rfl, trivial⟩).to ⟨by rw [show i + remL (s.data.toList.drop i) = j by omega]; rfl, rfl, rfl, rfl, trivial⟩)
    · rw [hd, rem_cons hc] at h3
      refine rs_r21_t h4 rfl rfl (decide_eq_true (by omega)) hix (decide_eq_true (u8_ne hc rfl)) fun a2 h5 => wpn (h5.look 90 rfl) ?_
      refine wp_block ?_
      refine wpl (rs_r22 h5 rfl (by omega) fun a3 h6 => ?_)
      refine ⟨⟨j + 1, by omega, by omega, by omega, h6.to ⟨rfl, rfl, rfl, rfl, trivial⟩, rfl⟩, ?_⟩
      rw [h6.look 5 rfl]
      show muTo s.size (.int .i64 ((j + 1 : Nat) : Int)) < _
      rw [muTo_int]
      omega
  · refine rs_r21_f h4 rfl rfl (decide_eq_false (by omega)) fun a2 h5 => wpx (h5.look 90 rfl) ?_
    refine then_exit (in_block' ?_)
    rw [List.drop_of_length_le (by omega)] at h3
    have h3 : j = i + remL (s.data.toList.drop i) := h3
    exact hQ a2 ((h5.to (l0 := [(5, .int .i64 (j : Int)), (4, v), (3, .pointer (some ⟨g, 0, none⟩)), (0, .string s)]) ⟨rfl, rfl, rfl, rfl, trivial⟩).to ⟨by rw [← h3]; rfl, rfl, rfl, rfl, trivial⟩)

/-- The invariant of the reference's Scan. -/
def RsI (s : ByteArray) (w1 : World) (g : Nat) (a : Act) (wr : World) : Prop := ∃ (i : Nat) (ts : List Tok) (v : Value), i ≤ s.size ∧ ts.length ≤ i ∧ (∀ t ∈ ts, TokGood t) ∧ Toks wr w1.heap.size v ts ∧ Below w1.heap.size w1 wr ∧ Far s.data.toList i ts ∧
  Sl 98 a [(5, .int .i64 (i : Int)), (4, v), (3, .pointer (some ⟨g, 0, none⟩)), (0, .string s)]
theorem own_up {w : World} {B B' n sz : Nat} {t : TypeId} {v : Value} {xs : List Value} (h : w.ownsRow B' t sz v n xs) (hb : B ≤ B') : w.ownsRow B t sz v n xs := by
  refine ⟨h.1, ?_⟩
  rcases h.2 with h0 | ⟨g, cap, cur, rfl, hB, hh, h1⟩
  · exact .inl h0
  · exact .inr ⟨g, cap, cur, rfl, Nat.le_trans hb hB, hh, h1⟩
theorem own_far {w : World} {B sz n g : Nat} {e : TypeId} {v : Value} {xs : List Value} (h : w.ownsRow B e sz v n xs) (hg : g < B) (o : Nat) (vs : List Value) : (w.setCells g o vs).ownsRow B e sz v n xs := by
  refine ⟨h.1, ?_⟩
  rcases h.2 with h0 | ⟨b, cap, cur, rfl, hB, hh, h1⟩
  · exact .inl h0
  · exact .inr ⟨b, cap, cur, rfl, hB, Blk.farL (by omega) vs o w hh, h1⟩
theorem Blk.over {w w' : World} {B g : Nat} {t : TypeId} {cs : Array Value} (h : Blk w g t cs) (hb : Below B w w') (hg : g < B) : Blk w' g t cs := (hb.block g hg).trans h
theorem good_snoc {ts : List Tok} {t : Tok} (h : ∀ x ∈ ts, TokGood x) (ht : TokGood t) : ∀ x ∈ ts ++ [t], TokGood x := fun x hx => by
  rcases List.mem_append.1 hx with hx | hx
  · exact h x hx
  · rw [List.mem_singleton] at hx
    rw [hx]
    exact ht
theorem end_good (i : Nat) : TokGood ⟨1, [], i⟩ := ⟨fun h => by simp at h, fun h => by simp at h⟩
theorem good_feed {ts : List Tok} (i : Nat) (h : ∀ x ∈ ts, TokGood x) : ∀ x ∈ (if lastE ts then ts ++ [⟨1, [], i⟩] else ts), TokGood x := by
  cases lastE ts with
  | true => exact good_snoc h (end_good i)
  | false => exact h
theorem len_feed (ts : List Tok) (i : Nat) : (if lastE ts then ts ++ [⟨1, [], i⟩] else ts).length ≤ ts.length + 1 := by
  cases lastE ts with
  | true => simp
  | false => simp

set_option maxHeartbeats 8000000 in
theorem rscan_any (s : ByteArray) (w : World) : Calls Tryd.prog 11 #[.string s] w (RScan (scan s.data.toList) w) := by
  have hsl : s.data.toList.length = s.size := by simp
  refine calls_ev (vs := [.string s]) 98 Tryd.func11 rs_body (by kernel_rfl) (by simp) fun a0 h0 => ?_
  unfold rsBody
  refine wp_seq (rs_r0 h0 fun a1 h1 => ?_)
  have hW := Blk.new w 26 #[.int .i64 0, .int .i64 0, .string ⟨#[]⟩]
  have hb1 := bl_alloc (Below.refl w.heap.size w) (.cells #[.int .i64 0, .int .i64 0, .string ⟨#[]⟩] 26)
  have hW : WrB _ _ 0 0 := hW
  have hz1 : w.heap.size < (w.alloc (.cells #[.int .i64 0, .int .i64 0, .string ⟨#[]⟩] 26)).heap.size := by simp
  generalize w.alloc (.cells #[.int .i64 0, .int .i64 0, .string ⟨#[]⟩] 26) = w1 at hW hb1 hz1 ⊢
  obtain ⟨g3, hg3⟩ : ∃ g, g = w.heap.size := ⟨_, rfl⟩
  rw [← hg3] at h1 hW hz1
  by_cases hlong : 60000 < s.size
  · rw [show scan s.data.toList = .bad ⟨13, 0⟩ by rw [scan, if_pos (by omega)]]
    refine wp_seq (wp_seq (rs_r1 h1 rfl (decide_eq_true (by omega)) fun a2 h2 => wp_cond_true (h2.look 12 rfl) ?_))
    refine wp_seq (rs_r2 h2 rfl hW.store fun a3 h3 => wp_ret ?_)
    repeat (first | with_reducible refine then_ret ?_ | with_reducible refine block_ret ?_)
    exact ret_tc rfl h3 rfl rfl (hW.set 13 0).load ⟨below_setCells _ _ _ hb1 (by omega), rfl, by simp⟩
  have hscan : scan s.data.toList = scanL 0 false s.data.toList := by rw [scan, if_neg (by omega)]
  rw [hscan]
  refine wp_seq (wp_seq (rs_r1 h1 rfl (decide_eq_false (by omega)) fun a2 h2 => wpc_off (h2.look 12 rfl) ?_))
  refine wp_seq (rs_r3 h2 fun a3 h3 => ?_)
  refine wp_seq (wp_seq (rs_r4 h3 fun a4 h4 => ?_))
  refine wp_block ?_
  refine wp_loop (RsI s w1 g3) (fun a' _ => muTo s.size (slot a' 5)) ⟨0, [], .slice none 0 0, by omega, Nat.le_refl _, (by simp), ⟨rfl, .inl ⟨rfl, rfl⟩⟩, Below.refl _ _, Far.start _, h4.to ⟨rfl, rfl, rfl, rfl, trivial⟩⟩ ?_
  rintro a5 wr ⟨i, ts, v, hi, hl, hg, hT, hb, hF, h5⟩
  rw [h5.look 5 rfl, muTo_int]
  have hBz := hb.size
  have next : ∀ a' w' (i' : Nat) (ts' : List Tok) (v' : Value), i < s.size → i < i' → i' ≤ s.size → ts'.length ≤ i' → (∀ t ∈ ts', TokGood t) → Toks w' w1.heap.size v' ts' → Below w1.heap.size w1 w' → Far s.data.toList i' ts' → Sl 98 a' [(5, .int .i64 (i' : Int)), (4, v'), (3, .pointer (some ⟨g3, 0, none⟩)), (0, .string s)] →
      (RsI s w1 g3 a' w' ∧ muTo s.size (slot a' 5) < s.size - i) := fun a' w' i' ts' v' q0 q1 q2 q3 q4 q5 q6 q7 q8 => ⟨⟨i', ts', v', q2, q3, q4, q5, q6, q7, q8⟩, by
    rw [q8.look 5 rfl, muTo_int]
    omega⟩
  unfold rsL1
  refine wp_seq (wp_seq ?_)
  by_cases hlt : i < s.size
  · refine rs_r5 h5 rfl rfl (decide_eq_true (by omega)) fun a6 h6 => wpn (h6.look 17 rfl) ?_
    refine wp_block ?_
    have hix := fun w => idx_str hlt (x := (i : Int)) rfl w
    have hdr := drop_list s i hlt
    have hi' : i < s.data.toList.length := by omega
    have htk := rtoken_any s (by omega) i hlt wr
    refine wp_seq (rs_r6 h6 rfl rfl hix fun a7 h7 => ?_)
    refine wp_block ?_
    obtain ⟨c, hc⟩ : ∃ c, s[i]'hlt = c := ⟨_, rfl⟩
    rw [hc] at hix hdr h7
    rw [hdr] at htk
    by_cases h32 : c = 32
    · refine wp_seq (rs_r12_t h7 rfl (decide_eq_true (u8_eq h32 rfl)) fun a8 h8 => wp_cond_true (h8.look 37 rfl) ?_)
      refine wpl (rs_r13 h8 rfl (by omega) fun a9 h9 => ?_)
      exact next a9 wr (i + 1) ts v hlt (by omega) (by omega) (by omega) hg hT hb (hF.blank hi' hdr (by rw [h32]; decide) (.inl h32)) (h9.to ⟨rfl, rfl, rfl, rfl, trivial⟩)
    by_cases h9' : c = 9
    · refine wp_seq (rs_r12_f h7 rfl (decide_eq_false (u8_ne h32 rfl)) (decide_eq_true (u8_eq h9' rfl)) fun a8 h8 => wp_cond_true (h8.look 37 rfl) ?_)
      refine wpl (rs_r13 h8 rfl (by omega) fun a9 h9 => ?_)
      exact next a9 wr (i + 1) ts v hlt (by omega) (by omega) (by omega) hg hT hb (hF.blank hi' hdr (by rw [h9']; decide) (.inr h9')) (h9.to ⟨rfl, rfl, rfl, rfl, trivial⟩)
    have hbl : ¬ (c = 32 ∨ c = 9) := by simp [h32, h9']
    refine wp_seq (rs_r12_f h7 rfl (decide_eq_false (u8_ne h32 rfl)) (decide_eq_false (u8_ne h9' rfl)) fun a8 h8 => wp_cond_false (h8.look 37 rfl) ?_)
    by_cases h10 : c = 10
    · refine wp_seq (rs_r14 h8 rfl (decide_eq_true (u8_eq h10 rfl)) fun a9 h9 => wp_cond_true (h9.look 46 rfl) ?_)
      refine wp_seq (rs_r15 h9 rfl rfl (feed_any ts (by omega) hg i w1.heap.size v wr hT hBz) fun a10 x w10 hx h10' => ?_)
      refine wpl (rs_r16 h10' rfl (by omega) fun a11 h11 => ?_)
      have := len_feed ts i
      exact next a11 w10 (i + 1) _ x hlt (by omega) (by omega) (by omega) (good_feed i hg) hx.1 (hb.trans hx.2) (hF.feed hi' (by rw [hdr, h10])) (h11.to ⟨rfl, rfl, rfl, rfl, trivial⟩)
    refine wp_seq (rs_r14 h8 rfl (decide_eq_false (u8_ne h10 rfl)) fun a9 h9 => wp_cond_false (h9.look 46 rfl) ?_)
    by_cases h59 : c = 59
    · have h47 : ¬ (c = 47 ∧ (s.data.toList.drop (i + 1)).head? = some 47) := by rw [h59]; exact fun h => absurd h.1 (by decide)
      refine wp_seq (rs_r17 h9 rfl (decide_eq_true (u8_eq h59 rfl)) fun a10 h10' => wp_cond_true (h10'.look 54 rfl) ?_)
      refine wp_seq (rs_r18 h10' rfl rfl (fun ty => app_tok ⟨1, [], i⟩ hT hBz (by omega) ty) fun a11 x w11 hx h11 => ?_)
      refine wpl (rs_r19 h11 rfl (by omega) fun a12 h12 => ?_)
      exact next a12 w11 (i + 1) (ts ++ [⟨1, [], i⟩]) x hlt (by omega) (by omega) (by simp; omega) (good_snoc hg (end_good i)) hx.1 (hb.trans (own_grew hT hBz hx.2)) (hF.token (x := (⟨1, [], i⟩, 1)) hi' hdr h10 hbl h47 (by rw [oneL, if_pos h59])) (h12.to ⟨rfl, rfl, rfl, rfl, trivial⟩)
    refine wp_seq (rs_r17 h9 rfl (decide_eq_false (u8_ne h59 rfl)) fun a10 h10' => wp_cond_false (h10'.look 54 rfl) ?_)
    have tok : ∀ a11, Sl 98 a11 [(64, .bool false), (6, .int .u8 (c.toNat : Int)), (5, .int .i64 (i : Int)), (4, v), (3, .pointer (some ⟨g3, 0, none⟩)), (0, .string s)] → ¬ (c = 47 ∧ (s.data.toList.drop (i + 1)).head? = some 47) → ∀ Q : Exit → Act → World → Prop,
        (∀ a' w', (RsI s w1 g3 a' w' ∧ muTo s.size (slot a' 5) < s.size - i) → Q .normal a' w') → (∀ a' w', bodyPost Tryd.prog Tryd.f11 (RScan (scanL 0 false s.data.toList) w) .ret a' w' → Q .ret a' w') →
        (Code.seq (r_rs 7) (.seq (.seq (r_rs 8) (.cond (.tmp 30) (.seq (r_rs 9) .ret) .skip)) (.seq (r_rs 10) (r_rs 11)))).wp Tryd.prog Q a11 wr := fun a11 h11 h47 Q hQ1 hQ2 => by
      have hone := one_rtok i c (s.data.toList.drop (i + 1)) h59
      obtain ⟨V, hV⟩ : ∃ V, V = rtok i (c :: s.data.toList.drop (i + 1)) := ⟨_, rfl⟩
      rw [← hV] at htk hone
      obtain ⟨t, nx, b⟩ := V
      have htk : Calls Tryd.prog 32 #[.string s, .int .i64 (i : Int)] wr fun e w' => e = .returned (.tuple #[.agg #[.int .i64 (t.kind : Int), .string (bs t.text), .int .i64 (t.place : Int)], .int .i64 (nx : Int), .agg #[.int .i64 (b.code : Int), .int .i64 (b.place : Int), .string ⟨#[]⟩]]) ∧ Below wr.heap.size wr w' := htk
      have hA := hb.size
      refine wp_seq (rs_r7 h11 rfl rfl htk (fun w2 _ => TokZ.store (x := []) ((Blk.new w2 _ #[.int .i64 0, .string ⟨#[]⟩, .int .i64 0]).alloc _)) (fun w2 _ => WrB.store (c := 0) (p := 0) (Blk.farL (by simp) _ _ _ (Blk.new (w2.alloc (.cells #[.int .i64 0, .string ⟨#[]⟩, .int .i64 0] 48)) _ _))) fun a12 w12 hw12 h12 => ?_)
      have y7 : TokZ _ _ _ _ _ := Blk.farL (g := w12.heap.size) (b := (w12.alloc (.cells #[.int .i64 0, .string ⟨#[]⟩, .int .i64 0] 48)).heap.size) (by simp) [.int .i64 (b.code : Int), .int .i64 (b.place : Int), .string ⟨#[]⟩] 0 _ (TokZ.set (x := []) ((Blk.new w12 48 #[.int .i64 0, .string ⟨#[]⟩, .int .i64 0]).alloc (.cells #[.int .i64 0, .int .i64 0, .string ⟨#[]⟩] 26)) t.kind t.text t.place)
      have y9 : WrB _ _ _ _ := WrB.set (c := 0) (p := 0) (Blk.farL (b := w12.heap.size) (by simp) [.int .i64 (t.kind : Int), .string (bs t.text), .int .i64 (t.place : Int)] 0 _ (Blk.new (w12.alloc (.cells #[.int .i64 0, .string ⟨#[]⟩, .int .i64 0] 48)) 26 #[.int .i64 0, .int .i64 0, .string ⟨#[]⟩])) b.code b.place
      have yb := below_setCells [.int .i64 (b.code : Int), .int .i64 (b.place : Int), .string ⟨#[]⟩] 0 _ (below_setCells (b := w12.heap.size) [.int .i64 (t.kind : Int), .string (bs t.text), .int .i64 (t.place : Int)] 0 _ (bl_alloc (bl_alloc hw12 (.cells #[.int .i64 0, .string ⟨#[]⟩, .int .i64 0] 48)) (.cells #[.int .i64 0, .int .i64 0, .string ⟨#[]⟩] 26)) hw12.size) (b := (w12.alloc (.cells #[.int .i64 0, .string ⟨#[]⟩, .int .i64 0] 48)).heap.size) (by have := hw12.size; simp; omega)
      obtain ⟨g7, hg7⟩ : ∃ g, g = w12.heap.size := ⟨_, rfl⟩
      obtain ⟨g9, hg9⟩ : ∃ g, g = (w12.alloc (.cells #[.int .i64 0, .string ⟨#[]⟩, .int .i64 0] 48)).heap.size := ⟨_, rfl⟩
      rw [← hg7, ← hg9] at h12 y7 y9 yb
      rw [← hg7, ← hg9]
      generalize World.setCells _ g9 0 _ = w13 at y7 y9 yb ⊢
      have yT := own_below' hT yb
      have yB := hb.trans (yb.mono hA)
      have yz := yB.size
      rcases hone with ⟨x, hx, e⟩ | ⟨bb, hx, hn, e⟩
      · simp only [Prod.mk.injEq] at e
        obtain ⟨rfl, rfl, rfl⟩ := e
        refine wp_seq (wp_seq (rs_r8 h12 rfl (lds1 Tryd.underlying24 rfl (y9.cell 0)) (decide_eq_false (by simp)) fun a14 h14 => wpc_off (h14.look 30 rfl) ?_))
        refine wp_seq (rs_r10 h14 rfl rfl y7.load (fun ty => app_tok x.1 yT yz (by omega) ty) fun a15 z w15 hz h15 => ?_)
        refine wpl (rs_r11 h15 rfl fun a16 h16 => hQ1 a16 w15 ?_)
        have hxl := one_len i _ x hx
        rw [← hdr, List.length_drop] at hxl
        exact next a16 w15 (i + x.2) (ts ++ [x.1]) z hlt (by omega) (by omega) (by simp; omega) (good_snoc hg (one_good i _ x hx)) hz.1 (yB.trans (own_grew yT yz hz.2)) (hF.token hi' hdr h10 hbl h47 hx) (h16.to ⟨rfl, rfl, rfl, rfl, trivial⟩)
      · have e : b = bb := e
        subst e
        refine wp_seq (wp_seq (rs_r8 h12 rfl (lds1 Tryd.underlying24 rfl (y9.cell 0)) (decide_eq_true (by simpa using hn)) fun a14 h14 => wp_cond_true (h14.look 30 rfl) ?_))
        have yW : WrB w13 g3 0 0 := Blk.over hW yB hz1
        refine wp_seq (rs_r9 h14 rfl rfl y9.load (WrB.store (c := 0) (p := 0) (Blk.drewN yW 1)) fun a15 h15 => wp_ret ?_)
        refine hQ2 _ _ (ret_tc rfl h15 rfl rfl (WrB.set (c := 0) (p := 0) (Blk.drewN yW 1) b.code b.place).load ?_)
        rw [hF.wrong hi' hdr h10 hbl h47 hx]
        exact ⟨below_setCells _ _ _ (below_drewN (hb1.trans (yB.mono (by omega))) 1) (by omega), rfl, hn⟩
    by_cases h47 : c = 47
    · by_cases hlt2 : i + 1 < s.size
      · have hix2 := fun w => idx_str hlt2 (x := (i : Int) + 1) (by omega) w
        have hhd : (s.data.toList.drop (i + 1)).head? = some (s[i + 1]'hlt2) := by
          rw [head_drop, List.getElem?_eq_getElem (by omega)]
          simp
          rfl
        by_cases h47b : s[i + 1]'hlt2 = 47
        · have hcom : c = 47 ∧ (s.data.toList.drop (i + 1)).head? = some 47 := ⟨h47, by rw [hhd, h47b]⟩
          refine wp_seq (rs_r20_tt h10' rfl rfl rfl (decide_eq_true (u8_eq h47 rfl)) (by omega) (decide_eq_true (by omega)) hix2 (decide_eq_true (u8_eq h47b rfl)) fun a11 h11 => wp_cond_true (h11.look 64 rfl) ?_)
          have hrem : remL (s.data.toList.drop i) = remL (s.data.toList.drop (i + 1)) + 1 := by rw [hdr, rem_cons h10]
          have hle : remL (s.data.toList.drop i) ≤ (s.data.toList.drop i).length := (List.takeWhile_sublist _).length_le
          rw [List.length_drop] at hle
          have hF' := hF.remark hi' hdr h10 hbl hcom
          rw [show i + 1 + remL (s.data.toList.drop (i + 1)) = i + remL (s.data.toList.drop i) by omega] at hF'
          refine rs_inner s (by omega) v g3 i (by omega) wr a11 (h11.to ⟨rfl, rfl, rfl, rfl, trivial⟩) _ fun a12 h12 => ?_
          exact next a12 wr _ ts v hlt (by omega) (by omega) (by omega) hg hT hb hF' h12
        · refine wp_seq (rs_r20_tt h10' rfl rfl rfl (decide_eq_true (u8_eq h47 rfl)) (by omega) (decide_eq_true (by omega)) hix2 (decide_eq_false (u8_ne h47b rfl)) fun a11 h11 => wp_cond_false (h11.look 64 rfl) ?_)
          exact tok a11 (h11.to ⟨rfl, rfl, rfl, rfl, rfl, rfl, trivial⟩) (fun h => h47b (by have := h.2; rw [hhd] at this; injection this)) _ (fun a' w' h => h) (fun a' w' h => h)
      · refine wp_seq (rs_r20_tf h10' rfl rfl rfl (decide_eq_true (u8_eq h47 rfl)) (by omega) (decide_eq_false (by omega)) fun a11 h11 => wp_cond_false (h11.look 64 rfl) ?_)
        exact tok a11 (h11.to ⟨rfl, rfl, rfl, rfl, rfl, rfl, trivial⟩) (fun h => by
          have := h.2
          rw [head_drop, List.getElem?_eq_none (by omega)] at this
          cases this) _ (fun a' w' h => h) (fun a' w' h => h)
    · refine wp_seq (rs_r20_f h10' rfl (decide_eq_false (u8_ne h47 rfl)) fun a11 h11 => wp_cond_false (h11.look 64 rfl) ?_)
      exact tok a11 (h11.to ⟨rfl, rfl, rfl, rfl, rfl, rfl, trivial⟩) (fun h => h47 h.1) _ (fun a' w' h => h) (fun a' w' h => h)
  · refine rs_r5 h5 rfl rfl (decide_eq_false (by omega)) fun a6 h6 => wpx (h6.look 17 rfl) ?_
    refine then_exit (in_block' ?_)
    have hie : i = s.data.toList.length := by omega
    subst hie
    have hd := (hF.last).done (by omega)
    have hW' : ∀ w', Below w1.heap.size w1 w' → WrB w' g3 0 0 := fun w' h => Blk.over hW h hz1
    have hfd := feed_any ts (by omega) hg s.data.toList.length w1.heap.size v wr hT hBz
    have hsl' : (s.data.toList.length : Int) = (s.size : Int) := by rw [hsl]
    have hfd2 := hfd
    rw [hsl'] at hfd2
    refine wp_seq (rs_r23 (C0 := fun x w' => Toks w' w1.heap.size x (if lastE ts then ts ++ [⟨1, [], s.data.toList.length⟩] else ts) ∧ Below w1.heap.size w1 w' ∧ Below w1.heap.size wr w') h6 rfl rfl rfl (hfd2.mono fun e w' ⟨x, q1, q2, q3⟩ => ⟨x, q1, q2, hb.trans q3, q3⟩) (fun x w2 hx => (hW' w2 hx.2.1).store) fun a7 x w7 hx h7 => wp_ret ?_)
    repeat (first | with_reducible refine then_ret ?_ | with_reducible refine block_ret ?_)
    refine ret_tc rfl h7 rfl rfl ((hW' w7 hx.2.1).set 0 0).load ?_
    rw [hd]
    exact ⟨below_setCells _ _ _ (hb1.trans (hx.2.1.mono (by omega))) (by omega), x, rfl, own_up (own_far hx.1 hz1 _ _) (by omega)⟩
end Go.Proofs.YtpggcmlddmckcaaDoor
