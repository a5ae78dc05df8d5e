/-
  Contract of literal in package lex. Written by an AI agent.
-/
import Derived.Test.YtpggcmlddmckcaaDoorLi1
namespace Go.Proofs.YtpggcmlddmckcaaDoor
open Go.RowKit Go.Sort
set_option maxRecDepth 100000

theorem then_exit {id : Nat} {K : Act → World → Prop} {Q : Exit → Act → World → Prop} {a : Act} {w : World} (h : Q (.exit id) a w) : Exit.then K Q (.exit id) a w := h
theorem in_block' {id : Nat} {Q : Exit → Act → World → Prop} {a : Act} {w : World} (h : Q .normal a w) : Exit.inBlock id Q (.exit id) a w := by simpa [Exit.inBlock] using h

noncomputable def liArm : Code := .seq (r_li 12) (.seq (.seq (r_li 13) (.cond (.tmp 49) (.seq (r_li 14) .ret) .skip)) (.seq (r_li 15) (r_li 16)))
noncomputable def liTurn : Code := .seq (r_li 7) (.cond (.tmp 28) (.seq (r_li 8) .ret) (.seq (r_li 9) (.cond (.tmp 34) (.seq (r_li 10) .ret) (.seq (r_li 11) (.cond (.tmp 38) liArm (.seq (r_li 5) (r_li 6)))))))
noncomputable def liLoop : Code := .seq (.seq (r_li 3) (.cond (.tmp 16) .skip (.exit 0))) (.block 1 (.seq (r_li 4) (.block 2 liTurn)))
noncomputable def liBody : Code := .seq (r_li 0) (.seq (r_li 1) (.seq (.seq (r_li 2) (.block 0 (.loop liLoop))) (.seq (r_li 17) .ret)))
theorem li_body : Tryd.f39.body = some liBody := by kernel_rfl

/-- What a reader of a literal hands back. -/
def LitR (r : Ans (List UInt8 × Nat)) (w : World) (e : Ending) (w' : World) : Prop := Below w.heap.size w w' ∧ match r with
  | .ok x => e = .returned (.tuple #[.string (bs x.1), .int .i64 (x.2 : Int), .pointer none])
  | .bad b => ∃ g, e = .returned (.tuple #[.string ⟨#[]⟩, .int .i64 0, .pointer (some ⟨g, 0, none⟩)]) ∧ WrongB w w' g b
theorem LitR.ok {x : List UInt8 × Nat} {w w' : World} {e : Ending} (hb : Below w.heap.size w w') (he : e = .returned (.tuple #[.string (bs x.1), .int .i64 (x.2 : Int), .pointer none])) : LitR (.ok x) w e w' := ⟨hb, he⟩
theorem LitR.bad {b : Bad} {w w' : World} {e : Ending} (hb : Below w.heap.size w w') (g : Nat) (he : e = .returned (.tuple #[.string ⟨#[]⟩, .int .i64 0, .pointer (some ⟨g, 0, none⟩)])) (hg : WrongB w w' g b) : LitR (.bad b) w e w' := ⟨hb, g, he, hg⟩
theorem li_done {R : Ans (List UInt8 × Nat)} {w w3 : World} {a4 : Act} {v4 v5 v6 : Value} (hd : a4.defers = []) (h4 : slot a4 4 = v4) (h5 : slot a4 5 = v5) (h6 : slot a4 6 = v6) (hr : LitR R w (.returned (.tuple #[v4, v5, v6])) w3) :
    bodyPost Tryd.prog Tryd.f39 (LitR R w) .ret a4 w3 :=
  bodyPost_ret (v := .tuple #[v4, v5, v6]) (by
    unfold slot at h4 h5 h6
    simp only [Array.getD_eq_getD_getElem?] at h4 h5 h6
    simp [results, Tryd.results39, h4, h5, h6]) hd hr

theorem own_below {w w' : World} {B n sz : Nat} {t : TypeId} {v : Value} {xs : List Value} (h : w.ownsRow B t sz v n xs) (hb : Below w.heap.size w w') : w'.ownsRow B t sz v n xs :=
  h.kept (row := none) ⟨hb.os, hb.tape, hb.output, hb.size, fun k hk _ => hb.block k hk⟩ (by
    cases hq : v.ownBlock with
    | none => exact .inl rfl
    | some k => exact .inr (by simp))
theorem esc_three (l : List UInt8) : (escL l).2 ≤ 3 := by
  cases l with
  | nil => simp [escL]
  | cons c r =>
    simp only [escL]
    repeat' split
    all_goals simp
theorem li_loop (s : ByteArray) (hs : s.size ≤ 9223372036854775000) (a0 : Nat) (w : World) (R : Ans (List UInt8 × Nat)) (hbd : s.size ≤ 140737488355327 ∨ ∃ x, R = .ok x ∧ x.2 ≤ 140737488355327) (a5 : Act) (wr : World) (i : Nat) (out : List UInt8) (v : Value) (hi0 : a0 < i) (hi : i ≤ s.size) (hol : out.length ≤ i)
    (h5 : Sl 62 a5 [(8, .int .i64 (i : Int)), (7, v), (1, .int .i64 (a0 : Int)), (0, .string s)]) (hown : wr.ownsRow w.heap.size 5 1 v out.length (out.map byteV)) (hb : Below w.heap.size w wr) (hR : R = litL a0 i out (s.data.toList.drop i))
    (Q : Exit → Act → World → Prop) (hQ1 : ∀ a' w' (i' : Nat) (out' : List UInt8) (v' : Value), i < i' → i' ≤ s.size → out'.length ≤ i' → Sl 62 a' [(8, .int .i64 (i' : Int)), (7, v'), (1, .int .i64 (a0 : Int)), (0, .string s)] → w'.ownsRow w.heap.size 5 1 v' out'.length (out'.map byteV) → Below w.heap.size w w' → R = litL a0 i' out' (s.data.toList.drop i') → Q .normal a' w')
    (hQ2 : ∀ a' w', bodyPost Tryd.prog Tryd.f39 (LitR R w) .ret a' w' → Q .ret a' w') (hQ3 : ∀ a', Sl 62 a' [(8, .int .i64 (i : Int)), (7, v), (1, .int .i64 (a0 : Int)), (0, .string s)] → s.size = i → Q (.exit 0) a' wr) : liLoop.wp Tryd.prog Q a5 wr := by
  have hbz := hb.size
  unfold liLoop
  refine wp_seq (wp_seq ?_)
  by_cases hlt : i < s.size
  · have hi2 : i ≤ 140737488355326 := by
      rcases hbd with hbd | ⟨x, hx, hbd⟩
      · omega
      · have := lit_len a0 _ _ _ _ x (Nat.le_refl _) (hR.symm.trans hx)
        omega
    refine li_r3T a5 wr _ _ _ h5 rfl s i (by omega) rfl rfl fun a6 h6 => ?_
    refine wpc_on (h6.look 16 rfl) ?_
    refine wp_block ?_
    have hix := fun w => idx_str hlt (x := (i : Int)) rfl w
    have hdr := drop_str s i hlt
    obtain ⟨c, hc⟩ : ∃ c, s[i]'hlt = c := ⟨_, rfl⟩
    rw [hc] at hix hdr
    refine wp_seq (li_r4 a6 wr _ _ _ h6.tl rfl s i _ hix rfl rfl fun a7 h7 => ?_)
    refine wp_block ?_
    rw [hdr, litL] at hR
    unfold liTurn
    have b34 : ((c.toNat : Int) == 34) = decide (c = 34) := by rw [show (34 : Int) = ((34 : UInt8).toNat : Int) from rfl, byte_eq]
    have b10 : ((c.toNat : Int) == 10) = decide (c = 10) := by rw [show (10 : Int) = ((10 : UInt8).toNat : Int) from rfl, byte_eq]
    have b92 : ((c.toNat : Int) == 92) = decide (c = 92) := by rw [show (92 : Int) = ((92 : UInt8).toNat : Int) from rfl, byte_eq]
    refine wp_seq (li_r7 a7 wr _ _ _ h7 rfl _ _ b34 rfl fun a8 h8 => ?_)
    by_cases h34 : c = 34
    · rw [decide_eq_true h34] at h8
      rw [if_pos h34] at hR
      refine wp_cond_true (h8.look 28 rfl) ?_
      refine wp_seq (li_r8 a8 wr _ _ _ h8.none rfl v (bs out) i (by omega) (by omega) (own_string hown) (h8.look 7 rfl) (h8.look 8 rfl) fun a9 h9 => wp_ret ?_)
      refine hQ2 _ _ (li_done h9.defers (h9.look 4 rfl) (h9.look 5 rfl) (h9.look 6 rfl) ?_)
      rw [hR]
      exact LitR.ok hb (by simp)
    rw [decide_eq_false h34] at h8
    rw [if_neg h34] at hR
    refine wp_cond_false (h8.look 28 rfl) ?_
    refine wp_seq (li_r9 a8 wr _ _ _ h8.tl rfl _ _ b10 rfl fun a9 h9 => ?_)
    by_cases h10 : c = 10
    · rw [decide_eq_true h10] at h9
      rw [if_pos h10] at hR
      refine wp_cond_true (h9.look 34 rfl) ?_
      refine wp_seq (li_r10 a9 wr _ _ _ h9.none rfl a0 (h9.look 1 rfl) fun a10 h10' => wp_ret ?_)
      refine hQ2 _ _ (li_done h10'.defers (h10'.look 4 rfl) (h10'.look 5 rfl) (h10'.look 6 rfl) ?_)
      rw [hR]
      exact LitR.bad (bl_alloc hb _) _ rfl ⟨hbz, Blk.new _ _ _⟩
    rw [decide_eq_false h10] at h9
    rw [if_neg h10] at hR
    refine wp_cond_false (h9.look 34 rfl) ?_
    refine wp_seq (li_r11 a9 wr _ _ _ h9.tl rfl _ _ b92 rfl fun a10 h10' => ?_)
    by_cases h92 : c = 92
    · rw [decide_eq_true h92] at h10'
      rw [if_pos h92] at hR
      refine wp_cond_true (h10'.look 38 rfl) ?_
      unfold liArm
      have hq := fun w => sl_from (s := s) (k := i + 1) (by omega) (x := (i : Int) + 1) (by omega) w
      have hel := esc_le (s.data.toList.drop (i + 1))
      simp only [List.length_drop, Array.length_toList] at hel
      have hsz : s.data.size = s.size := rfl
      have hE := fun w => esc_any (bs (s.data.toList.drop (i + 1))) (by rw [bs_size, List.length_drop]; simp; omega) w
      simp only [bs_list] at hE
      have h11 := h10'.tl.none.add (h10'.look 0 rfl) |>.add (h10'.look 1 rfl) |>.add (h10'.look 7 rfl) |>.add (h10'.look 8 rfl)
      refine wp_seq (li_r12 a10 wr _ _ _ h11 rfl s _ i (by omega) (by omega) _ _ hq hE rfl rfl fun a11 w11 h12 hb11 => ?_)
      have hown11 : w11.ownsRow w.heap.size 5 1 v out.length (out.map byteV) := own_below hown hb11
      have hbw := bl_trans hb hb11
      refine wp_seq (wp_seq (li_r13 a11 w11 _ _ _ h12 rfl _ _ rfl rfl fun a12 h13 => ?_))
      by_cases hn0 : (escL (s.data.toList.drop (i + 1))).2 = 0
      · rw [if_pos hn0] at hR
        have hz : (((escL (s.data.toList.drop (i + 1))).2 : Int) == 0) = true := by rw [hn0]; rfl
        rw [hz] at h13
        refine wp_cond_true (h13.look 49 rfl) ?_
        refine wp_seq (li_r14 a12 w11 _ _ _ h13.none rfl i (h13.look 8 rfl) fun a13 h14 => wp_ret ?_)
        refine hQ2 _ _ (li_done h14.defers (h14.look 4 rfl) (h14.look 5 rfl) (h14.look 6 rfl) ?_)
        rw [hR]
        exact LitR.bad (bl_alloc hbw _) _ rfl ⟨hbw.size, Blk.new _ _ _⟩
      · rw [if_neg hn0] at hR
        have hz : (((escL (s.data.toList.drop (i + 1))).2 : Int) == 0) = false := by rw [beq_eq_false_iff_ne]; omega
        rw [hz] at h13
        refine wpc_off (h13.look 49 rfl) ?_
        show Code.wp _ (Code.seq (r_li 15) (r_li 16)) _ a12 w11
        have hn3 := esc_three (s.data.toList.drop (i + 1))
        have h14 := h13.none.add (h13.look 0 rfl) |>.add (h13.look 1 rfl) |>.add (h13.look 8 rfl) |>.add (h13.look 9 rfl) |>.add (h13.look 10 rfl)
        refine wp_seq (li_r15 a12 w11 _ _ _ h14 rfl _ v w.heap.size out.length _ hown11 (by omega) hbw.size (h13.look 7 rfl) rfl fun a13 w13 v' h15 hown13 hb13 => ?_)
        refine wp_then ?_
        have h15' := h15.none.add (h15.look 0 rfl) |>.add (h15.look 1 rfl) |>.add (h15.look 7 rfl)
        refine li_r16 a13 w13 _ _ _ h15' rfl i (by omega) (by omega) _ (by omega) (by omega) (h15.look 8 rfl) (h15.look 10 rfl) fun a14 h16 => ?_
        refine hQ1 a14 w13 (i + 1 + (escL (s.data.toList.drop (i + 1))).2) (out ++ [(escL (s.data.toList.drop (i + 1))).1]) v' (by omega) (by omega) (by simp; omega) ?_ ?_ (hbw.trans hb13) ?_
        · have e8 : slot a14 8 = .int .i64 ((i + 1 + (escL (s.data.toList.drop (i + 1))).2 : Nat) : Int) := by rw [h16.look 8 rfl]; congr 1; omega
          exact h16.none.add (h16.look 0 rfl) |>.add (h16.look 1 rfl) |>.add (h16.look 7 rfl) |>.add e8
        · simpa [byteV] using hown13
        · rw [hR, List.drop_drop]
    · rw [decide_eq_false h92] at h10'
      rw [if_neg h92] at hR
      refine wp_cond_false (h10'.look 38 rfl) ?_
      have h11 := h10'.none.add (h10'.look 0 rfl) |>.add (h10'.look 1 rfl) |>.add (h10'.look 8 rfl)
      refine wp_seq (li_r5 a10 wr _ _ _ h11 rfl s i _ hix v w.heap.size out.length _ hown (by omega) hbz rfl (h10'.look 7 rfl) rfl fun a11 w11 v' h12 hown11 hb11 => ?_)
      refine wp_then ?_
      have h12' := h12.none.add (h12.look 0 rfl) |>.add (h12.look 1 rfl) |>.add (h12.look 7 rfl)
      refine li_r6 a11 w11 _ _ _ h12' rfl i (by omega) (by omega) (h12.look 8 rfl) fun a12 h13 => ?_
      refine hQ1 a12 w11 (i + 1) (out ++ [c]) v' (by omega) (by omega) (by simp; omega) ?_ ?_ (hb.trans hb11) hR
      · have e8 : slot a12 8 = .int .i64 ((i + 1 : Nat) : Int) := by rw [h13.look 8 rfl]; congr 1
        exact h13.none.add (h13.look 0 rfl) |>.add (h13.look 1 rfl) |>.add (h13.look 7 rfl) |>.add e8
      · simpa [byteV] using hown11
  · refine li_r3F a5 wr _ _ _ h5 rfl s i (decide_eq_false (by omega)) rfl rfl fun a6 h6 => ?_
    refine wpc_exit (h6.look 16 rfl) ?_
    exact hQ3 a6 h6.tl (by omega)

theorem literal_wide (s : ByteArray) (hs : s.size ≤ 9223372036854775000) (a0 : Nat) (ha : a0 < s.size) (hbd : s.size ≤ 140737488355327 ∨ ∃ x, litL a0 (a0 + 1) [] (s.data.toList.drop (a0 + 1)) = .ok x ∧ x.2 ≤ 140737488355327) (w : World) :
    Calls Tryd.prog 39 #[.string s, .int .i64 a0] w (LitR (litL a0 (a0 + 1) [] (s.data.toList.drop (a0 + 1))) w) := by
  have ha2 : a0 ≤ 140737488355326 := by
    rcases hbd with hbd | ⟨x, hx, hbd⟩
    · omega
    · have := lit_len a0 _ _ _ _ x (Nat.le_refl _) hx
      omega
  refine calls_of_wp Tryd.func39 li_body ?_
  have h0 : Sl 62 { tmps := #[Value.string s, .int .i64 (a0 : Int)] ++ Array.replicate (Tryd.f39.ntmps - #[Value.string s, .int .i64 (a0 : Int)].size) undef, defers := [] } [(1, .int .i64 (a0 : Int)), (0, .string s)] :=
    ⟨by simp [Tryd.ntmps39], rfl, fun p hp => by
      simp only [List.mem_cons, List.not_mem_nil, or_false] at hp
      rcases hp with rfl | rfl <;> simp [slot]⟩
  generalize { tmps := #[Value.string s, .int .i64 (a0 : Int)] ++ Array.replicate (Tryd.f39.ntmps - #[Value.string s, .int .i64 (a0 : Int)].size) undef, defers := [] : Act } = b0 at h0 ⊢
  unfold liBody
  refine wp_seq (li_r0 b0 w _ _ _ h0 rfl fun a1 h1 => ?_)
  have h1 := h1.none.add (h1.look 0 rfl) |>.add (h1.look 1 rfl)
  refine wp_seq (li_r1 a1 w _ _ _ h1 rfl fun a2 h2 => ?_)
  refine wp_seq (wp_seq (li_r2 a2 w _ _ _ h2 rfl a0 (by omega) (by omega) rfl fun a3 h3 => ?_))
  refine wp_block ?_
  refine wp_loop (fun a' wr => ∃ (i : Nat) (out : List UInt8) (v : Value), a0 < i ∧ i ≤ s.size ∧ out.length ≤ i ∧ Sl 62 a' [(8, .int .i64 (i : Int)), (7, v), (1, .int .i64 (a0 : Int)), (0, .string s)] ∧ wr.ownsRow w.heap.size 5 1 v out.length (out.map byteV) ∧ Below w.heap.size w wr ∧
    litL a0 (a0 + 1) [] (s.data.toList.drop (a0 + 1)) = litL a0 i out (s.data.toList.drop i)) (fun a' _ => muTo s.size (slot a' 8))
    ⟨a0 + 1, [], .slice none 0 0, by omega, by omega, by simp, h3, World.ownsRow_nil _ _ _ _, Below.refl _ _, rfl⟩ ?_
  rintro a5 wr ⟨i, out, v, hi0, hi, hol, h5, hown, hb, hR⟩
  rw [h5.look 8 rfl, muTo_int]
  refine li_loop s hs a0 w _ hbd a5 wr i out v hi0 hi hol h5 hown hb hR _ (fun a' w' i' out' v' g1 g2 g3 g4 g5 g6 g7 => ⟨⟨i', out', v', by omega, g2, g3, g4, g5, g6, g7⟩, ?_⟩) (fun a' w' h => h) (fun a' h6 he => ?_)
  · rw [g4.look 8 rfl, muTo_int]
    omega
  · refine then_exit (in_block' ?_)
    show Code.wp _ (Code.seq (r_li 17) .ret) _ a' wr
    refine wp_seq (li_r17 a' wr _ _ _ h6.none rfl a0 (h6.look 1 rfl) fun a7 h7 => wp_ret ?_)
    refine li_done h7.defers (h7.look 4 rfl) (h7.look 5 rfl) (h7.look 6 rfl) ?_
    rw [hR, drop_end s i (by omega), litL]
    exact LitR.bad (bl_alloc hb _) _ rfl ⟨hb.size, Blk.new _ _ _⟩
theorem literal_any (s : ByteArray) (hs : s.size ≤ 140737488355327) (a0 : Nat) (ha : a0 < s.size) (w : World) :
    Calls Tryd.prog 39 #[.string s, .int .i64 a0] w (LitR (litL a0 (a0 + 1) [] (s.data.toList.drop (a0 + 1))) w) := literal_wide s (by omega) a0 ha (.inl hs) w
end Go.Proofs.YtpggcmlddmckcaaDoor
