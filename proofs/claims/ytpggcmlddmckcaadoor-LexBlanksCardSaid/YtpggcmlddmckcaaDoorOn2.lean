/-
  Contract of one in package lex. Written by an AI agent.
-/
import Derived.Test.YtpggcmlddmckcaaDoorOn1
namespace Go.Proofs.YtpggcmlddmckcaaDoor
open Go.RowKit Go.Sort
set_option maxRecDepth 100000

noncomputable def onName : Code := .seq (r_on 10) (.seq (r_on 11) (.seq (.seq (r_on 12) (.cond (.tmp 64) (.seq (r_on 13) .ret) .skip)) (.seq (.seq (r_on 14) (.cond (.tmp 70) (r_on 15) .skip)) (.seq (r_on 16) .ret))))
noncomputable def onBody : Code := .seq (r_on 0) (.seq (r_on 1) (.seq (.block 0 (.seq (r_on 2) (.cond (.tmp 17) (.seq (r_on 3) .ret) (.seq (r_on 4) (.cond (.tmp 24) (.seq (r_on 5) (.seq (r_on 6) .ret)) (.seq (r_on 7) (.cond (.tmp 39) (.seq (r_on 8) .ret) (.seq (r_on 9) (.cond (.tmp 48) onName .skip))))))))) (.seq (r_on 17) .ret)))
theorem on_body : Tryd.f37.body = some onBody := by kernel_rfl

theorem res_on {tmps : Array Value} {W : World} {R : Nat} {v0 v1 v2 v5 v6 : Value} (h4 : tmps.getD 4 undef = .pointer (some ⟨R, 0, none⟩)) (h5 : tmps.getD 5 undef = v5) (h6 : tmps.getD 6 undef = v6) (hR : Blk W R 48 #[v0, v1, v2]) :
    (results Tryd.f37 tmps).run Tryd.prog W = .ok (.tuple #[.agg #[v0, v1, v2], v5, v6]) W := by
  have c0 := hR.cell 0
  have c1 := hR.cell 1
  have c2 := hR.cell 2
  simp at c0 c1 c2
  simp only [Array.getD_eq_getD_getElem?] at h4 h5 h6
  simp [results, Tryd.results37, go_sem, h4, h5, h6, c0, c1, c2]
/-- The end of one. -/
theorem on_done {r : Ans (Tok × Nat)} {a0 R : Nat} {w w3 : World} {a4 : Act} {v0 v1 v2 v5 v6 : Value} (hd : a4.defers = []) (h4 : slot a4 4 = .pointer (some ⟨R, 0, none⟩)) (h5 : slot a4 5 = v5) (h6 : slot a4 6 = v6) (hR : Blk w3 R 48 #[v0, v1, v2])
    (hr : OneR a0 r w (.returned (.tuple #[.agg #[v0, v1, v2], v5, v6])) w3) : bodyPost Tryd.prog Tryd.f37 (OneR a0 r w) .ret a4 w3 := bodyPost_ret (res_on h4 h5 h6 hR) hd hr

/-- What is known of a token that another reader hands back. -/
def OneP (r : Ans (Tok × Nat)) (a0 : Nat) (w w' : World) (k : Int) (tx : ByteArray) (p nx : Int) (ev : Value) : Prop := match r with
  | .ok x => k = x.1.kind ∧ tx = bs x.1.text ∧ p = x.1.place ∧ nx = ((a0 + x.2 : Nat) : Int) ∧ ev = .pointer none
  | .bad b => ∃ (t : Tok) (g : Nat), k = t.kind ∧ tx = bs t.text ∧ p = t.place ∧ ev = .pointer (some ⟨g, 0, none⟩) ∧ WrongB w w' g b
theorem OneR.open {r : Ans (Tok × Nat)} {a0 : Nat} {w w' : World} {e : Ending} (h : OneR a0 r w e w') : ∃ k tx p nx ev, e = .returned (.tuple #[.agg #[.int .i64 k, .string tx, .int .i64 p], .int .i64 nx, ev]) ∧ OneP r a0 w w' k tx p nx ev ∧ Below w.heap.size w w' := by
  obtain ⟨hb, h⟩ := h
  cases r with
  | ok x => exact ⟨_, _, _, _, _, h, ⟨rfl, rfl, rfl, rfl, rfl⟩, hb⟩
  | bad b =>
    obtain ⟨t, n, g, he, hg⟩ := h
    exact ⟨_, _, _, _, _, he, ⟨t, g, rfl, rfl, rfl, rfl, hg⟩, hb⟩
theorem OneP.shut {r : Ans (Tok × Nat)} {a0 R : Nat} {w0 w w2 w' : World} {k p nx : Int} {tx : ByteArray} {ev : Value} (h : OneP r a0 w w2 k tx p nx ev) (hw : w0.heap.size ≤ w.heap.size) (hR : R < w.heap.size) (hfar : ∀ x, x ≠ R → w'.heap[x]? = w2.heap[x]?) (hb : Below w0.heap.size w0 w') :
    OneR a0 r w0 (.returned (.tuple #[.agg #[.int .i64 k, .string tx, .int .i64 p], .int .i64 nx, ev])) w' := by
  refine ⟨hb, ?_⟩
  cases r with
  | ok x =>
    obtain ⟨rfl, rfl, rfl, rfl, rfl⟩ := h
    rfl
  | bad b =>
    obtain ⟨t, g, rfl, rfl, rfl, rfl, h1, h2⟩ := h
    have hg : Blk w' g 26 #[.int .i64 b.code, .int .i64 b.place, .string ⟨#[]⟩] := (hfar g (by omega)).trans h2
    exact ⟨t, nx, g, rfl, Nat.le_trans hw h1, hg⟩

theorem one_any (s : ByteArray) (hs : s.size ≤ 140737488355320) (a0 : Nat) (ha : a0 < s.size) (w : World) (hL : LexAt w) :
    Calls Tryd.prog 37 #[.string s, .int .i64 a0] w (OneR a0 (oneL a0 (s.data.toList.drop a0)) w) := by
  have hnum := fun w => number_any s (by omega) a0 ha w
  have hsig := fun w hL => sign_any s hs a0 ha w hL
  have hlit := fun w => literal_any s (by omega) a0 ha w
  have hdr := drop_str s a0 ha
  have hix := fun w => idx_str ha (x := (a0 : Int)) rfl w
  obtain ⟨c, hc⟩ : ∃ c, s[a0]'ha = c := ⟨_, rfl⟩
  rw [hc] at hdr hix
  have hll : (s.data.toList.drop a0).length = s.size - a0 := by simp
  have hsf := fun w => sl_from (s := s) (k := a0) (by omega) (x := (a0 : Int)) rfl w
  obtain ⟨r, hr⟩ : ∃ r, s.data.toList.drop (a0 + 1) = r := ⟨_, rfl⟩
  rw [hr] at hdr hlit
  rw [hdr] at hll hsf hnum hsig ⊢
  refine calls_of_wp Tryd.func37 on_body ?_
  have h0 : Sl 82 { tmps := #[Value.string s, .int .i64 (a0 : Int)] ++ Array.replicate (Tryd.f37.ntmps - #[Value.string s, .int .i64 (a0 : Int)].size) undef, defers := [] } [(1, .int .i64 (a0 : Int)), (0, .string s)] :=
    ⟨by simp [Tryd.ntmps37], rfl, fun p hp => by
      simp only [List.mem_cons, List.not_mem_nil, or_false] at hp
      rcases hp with rfl | rfl <;> simp [slot]⟩
  generalize { tmps := #[Value.string s, .int .i64 (a0 : Int)] ++ Array.replicate (Tryd.f37.ntmps - #[Value.string s, .int .i64 (a0 : Int)].size) undef, defers := [] : Act } = b0 at h0 ⊢
  unfold onBody
  refine wp_seq (on_r0 b0 w _ _ _ h0 rfl fun a1 h1 => ?_)
  have hR1 : Blk (w.alloc (.cells #[.int .i64 0, .string ⟨#[]⟩, .int .i64 0] 48)) w.heap.size 48 #[.int .i64 0, .string ⟨#[]⟩, .int .i64 0] := Blk.new _ _ _
  have hb1 : Below w.heap.size w (w.alloc (.cells #[.int .i64 0, .string ⟨#[]⟩, .int .i64 0] 48)) := bl_alloc (Below.refl _ _) _
  generalize w.alloc (.cells #[.int .i64 0, .string ⟨#[]⟩, .int .i64 0] 48) = w1 at hR1 hb1 ⊢
  have hltR := hR1.lt
  have h1 := h1.none.add (h1.look 0 rfl) |>.add (h1.look 1 rfl) |>.add (h1.look 4 rfl)
  refine wp_seq (on_r1 a1 w1 _ _ _ h1 rfl s a0 (c.toNat : Int) (by omega) (by have := c.toNat_lt; omega) hix rfl rfl fun a2 h2 => ?_)
  have b59 : ((c.toNat : Int) == 59) = decide (c = 59) := by rw [show (59 : Int) = ((59 : UInt8).toNat : Int) from rfl, byte_eq]
  have b34 : ((c.toNat : Int) == 34) = decide (c = 34) := by rw [show (34 : Int) = ((34 : UInt8).toNat : Int) from rfl, byte_eq]
  refine wp_seq (wp_block ?_)
  refine wp_seq (on_r2 a2 w1 _ _ _ h2 rfl _ _ b59 rfl fun a3 h3 => ?_)
  by_cases h59 : c = 59
  · rw [decide_eq_true h59] at h3
    refine wp_cond_true (h3.look 17 rfl) ?_
    refine wp_seq (on_r3 a3 w1 _ _ _ h3.none rfl a0 (by omega) (by omega) w.heap.size _ _ _ hR1 (h3.look 1 rfl) (h3.look 4 rfl) fun a4 w4 h4 hR4 hb4 => wp_ret ?_)
    refine on_done h4.defers (h4.look 4 rfl) (h4.look 5 rfl) (h4.look 6 rfl) hR4 ?_
    rw [oneL, if_pos h59]
    exact OneR.ok (hb4 _ _ hb1 (Nat.le_refl _)) rfl
  rw [decide_eq_false h59] at h3
  refine wp_cond_false (h3.look 17 rfl) ?_
  refine wp_seq (on_r4 a3 w1 _ _ _ h3.tl rfl _ _ b34 rfl fun a4 h4 => ?_)
  by_cases h34 : c = 34
  · rw [decide_eq_true h34] at h4
    refine wp_cond_true (h4.look 24 rfl) ?_
    have h4' := h4.none.add (h4.look 0 rfl) |>.add (h4.look 1 rfl) |>.add (h4.look 4 rfl)
    refine wp_seq (on_r5 a4 w1 _ _ _ h4' rfl s a0 (fun w' tx nx ev => OneP ((litL a0 (a0 + 1) [] r).map fun x => (⟨6, x.1, a0⟩, x.2 - a0)) a0 w1 w' 6 tx a0 nx ev) ?_ rfl rfl fun a5 w5 tx nx ev h5 hpo hb5 => ?_)
    · refine (hlit w1).mono ?_
      rintro e w' ⟨hb, h⟩
      cases hl : litL a0 (a0 + 1) [] r with
      | ok x =>
        rw [hl] at h
        have hx := lit_len a0 _ r _ _ x (Nat.le_refl _) hl
        exact ⟨_, _, _, h, ⟨rfl, rfl, rfl, by show (x.2 : Int) = ((a0 + (x.2 - a0) : Nat) : Int); congr 1; omega, rfl⟩, hb⟩
      | bad b =>
        rw [hl] at h
        obtain ⟨g, he, hg⟩ := h
        exact ⟨_, _, _, he, ⟨⟨6, [], a0⟩, g, rfl, rfl, rfl, rfl, hg⟩, hb⟩
    have hR5 := hR1.below hb5 hltR
    refine wp_seq (on_r6 a5 w5 _ _ _ h5.none rfl a0 nx tx ev w.heap.size _ _ _ hR5 (h5.look 1 rfl) (h5.look 8 rfl) (h5.look 9 rfl) (h5.look 10 rfl) (h5.look 4 rfl) fun a6 w6 h6 hR6 hf6 hb6 => wp_ret ?_)
    refine on_done h6.defers (h6.look 4 rfl) (h6.look 5 rfl) (h6.look 6 rfl) hR6 ?_
    rw [oneL, if_neg h59, if_pos h34]
    exact hpo.shut hb1.size hltR hf6 (hb6 _ _ (bl_trans hb1 hb5) (Nat.le_refl _))
  rw [decide_eq_false h34] at h4
  refine wp_cond_false (h4.look 24 rfl) ?_
  have hD := fun w => digit_any (c.toNat : Int) w
  have hLe := fun w => letter_any (c.toNat : Int) w
  rw [digN_of] at hD
  rw [letN_of] at hLe
  refine wp_seq (on_r7 a4 w1 _ _ _ h4.tl rfl _ _ hD rfl fun a5 h5 => ?_)
  by_cases hdg : isDig c = true
  · rw [hdg] at h5
    refine wp_cond_true (h5.look 39 rfl) ?_
    refine wp_seq (on_r8 a5 w1 _ _ _ h5.none rfl s a0 _ ((hnum w1).mono fun e w' h => h.open) w.heap.size _ _ _ hR1 (h5.look 0 rfl) (h5.look 1 rfl) (h5.look 4 rfl) fun a6 w6 w7 k tx p nx ev h6 hpo hR6 hf6 hb6 hbz6 => wp_ret ?_)
    refine on_done h6.defers (h6.look 4 rfl) (h6.look 5 rfl) (h6.look 6 rfl) hR6 ?_
    rw [oneL, if_neg h59, if_neg h34, if_pos hdg]
    exact hpo.shut hb1.size hltR hf6 (hbz6 _ _ hb1 (Nat.le_refl _) hb1.size)
  have hdg' : isDig c = false := by simpa using hdg
  rw [hdg'] at h5
  refine wp_cond_false (h5.look 39 rfl) ?_
  refine wp_seq (on_r9 a5 w1 _ _ _ h5.tl rfl _ _ hLe rfl fun a6 h6 => ?_)
  cases hlt : isLet c with
  | true =>
    rw [hlt] at h6
    refine wp_cond_true (h6.look 48 rfl) ?_
    unfold onName
    have h6' := h6.none.add (h6.look 0 rfl) |>.add (h6.look 1 rfl) |>.add (h6.look 4 rfl)
    have hrun := fun w => lrun_any (bs (c :: r)) (by rw [bs_size, hll]; omega) true w
    rw [bs_list] at hrun
    obtain ⟨n, hn⟩ : ∃ n, runL true (c :: r) = n := ⟨_, rfl⟩
    have hnl := run_le true (c :: r)
    rw [hn] at hrun hnl
    have htx := fun w => sl_to (s := s) (a := a0) (b := a0 + n) (by omega) (by omega) (x := (a0 : Int)) (y := (a0 : Int) + (n : Int)) rfl (by omega) w
    rw [hdr, show a0 + n - a0 = n by omega] at htx
    refine wp_seq (on_r10 a6 w1 _ _ _ h6' rfl s a0 (bs (c :: r)) n hsf hrun rfl rfl fun a7 w7 h7 hb7 => ?_)
    have hR7 := hR1.below hb7 hltR
    have hbw7 := bl_trans hb1 hb7
    refine wp_seq (on_r11 a7 w7 _ _ _ h7 rfl s a0 n _ (by omega) (by omega) (by omega) htx rfl rfl rfl fun a8 h8 => ?_)
    have hR8 := hR7.alloc (.cells #[.int .i64 2, .string (bs ((c :: r).take n)), .int .i64 (a0 : Int)] 48)
    have hT8 : Blk (w7.alloc (.cells #[.int .i64 2, .string (bs ((c :: r).take n)), .int .i64 (a0 : Int)] 48)) w7.heap.size 48 #[.int .i64 2, .string (bs ((c :: r).take n)), .int .i64 (a0 : Int)] := Blk.new _ _ _
    have hbw8 := bl_alloc hbw7 (.cells #[.int .i64 2, .string (bs ((c :: r).take n)), .int .i64 (a0 : Int)] 48)
    have hgR := hR7.lt
    generalize w7.alloc (.cells #[.int .i64 2, .string (bs ((c :: r).take n)), .int .i64 (a0 : Int)] 48) = w8 at hR8 hT8 hbw8 ⊢
    refine wp_seq (wp_seq (on_r12 a8 w8 _ _ _ h8 rfl n _ rfl rfl fun a9 h9 => ?_))
    by_cases h40 : 40 < n
    · rw [decide_eq_true (show (40 : Int) < (n : Int) by omega)] at h9
      refine wp_cond_true (h9.look 64 rfl) ?_
      refine wp_seq (on_r13 a9 w8 _ _ _ h9.none rfl a0 w7.heap.size _ _ _ hT8 w.heap.size _ _ _ hR8 (by omega) (h9.look 1 rfl) (h9.look 12 rfl) (h9.look 4 rfl) fun a10 w10 h10 hR10 hW10 hb10 => wp_ret ?_)
      refine on_done h10.defers (h10.look 4 rfl) (h10.look 5 rfl) (h10.look 6 rfl) hR10 ?_
      rw [oneL, if_neg h59, if_neg h34, if_neg hdg, if_pos hlt, hn, if_pos h40]
      exact OneR.bad (hb10 _ _ hbw8 (Nat.le_refl _)) ⟨2, (c :: r).take n, a0⟩ _ _ rfl ⟨hbw8.size, hW10⟩
    · rw [decide_eq_false (show ¬ (40 : Int) < (n : Int) by omega)] at h9
      refine wpc_off (h9.look 64 rfl) ?_
      have hW := Word_any (bs ((c :: r).take n)) w8 (hL.below hbw8 (Nat.le_refl _))
      rw [bs_list] at hW
      refine wp_seq (wp_seq (on_r14 a9 w8 _ _ _ h9.tl rfl w7.heap.size _ _ _ hT8 _ hW rfl fun a10 w10 h10 hb10 => ?_))
      have hR10 := hR8.below hb10 hR8.lt
      have hT10 := hT8.below hb10 hT8.lt
      have hbw10 := bl_trans hbw8 hb10
      have hone : oneL a0 (c :: r) = .ok (⟨if wordB ((c :: r).take n) then 3 else 2, (c :: r).take n, a0⟩, n) := by
        rw [oneL, if_neg h59, if_neg h34, if_neg hdg, if_pos hlt, hn, if_neg h40]
      rw [hone]
      cases hwd : wordB ((c :: r).take n) with
      | true =>
        rw [hwd] at h10
        refine wp_cond_true (h10.look 70 rfl) ?_
        refine wp_then ?_
        refine on_r15 a10 w10 _ _ _ h10.tl rfl w7.heap.size _ _ _ hT10 rfl fun a11 h11 => ?_
        show Code.wp _ (Code.seq (r_on 16) .ret) _ a11 _
        refine wp_seq (on_r16 a11 _ _ _ _ h11.none rfl a0 n (by omega) (by omega) (by omega) w7.heap.size 3 _ _ (hT10.set_ 0 _) w.heap.size _ _ _ (hR10.far (p := ⟨w7.heap.size, 0, none⟩) (by show w.heap.size ≠ w7.heap.size; omega) _) (by omega) (h11.look 1 rfl) (h11.look 11 rfl) (h11.look 12 rfl) (h11.look 4 rfl) fun a12 w12 h12 hR12 hb12 => wp_ret ?_)
        refine on_done h12.defers (h12.look 4 rfl) (h12.look 5 rfl) (h12.look 6 rfl) hR12 ?_
        exact OneR.ok (hb12 _ _ (hbw10.setCell (p := ⟨w7.heap.size, 0, none⟩) (by show w.heap.size ≤ w7.heap.size; omega) _) (Nat.le_refl _)) (by simp [tokV, tokC])
      | false =>
        rw [hwd] at h10
        refine wpc_off (h10.look 70 rfl) ?_
        show Code.wp _ (Code.seq (r_on 16) .ret) _ a10 w10
        refine wp_seq (on_r16 a10 w10 _ _ _ h10.none rfl a0 n (by omega) (by omega) (by omega) w7.heap.size _ _ _ hT10 w.heap.size _ _ _ hR10 (by omega) (h10.look 1 rfl) (h10.look 11 rfl) (h10.look 12 rfl) (h10.look 4 rfl) fun a12 w12 h12 hR12 hb12 => wp_ret ?_)
        refine on_done h12.defers (h12.look 4 rfl) (h12.look 5 rfl) (h12.look 6 rfl) hR12 ?_
        exact OneR.ok (hb12 _ _ hbw10 (Nat.le_refl _)) (by simp [tokV, tokC])
  | false =>
    rw [hlt] at h6
    refine wpc_off (h6.look 48 rfl) ?_
    show Code.wp _ (Code.seq (r_on 17) .ret) _ a6 w1
    refine wp_seq (on_r17 a6 w1 _ _ _ h6.none rfl s a0 _ ((hsig w1 (hL.below hb1 (Nat.le_refl _))).mono fun e w' h => h.open) w.heap.size _ _ _ hR1 (h6.look 0 rfl) (h6.look 1 rfl) (h6.look 4 rfl) fun a7 w6 w7 k tx p nx ev h7 hpo hR7 hf7 hb7 hbz7 => wp_ret ?_)
    refine on_done h7.defers (h7.look 4 rfl) (h7.look 5 rfl) (h7.look 6 rfl) hR7 ?_
    rw [oneL, if_neg h59, if_neg h34, if_neg hdg, if_neg (by rw [hlt]; decide)]
    exact hpo.shut hb1.size hltR hf7 (hbz7 _ _ hb1 (Nat.le_refl _) hb1.size)
end Go.Proofs.YtpggcmlddmckcaaDoor
