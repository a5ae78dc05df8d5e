/-
  LexBack walked: it returns true. Written by an AI agent.
-/
import Derived.Test.YtpggcmlddmckcaaDoorBk1
namespace Go.Proofs.YtpggcmlddmckcaaDoor
open Go.RowKit Go.Sort
set_option maxRecDepth 100000

noncomputable def bkLoop : Code := .seq (.seq (r_bk 11) (.cond (.tmp 75) .skip (.exit 0))) (.seq (.block 1 (.seq (r_bk 13) (.cond (.tmp 87) (.seq (r_bk 14) .ret) .skip))) (r_bk 12))
noncomputable def bkRest : Code := .seq (.seq (r_bk 10) (.block 0 (.loop bkLoop))) (.seq (.seq (r_bk 15) (.cond (.tmp 90) (.seq (r_bk 16) .ret) .skip)) (.seq (r_bk 17) (.seq (r_bk 18) .ret)))
noncomputable def bkBody : Code := .seq (r_bk 0) (.seq (r_bk 1) (.seq (.seq (r_bk 2) (.cond (.tmp 19) (.seq (r_bk 3) .ret) .skip)) (.seq (r_bk 4) (.seq (r_bk 5) (.seq (r_bk 6) (.seq (r_bk 7) (.seq (.seq (r_bk 8) (.cond (.tmp 71) (.seq (r_bk 9) .ret) .skip)) bkRest)))))))
theorem bk_body : Tryd.f6.body = some bkBody := by kernel_rfl
theorem bk_done {w w3 : World} {a4 : Act} (hd : a4.defers = []) (h4 : slot a4 4 = .bool true) (hb : Below w.heap.size w w3) :
    bodyPost Tryd.prog Tryd.f6 (fun e w' => e = .returned (.bool true) ∧ Below w.heap.size w w') .ret a4 w3 :=
  bodyPost_ret (results_tmp rfl _ _ _) hd ⟨congrArg Ending.returned h4, hb⟩

/-- Behind the tests: each byte of the literal; its tokens. -/
theorem bk_rest (s q : ByteArray) (hqs : q.size ≤ 262146) (hql : q.data.toList = quote s.data.toList) (w w8 : World) (hL : LexAt w8) (a8 : Act) (h8 : Sl 120 a8 [(6, .string q), (0, .string s)]) (hb : Below w.heap.size w w8) :
    bkRest.wp Tryd.prog (bodyPost Tryd.prog Tryd.f6 (fun e w' => e = .returned (.bool true) ∧ Below w.heap.size w w')) a8 w8 := by
  have hqz : q.size = (quote s.data.toList).length := by rw [← hql]; simp
  unfold bkRest
  refine wp_seq (wp_seq (bk_r10 a8 w8 _ _ _ h8 rfl fun a9 h9 => ?_))
  refine wp_block ?_
  refine wp_loop (fun a' wr => ∃ (i : Nat), i ≤ q.size ∧ Sl 120 a' [(13, .int .i64 (i : Int)), (6, .string q), (0, .string s)] ∧ wr = w8) (fun a' _ => muTo q.size (slot a' 13)) ⟨0, by omega, h9, rfl⟩ ?_
  rintro a5 _ ⟨i, hi, h5, rfl⟩
  rw [h5.look 13 rfl, muTo_int]
  unfold bkLoop
  refine wp_seq (wp_seq ?_)
  by_cases hlt : i < q.size
  · refine bk_r11t a5 _ _ _ _ h5 rfl q i (decide_eq_true (by omega)) rfl rfl fun a6 h6 => ?_
    refine wpc_on (h6.look 75 rfl) ?_
    refine wp_seq (wp_block ?_)
    have hix := fun w => idx_str hlt (x := (i : Int)) rfl w
    have hmem : q[i]'hlt ∈ quote s.data.toList := by
      rw [← hql]
      have : q.data.toList[i]'(by simpa using hlt) = q[i]'hlt := by simp; rfl
      rw [← this]
      exact List.getElem_mem _
    have hrg := quote_range _ _ hmem
    refine wp_seq (bk_r13 a6 _ _ _ _ h6.tl rfl q i _ (decide_eq_false (by omega)) (decide_eq_false (by omega)) hix rfl rfl fun a7 h7 => ?_)
    refine wpc_off (h7.look 87 rfl) ?_
    show Code.wp _ (r_bk 12) _ a7 _
    have h7' := h7.none.add (h7.look 0 rfl) |>.add (h7.look 6 rfl)
    refine wp_then (bk_r12 a7 _ _ _ _ h7' rfl i (by omega) (by omega) (h7.look 13 rfl) fun a9 h9 => ?_)
    have e13 : slot a9 13 = .int .i64 ((i + 1 : Nat) : Int) := by rw [h9.look 13 rfl]; congr 1
    refine ⟨⟨i + 1, by omega, h9.tl.add e13, rfl⟩, ?_⟩
    rw [e13, muTo_int]
    omega
  · refine bk_r11f a5 _ _ _ _ h5 rfl q i (decide_eq_false (by omega)) rfl rfl fun a6 h6 => ?_
    refine wpc_exit (h6.look 75 rfl) ?_
    refine then_exit (then_exit (in_block' ?_))
    show Code.wp _ (Code.seq _ _) _ a6 _
    have h6 := h6.tl
    by_cases hbig : 60000 < q.size
    · refine wp_seq (wp_seq (bk_r15 a6 _ _ _ _ h6 rfl q true (decide_eq_true (by omega)) rfl fun a7 h7 => ?_))
      refine wp_cond_true (h7.look 90 rfl) ?_
      refine wp_seq (bk_r16 a7 _ _ _ _ h7.none rfl fun a8 h8 => wp_ret ?_)
      exact bk_done h8.defers (h8.look 4 rfl) hb
    refine wp_seq (wp_seq (bk_r15 a6 _ _ _ _ h6 rfl q false (decide_eq_false (by omega)) rfl fun a7 h7 => ?_))
    refine wpc_off (h7.look 90 rfl) ?_
    show Code.wp _ (Code.seq (r_bk 17) _) _ a7 _
    have hS := scan_any q _ hL
    rw [hql, scan_quote s.data.toList (by omega), ← hqz] at hS
    have h7' := h7.none.add (h7.look 0 rfl) |>.add (h7.look 6 rfl)
    refine wp_seq (bk_r17 a7 _ _ _ _ h7' rfl q (fun w' v => Toks w' _ v [⟨6, s.data.toList, 0⟩, ⟨1, [], q.size⟩]) (hS.mono fun e w' ⟨hb, v, he, ht⟩ => ⟨v, he, ht, hb⟩) rfl fun a9 w9 v h9 ht hb9 => ?_)
    obtain ⟨g, cap, rfl, _, _, hc⟩ := ht.cells (by simp)
    refine wp_seq (bk_r18 a9 w9 _ _ _ h9.none rfl s q g cap (hc 0 (by simp)) (hc 1 (by simp)) (hc 2 (by simp)) (hc 3 (by simp)) (hc 4 (by simp)) (hc 5 (by simp)) (h9.look 0 rfl) (h9.look 6 rfl) (h9.look 14 rfl) (h9.look 15 rfl) fun a10 h10 => wp_ret ?_)
    exact bk_done h10.defers (h10.look 4 rfl) (bl_trans hb hb9)

/-- What Unquote says of a literal and what stands behind it. -/
def MoreP (q : ByteArray) (t : ByteArray) (w w' : World) (ev : Value) : Prop := if t.size = 0 then ev = .nilIface else ∃ g, ev = .iface 58 (.pointer (some ⟨g, 0, none⟩)) ∧ WrongB w w' g ⟨11, q.size⟩

theorem lexBack_any (s t : ByteArray) (ht : t.size ≤ 140737488351232) (w : World) (hL : LexAt w) :
    Calls Tryd.prog 6 #[.string s, .string t] w fun e w' => e = .returned (.bool true) ∧ Below w.heap.size w w' := by
  have hsl : s.data.toList.length = s.size := by simp
  have htl : t.data.toList.length = t.size := by simp
  refine calls_of_wp Tryd.func6 bk_body ?_
  have h0 : Sl 120 { tmps := #[Value.string s, Value.string t] ++ Array.replicate (Tryd.f6.ntmps - #[Value.string s, Value.string t].size) undef, defers := [] } [(1, .string t), (0, .string s)] :=
    ⟨by simp [Tryd.ntmps6], rfl, fun p hp => by
      simp only [List.mem_cons, List.not_mem_nil, or_false] at hp
      rcases hp with rfl | rfl <;> simp [slot]⟩
  generalize { tmps := #[Value.string s, Value.string t] ++ Array.replicate (Tryd.f6.ntmps - #[Value.string s, Value.string t].size) undef, defers := [] : Act } = b0 at h0 ⊢
  unfold bkBody
  refine wp_seq (bk_r0 b0 w _ _ _ h0 rfl fun a1 h1 => ?_)
  refine wp_seq (bk_r1 a1 w _ _ _ h1.tl rfl (known_any w hL) fun a2 w2 h2 hb2 => ?_)
  have hL2 := hL.below hb2 (Nat.le_refl _)
  by_cases hbig : 65536 < s.size
  · refine wp_seq (wp_seq (bk_r2 a2 w2 _ _ _ h2 rfl s true (decide_eq_true (by omega)) rfl fun a3 h3 => ?_))
    refine wp_cond_true (h3.look 19 rfl) ?_
    refine wp_seq (bk_r3 a3 w2 _ _ _ h3.none rfl _ (h3.look 5 rfl) fun a4 h4 => wp_ret ?_)
    exact bk_done h4.defers (h4.look 4 rfl) hb2
  refine wp_seq (wp_seq (bk_r2 a2 w2 _ _ _ h2 rfl s false (decide_eq_false (by omega)) rfl fun a3 h3 => ?_))
  refine wpc_off (h3.look 19 rfl) ?_
  show Code.wp _ (Code.seq (r_bk 4) _) _ a3 w2
  obtain ⟨q, hq⟩ : ∃ q, bs (quote s.data.toList) = q := ⟨_, rfl⟩
  have hql : q.data.toList = quote s.data.toList := by rw [← hq, bs_list]
  have hqz : q.size = (quote s.data.toList).length := by rw [← hq, bs_size]
  have hqs : q.size ≤ 262146 := by
    rw [hqz, quote_length]
    have := quoteL_len s.data.toList
    omega
  have hQ := quote_any s (by omega) w2
  rw [hq] at hQ
  refine wp_seq (bk_r4 a3 w2 _ _ _ h3.tl rfl s q hQ rfl fun a4 w4 h4 hb4 => ?_)
  have hbw4 := bl_trans hb2 hb4
  have hU := unquote_any q (by omega) w4
  have hback := unquote_quote s.data.toList [] (by omega)
  rw [List.append_nil, if_pos rfl] at hback
  rw [hql, hback] at hU
  have hss : bs s.data.toList = s := rfl
  refine wp_seq (bk_r5 a4 w4 _ _ _ h4 rfl s q (hU.mono fun e w' ⟨hb, he⟩ => ⟨he, hb⟩) rfl fun a5 w5 h5 hb5 => ?_)
  have hbw5 := bl_trans hbw4 hb5
  -- what stands behind it
  have hV := unquote_wide (q ++ t) (by rw [ByteArray.size_append]; omega) (.inr ⟨s.data.toList.flatMap quoteC ++ 34 :: t.data.toList, (s.data.toList, 1 + (s.data.toList.flatMap quoteC).length + 1), by
      rw [ByteArray.data_append, Array.toList_append, hql]
      simp [quote], by
      have := lit_quote 0 s.data.toList 1 [] t.data.toList
      simpa using this, by
      have := quoteL_len s.data.toList
      show 1 + _ + 1 ≤ _
      omega⟩) w5
  have hmore := unquote_quote s.data.toList t.data.toList (by omega)
  rw [ByteArray.data_append, Array.toList_append, hql, hmore] at hV
  have hV2 : Calls Tryd.prog 18 #[.string (q ++ t)] w5 fun e w' => ∃ x ev, e = .returned (.tuple #[x, ev]) ∧ MoreP q t w5 w' ev ∧ Below w5.heap.size w5 w' := by
    refine hV.mono ?_
    by_cases hz : t.data.toList = []
    · rw [if_pos hz]
      rintro e w' ⟨hb, he⟩
      refine ⟨_, _, he, ?_, hb⟩
      unfold MoreP
      rw [if_pos (by rw [← htl, hz]; rfl)]
    · rw [if_neg hz]
      rintro e w' ⟨hb, g, he, hg⟩
      refine ⟨_, _, he, ?_, hb⟩
      unfold MoreP
      rw [if_neg (by rw [← htl]; exact fun h => hz (List.eq_nil_of_length_eq_zero h))]
      rw [← hqz] at hg
      exact ⟨g, rfl, hg⟩
  refine wp_seq (bk_r6 a5 w5 _ _ _ h5 rfl t q (by omega) (fun w' _ ev => MoreP q t w5 w' ev) hV2 rfl rfl fun a6 w6 x ev h6 hp hb6 => ?_)
  have hbw6 := bl_trans hbw5 hb6
  have h6' := h6.none.add (h6.look 0 rfl) |>.add (h6.look 1 rfl) |>.add (h6.look 5 rfl) |>.add (h6.look 6 rfl) |>.add (h6.look 7 rfl) |>.add (h6.look 8 rfl)
  have hne : ∀ w, (binOp .neq 9 (.string s) (.string s)).run Tryd.prog w = .ok (.bool false) w := fun w => by simp [go_sem]
  unfold MoreP at hp
  by_cases hz : t.size = 0
  · rw [if_pos hz] at hp
    subst hp
    have he : t = ⟨#[]⟩ := by
      obtain ⟨d⟩ := t
      congr 1
      exact Array.eq_empty_of_size_eq_zero hz
    subst he
    refine wp_seq (bk_r7 a6 w6 _ _ _ h6' rfl _ 0 0 (code_nil w6) (h6.look 10 rfl) fun a7 w7 h7 hb7 => ?_)
    have h7' := h7.none.add (h7.look 0 rfl) |>.add (h7.look 5 rfl) |>.add (h7.look 6 rfl)
    refine wp_seq (wp_seq (bk_r8e a7 w7 _ _ _ h7' rfl s q hne rfl (h7.look 1 rfl) rfl rfl (h7.look 7 rfl) (h7.look 8 rfl) (h7.look 11 rfl) (h7.look 12 rfl) fun a8 h8 => ?_))
    refine wpc_off (h8.look 71 rfl) ?_
    have hbw7 := bl_trans hbw6 hb7
    exact bk_rest s q hqs hql w w7 (hL.below hbw7 (Nat.le_refl _)) a8 (h8.none.add (h8.look 0 rfl) |>.add (h8.look 6 rfl)) hbw7
  · rw [if_neg hz] at hp
    obtain ⟨g, rfl, hg⟩ := hp
    have hte : t.toList ≠ [] := fun h => hz (by
      rw [Lib.toList_data] at h
      rw [← htl, h]
      rfl)
    refine wp_seq (bk_r7 a6 w6 _ _ _ h6' rfl _ 11 q.size (code_bad w6 g 11 q.size hg.2) (h6.look 10 rfl) fun a7 w7 h7 hb7 => ?_)
    have h7' := h7.none.add (h7.look 0 rfl) |>.add (h7.look 5 rfl) |>.add (h7.look 6 rfl)
    refine wp_seq (wp_seq (bk_r8n a7 w7 _ _ _ h7' rfl s q t hte (by simpa using hte) hne rfl (h7.look 1 rfl) rfl rfl (h7.look 7 rfl) (h7.look 8 rfl) (h7.look 11 rfl) (h7.look 12 rfl) fun a8 h8 => ?_))
    refine wpc_off (h8.look 71 rfl) ?_
    have hbw7 := bl_trans hbw6 hb7
    exact bk_rest s q hqs hql w w7 (hL.below hbw7 (Nat.le_refl _)) a8 (h8.none.add (h8.look 0 rfl) |>.add (h8.look 6 rfl)) hbw7
end Go.Proofs.YtpggcmlddmckcaaDoor
