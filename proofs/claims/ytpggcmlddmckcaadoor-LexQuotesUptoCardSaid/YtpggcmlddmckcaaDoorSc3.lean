/-
  Contract of Scan in package lex: the walk. Written by an AI agent.
-/
import Derived.Test.YtpggcmlddmckcaaDoorSc2
namespace Go.Proofs.YtpggcmlddmckcaaDoor
open Go.RowKit Go.Sort
set_option maxRecDepth 100000

noncomputable def scEnd : Code := .seq (.seq (r_sc 12) (.cond (.tmp 47) (r_sc 13) .skip)) (r_sc 14)
noncomputable def scRem : Code := .seq (r_sc 18) (.seq (r_sc 19) (.cond (.tmp 78) (r_sc 20) (r_sc 21)))
noncomputable def scTok : Code := .seq (r_sc 6) (.seq (.seq (r_sc 7) (.cond (.tmp 27) (.seq (r_sc 8) .ret) .skip)) (.seq (r_sc 9) (r_sc 10)))
noncomputable def scTurn : Code := .seq (r_sc 11) (.cond (.tmp 35) scEnd (.seq (r_sc 15) (.cond (.tmp 55) (r_sc 16) (.seq (r_sc 17) (.cond (.tmp 68) scRem scTok)))))
noncomputable def scLoop : Code := .seq (.seq (r_sc 5) (.cond (.tmp 18) .skip (.exit 0))) (.block 1 (.block 2 scTurn))
noncomputable def scBody : Code := .seq (r_sc 0) (.seq (.seq (r_sc 1) (.cond (.tmp 12) (.seq (r_sc 2) .ret) .skip)) (.seq (r_sc 3) (.seq (.seq (r_sc 4) (.block 0 (.loop scLoop))) (.seq (r_sc 22) .ret))))
theorem sc_body : Tryd.f12.body = some scBody := by kernel_rfl

theorem sc_done {R : Ans (List Tok)} {w w3 : World} {a4 : Act} {v2 v3 : Value} (hd : a4.defers = []) (h2 : slot a4 2 = v2) (h3 : slot a4 3 = v3) (hr : ScanR R w (.returned (.tuple #[v2, v3])) w3) :
    bodyPost Tryd.prog Tryd.f12 (ScanR R w) .ret a4 w3 :=
  bodyPost_ret (v := .tuple #[v2, v3]) (by
    unfold slot at h2 h3
    simp only [Array.getD_eq_getD_getElem?] at h2 h3
    simp [results, Tryd.results12, h2, h3]) hd hr
theorem own_mono {w w' : World} {B n sz : Nat} {t : TypeId} {v : Value} {xs : List Value} (h : w.ownsRow B t sz v n xs) (hb : Below w.heap.size w w') : w'.ownsRow B t sz v n xs := own_below h hb

theorem sc_loop (s : ByteArray) (hs : s.size ≤ 60000) (w : World) (R : Ans (List Tok)) (hRS : scanL 0 false s.data.toList = R) (a5 : Act) (wr : World) (i : Nat) (ts : List Tok) (v : Value) (hi : i ≤ s.size + 1) (hol : ts.length ≤ i) (hg : ∀ t ∈ ts, TokGood t)
    (h5 : Sl 85 a5 [(5, .int .i64 (i : Int)), (4, v), (0, .string s)]) (hown : Toks wr w.heap.size v ts) (hL : LexAt wr) (hb : Below w.heap.size w wr) (hF : Far s.data.toList i ts)
    (Q : Exit → Act → World → Prop) (hQ1 : ∀ a' w' (i' : Nat) (ts' : List Tok) (v' : Value), i ≤ s.size → i < i' → i' ≤ s.size + 1 → ts'.length ≤ i' → (∀ t ∈ ts', TokGood t) → Sl 85 a' [(5, .int .i64 (i' : Int)), (4, v'), (0, .string s)] → Toks w' w.heap.size v' ts' → Below w.heap.size w w' → Far s.data.toList i' ts' → Q .normal a' w')
    (hQ2 : ∀ a' w', bodyPost Tryd.prog Tryd.f12 (ScanR R w) .ret a' w' → Q .ret a' w') (hQ3 : ∀ a', Sl 85 a' [(5, .int .i64 (i : Int)), (4, v), (0, .string s)] → s.size < i → Q (.exit 0) a' wr) : scLoop.wp Tryd.prog Q a5 wr := by
  have hbz := hb.size
  have hsl : s.data.toList.length = s.size := by simp
  unfold scLoop
  refine wp_seq (wp_seq ?_)
  by_cases hle : i ≤ s.size
  · refine sc_r5T a5 wr _ _ _ h5 rfl s i (by omega) rfl rfl fun a6 h6 => ?_
    refine wpc_on (h6.look 18 rfl) ?_
    refine wp_block ?_
    refine wp_block ?_
    unfold scTurn
    have h6 := h6.tl
    -- a line's end
    have hend : ∀ (Q' : Exit → Act → World → Prop) a7, Sl 85 a7 [(35, .bool true), (5, .int .i64 (i : Int)), (4, v), (0, .string s)] →
        (Far s.data.toList (i + 1) (if lastE ts then ts ++ [⟨1, [], i⟩] else ts)) →
        (∀ a' w' (i' : Nat) (ts' : List Tok) (v' : Value), i ≤ s.size → i < i' → i' ≤ s.size + 1 → ts'.length ≤ i' → (∀ t ∈ ts', TokGood t) → Sl 85 a' [(5, .int .i64 (i' : Int)), (4, v'), (0, .string s)] → Toks w' w.heap.size v' ts' → Below w.heap.size w w' → Far s.data.toList i' ts' → Q' .normal a' w') →
        scEnd.wp Tryd.prog Q' a7 wr := by
      intro Q' a7 h7 hF' hQ
      unfold scEnd
      refine wp_seq (wp_seq (sc_r12 a7 wr _ _ _ h7.tl rfl v (lastE ts) (ending_any ts (by omega) hg _ v wr hL hown) rfl fun a8 w8 h8 hb8 => ?_))
      have hown8 : w8.ownsRow w.heap.size 48 3 v ts.length (toksC ts) := own_below hown hb8
      have hbw8 := bl_trans hb hb8
      cases hl : lastE ts with
      | true =>
        rw [hl] at h8 hF'
        refine wp_cond_true (h8.look 47 rfl) ?_
        have h8' := h8.none.add (h8.look 0 rfl) |>.add (h8.look 5 rfl)
        refine sc_r13 a8 w8 _ _ _ h8' rfl i v w.heap.size ts.length _ hown8 (by omega) hbw8.size (h8.look 4 rfl) rfl fun a9 w9 v9 h9 hown9 hb9 => ?_
        refine wp_then ?_
        have h9' := h9.none.add (h9.look 0 rfl) |>.add (h9.look 4 rfl)
        refine sc_r14 a9 w9 _ _ _ h9' rfl i (by omega) (by omega) (h9.look 5 rfl) fun a10 h10 => ?_
        refine hQ a10 w9 (i + 1) (ts ++ [⟨1, [], i⟩]) v9 hle (by omega) (by omega) (by simp; omega) ?_ ?_ ?_ (hbw8.trans hb9) hF'
        · intro t ht
          rcases List.mem_append.1 ht with ht | ht
          · exact hg t ht
          · rw [List.mem_singleton] at ht
            subst ht
            exact ⟨fun h => by simp at h, fun h => by simp at h⟩
        · have e5 : slot a10 5 = .int .i64 ((i + 1 : Nat) : Int) := by rw [h10.look 5 rfl]; congr 1
          exact h10.none.add (h10.look 0 rfl) |>.add (h10.look 4 rfl) |>.add e5
        · unfold Toks
          rw [toksC_snoc, List.length_append]
          exact hown9
      | false =>
        rw [hl] at h8 hF'
        refine wpc_off (h8.look 47 rfl) ?_
        refine wp_then ?_
        have h8' := h8.none.add (h8.look 0 rfl) |>.add (h8.look 4 rfl)
        refine sc_r14 a8 w8 _ _ _ h8' rfl i (by omega) (by omega) (h8.look 5 rfl) fun a10 h10 => ?_
        refine hQ a10 w8 (i + 1) ts v hle (by omega) (by omega) (by omega) hg ?_ hown8 hbw8 hF'
        have e5 : slot a10 5 = .int .i64 ((i + 1 : Nat) : Int) := by rw [h10.look 5 rfl]; congr 1
        exact h10.none.add (h10.look 0 rfl) |>.add (h10.look 4 rfl) |>.add e5
    by_cases hlt : i < s.size
    · have hix := fun w => idx_str hlt (x := (i : Int)) rfl w
      have hdr := drop_str s i hlt
      have hi' : i < s.data.toList.length := by omega
      have hsf := fun w => sl_from (s := s) (k := i) (by omega) (x := (i : Int)) rfl w
      have hone := one_any s (by omega) i hlt wr hL
      obtain ⟨c, hc⟩ : ∃ c, s[i]'hlt = c := ⟨_, rfl⟩
      rw [hc] at hix hdr
      obtain ⟨r, hr⟩ : ∃ r, s.data.toList.drop (i + 1) = r := ⟨_, rfl⟩
      rw [hr] at hdr
      rw [hdr] at hsf hone
      have hrl : r.length + 1 = s.size - i := by
        have := congrArg List.length hdr
        simp at this
        omega
      have b10 : ((c.toNat : Int) == 10) = decide (c = 10) := by rw [show (10 : Int) = ((10 : UInt8).toNat : Int) from rfl, byte_eq]
      have b32 : ((c.toNat : Int) == 32) = decide (c = 32) := by rw [show (32 : Int) = ((32 : UInt8).toNat : Int) from rfl, byte_eq]
      have b9 : ((c.toNat : Int) == 9) = decide (c = 9) := by rw [show (9 : Int) = ((9 : UInt8).toNat : Int) from rfl, byte_eq]
      refine wp_seq (sc_r11 a6 wr _ _ _ h6 rfl s i _ _ (by rw [beq_eq_false_iff_ne]; omega) b10 hix rfl rfl fun a7 h7 => ?_)
      by_cases h10 : c = 10
      · rw [decide_eq_true h10] at h7
        refine wp_cond_true (h7.look 35 rfl) ?_
        subst h10
        exact hend _ a7 h7 (hF.feed hi' hdr) hQ1
      rw [decide_eq_false h10] at h7
      refine wp_cond_false (h7.look 35 rfl) ?_
      have h7 := h7.tl
      -- a blank
      have hblank : ∀ (K : Act → World → Prop) (Q' : Exit → Act → World → Prop), (∀ a', Sl 85 a' [(55, .bool (decide (c = 32 ∨ c = 9))), (5, .int .i64 (i : Int)), (4, v), (0, .string s)] → K a' wr) → (r_sc 15).wp Tryd.prog (Exit.then K Q') a7 wr := by
        intro K Q' hK
        by_cases h32 : c = 32
        · rw [decide_eq_true (.inl h32)] at hK
          exact sc_r15a a7 wr _ _ _ h7 rfl s i _ (by rw [b32, decide_eq_true h32]) hix rfl rfl hK
        · refine sc_r15b a7 wr _ _ _ h7 rfl s i _ _ (by rw [b32, decide_eq_false h32]) b9 hix rfl rfl fun a' h' => hK a' ?_
          rwa [show decide (c = 9) = decide (c = 32 ∨ c = 9) by rw [decide_eq_decide]; exact ⟨.inr, fun h => h.resolve_left h32⟩] at h'
      refine wp_seq (hblank _ _ fun a8 h8 => ?_)
      clear hblank
      by_cases hbl : c = 32 ∨ c = 9
      · rw [decide_eq_true hbl] at h8
        refine wp_cond_true (h8.look 55 rfl) ?_
        refine wp_then ?_
        have h8' := h8.none.add (h8.look 0 rfl) |>.add (h8.look 4 rfl)
        refine sc_r16 a8 wr _ _ _ h8' rfl i (by omega) (by omega) (h8.look 5 rfl) fun a10 h10 => ?_
        refine hQ1 a10 wr (i + 1) ts v hle (by omega) (by omega) (by omega) hg ?_ hown hb (hF.blank hi' hdr ‹c ≠ 10› hbl)
        have e5 : slot a10 5 = .int .i64 ((i + 1 : Nat) : Int) := by rw [h10.look 5 rfl]; congr 1
        exact h10.none.add (h10.look 0 rfl) |>.add (h10.look 4 rfl) |>.add e5
      rw [decide_eq_false hbl] at h8
      refine wp_cond_false (h8.look 55 rfl) ?_
      have hP := fun w => Tryd.strings_HasPrefix (bs (c :: r)) ⟨#[47, 47]⟩ w
      rw [bs_list, show (⟨#[47, 47]⟩ : ByteArray).data.toList = [47, 47] from rfl, rem_pre] at hP
      refine wp_seq (sc_r17 a8 wr _ _ _ h8.tl rfl s i _ _ hsf hP rfl rfl fun a9 h9 => ?_)
      by_cases h47 : c = 47 ∧ r.head? = some 47
      · rw [decide_eq_true h47] at h9
        refine wp_cond_true (h9.look 68 rfl) ?_
        unfold scRem
        have hI := fun w => Tryd.strings_IndexByte (bs (c :: r)) 10 w
        rw [bs_list, show (10 : Int).toNat.toUInt8 = 10 from rfl] at hI
        have hF' := hF.remark hi' hdr h10 hbl h47
        have hrem : remL (c :: r) = remL r + 1 := by
          unfold remL
          rw [List.takeWhile_cons_of_pos (by simpa using h10), List.length_cons]
        refine wp_seq (sc_r18 a9 wr _ _ _ h9.tl rfl s i _ _ hsf hI rfl rfl fun a10 h10' => ?_)
        rcases index_rem (c :: r) with ⟨g1, g2⟩ | ⟨g1, g2⟩
        · rw [g2] at h10'
          simp only [List.length_cons] at g1
          refine wp_seq (sc_r19 a10 wr _ _ _ h10' rfl _ true (decide_eq_true (by omega)) rfl fun a11 h11 => ?_)
          refine wp_cond_true (h11.look 78 rfl) ?_
          refine wp_then ?_
          have h11' := h11.none.add (h11.look 0 rfl) |>.add (h11.look 4 rfl)
          refine sc_r20 a11 wr _ _ _ h11' rfl i _ (by omega) (by omega) (by omega) (h11.look 5 rfl) (h11.look 6 rfl) fun a12 h12 => ?_
          refine hQ1 a12 wr (i + 1 + remL r) ts v hle (by omega) (by omega) (by omega) hg ?_ hown hb hF'
          have e5 : slot a12 5 = .int .i64 ((i + 1 + remL r : Nat) : Int) := by rw [h12.look 5 rfl]; congr 1; omega
          exact h12.none.add (h12.look 0 rfl) |>.add (h12.look 4 rfl) |>.add e5
        · rw [g2] at h10'
          simp only [List.length_cons] at g1
          refine wp_seq (sc_r19 a10 wr _ _ _ h10' rfl _ false (decide_eq_false (by omega)) rfl fun a11 h11 => ?_)
          refine wp_cond_false (h11.look 78 rfl) ?_
          refine wp_then ?_
          have h11' := h11.none.add (h11.look 0 rfl) |>.add (h11.look 4 rfl)
          refine sc_r21 a11 wr _ _ _ h11' rfl s rfl fun a12 h12 => ?_
          refine hQ1 a12 wr (i + 1 + remL r) ts v hle (by omega) (by omega) (by omega) hg ?_ hown hb hF'
          have e5 : slot a12 5 = .int .i64 ((i + 1 + remL r : Nat) : Int) := by rw [h12.look 5 rfl]; congr 1; omega
          exact h12.none.add (h12.look 0 rfl) |>.add (h12.look 4 rfl) |>.add e5
      rw [decide_eq_false h47] at h9
      refine wp_cond_false (h9.look 68 rfl) ?_
      unfold scTok
      refine wp_seq (sc_r6 a9 wr _ _ _ h9.tl rfl s i _ (hone.mono fun e w' h => h.open) rfl rfl fun a10 w10 k tx p nx ev h10' hpo hb10 => ?_)
      have hown10 : w10.ownsRow w.heap.size 48 3 v ts.length (toksC ts) := own_below hown hb10
      have hT := Blk.new w10 48 #[.int .i64 k, .string tx, .int .i64 p]
      have hbw10 := bl_trans hb hb10
      have hbT : Below w10.heap.size w10 (w10.alloc (.cells #[.int .i64 k, .string tx, .int .i64 p] 48)) := bl_alloc (Below.refl _ _) _
      generalize w10.alloc (.cells #[.int .i64 k, .string tx, .int .i64 p] 48) = w11 at hT hbT ⊢
      have hown11 : w11.ownsRow w.heap.size 48 3 v ts.length (toksC ts) := own_below hown10 hbT
      have hbw11 := bl_trans hbw10 hbT
      cases ho : oneL i (c :: r) with
      | bad b =>
        rw [ho] at hpo
        obtain ⟨t, g, rfl, rfl, rfl, rfl, hw⟩ := hpo
        refine wp_seq (wp_seq (sc_r7p a10 w11 _ _ _ h10' rfl g rfl fun a11 h11 => ?_))
        refine wp_cond_true (h11.look 27 rfl) ?_
        refine wp_seq (sc_r8 a11 w11 _ _ _ h11.none rfl _ (h11.look 9 rfl) fun a12 h12 => wp_ret ?_)
        refine hQ2 _ _ (sc_done h12.defers (h12.look 2 rfl) (h12.look 3 rfl) ?_)
        rw [← hRS, hF.wrong hi' hdr h10 hbl h47 ho]
        exact ScanR.bad hbw11 g rfl ((hw.from hbz).below hbT)
      | ok x =>
        rw [ho] at hpo
        obtain ⟨rfl, rfl, rfl, rfl, rfl⟩ := hpo
        have hx := one_len i _ x ho
        simp only [List.length_cons] at hx
        refine wp_seq (wp_seq (sc_r7n a10 w11 _ _ _ h10' rfl rfl fun a11 h11 => ?_))
        refine wpc_off (h11.look 27 rfl) ?_
        show Code.wp _ (Code.seq (r_sc 9) (r_sc 10)) _ a11 w11
        have h11' := h11.none.add (h11.look 0 rfl) |>.add (h11.look 8 rfl)
        refine wp_seq (sc_r9 a11 w11 _ _ _ h11' rfl w10.heap.size _ _ _ hT v w.heap.size ts.length _ hown11 (by omega) hbw11.size (h11.look 4 rfl) (h11.look 7 rfl) fun a12 w12 v12 h12 hown12 hb12 => ?_)
        refine wp_then ?_
        have h12' := h12.none.add (h12.look 0 rfl) |>.add (h12.look 4 rfl)
        refine sc_r10 a12 w12 _ _ _ h12' rfl _ (h12.look 8 rfl) fun a13 h13 => ?_
        refine hQ1 a13 w12 (i + x.2) (ts ++ [x.1]) v12 hle (by omega) (by omega) (by simp; omega) ?_ ?_ ?_ (hbw11.trans hb12) (hF.token hi' hdr h10 hbl h47 ho)
        · intro t ht
          rcases List.mem_append.1 ht with ht | ht
          · exact hg t ht
          · rw [List.mem_singleton] at ht
            subst ht
            exact one_good i _ x ho
        · exact h13.none.add (h13.look 0 rfl) |>.add (h13.look 4 rfl) |>.add (h13.look 5 rfl)
        · unfold Toks
          rw [toksC_snoc, List.length_append]
          exact hown12
    · have hie : i = s.size := by omega
      refine wp_seq (sc_r11e a6 wr _ _ _ h6 rfl s i (by rw [beq_iff_eq]; omega) rfl rfl fun a7 h7 => ?_)
      refine wp_cond_true (h7.look 35 rfl) ?_
      refine hend _ a7 h7 ?_ hQ1
      have := Far.last (s := s.data.toList) (ts := ts) (by rw [hsl, ← hie]; exact hF)
      rw [hsl, ← hie] at this
      exact this
  · refine sc_r5F a5 wr _ _ _ h5 rfl s i (decide_eq_false (by omega)) rfl rfl fun a6 h6 => ?_
    refine wpc_exit (h6.look 18 rfl) ?_
    exact hQ3 a6 h6.tl (by omega)

theorem scan_any (s : ByteArray) (w : World) (hL : LexAt w) :
    Calls Tryd.prog 12 #[.string s] w (ScanR (scan s.data.toList) w) := by
  have hsl : s.data.toList.length = s.size := by simp
  refine calls_of_wp Tryd.func12 sc_body ?_
  have h0 : Sl 85 { tmps := #[Value.string s] ++ Array.replicate (Tryd.f12.ntmps - #[Value.string s].size) undef, defers := [] } [(0, .string s)] :=
    ⟨by simp [Tryd.ntmps12], rfl, fun p hp => by
      simp only [List.mem_cons, List.not_mem_nil, or_false] at hp
      subst hp
      simp [slot]⟩
  generalize { tmps := #[Value.string s] ++ Array.replicate (Tryd.f12.ntmps - #[Value.string s].size) undef, defers := [] : Act } = b0 at h0 ⊢
  unfold scBody
  refine wp_seq (sc_r0 b0 w _ _ _ h0 rfl fun a1 h1 => ?_)
  have h1 := h1.none.add (h1.look 0 rfl)
  by_cases hbig : 60000 < s.size
  · refine wp_seq (wp_seq (sc_r1 a1 w _ _ _ h1 rfl s true (decide_eq_true (by omega)) rfl fun a2 h2 => ?_))
    refine wp_cond_true (h2.look 12 rfl) ?_
    refine wp_seq (sc_r2 a2 w _ _ _ h2.none rfl fun a3 h3 => wp_ret ?_)
    refine sc_done h3.defers (h3.look 2 rfl) (h3.look 3 rfl) ?_
    rw [scan, if_pos (by omega)]
    exact ScanR.bad (bl_alloc (Below.refl _ _) _) _ rfl ⟨Nat.le_refl _, Blk.new _ _ _⟩
  refine wp_seq (wp_seq (sc_r1 a1 w _ _ _ h1 rfl s false (decide_eq_false (by omega)) rfl fun a2 h2 => ?_))
  refine wpc_off (h2.look 12 rfl) ?_
  rw [scan, if_neg (by omega)]
  show Code.wp _ (Code.seq (r_sc 3) _) _ a2 w
  refine wp_seq (sc_r3 a2 w _ _ _ h2.tl rfl fun a3 h3 => ?_)
  have h3 := h3.none.add (h3.look 0 rfl) |>.add (h3.look 4 rfl)
  refine wp_seq (wp_seq (sc_r4 a3 w _ _ _ h3 rfl fun a4 h4 => ?_))
  refine wp_block ?_
  refine wp_loop (fun a' wr => ∃ (i : Nat) (ts : List Tok) (v : Value), i ≤ s.size + 1 ∧ ts.length ≤ i ∧ (∀ t ∈ ts, TokGood t) ∧ Sl 85 a' [(5, .int .i64 (i : Int)), (4, v), (0, .string s)] ∧ Toks wr w.heap.size v ts ∧ Below w.heap.size w wr ∧ Far s.data.toList i ts) (fun a' _ => muTo (s.size + 1) (slot a' 5))
    ⟨0, [], .slice none 0 0, by omega, by simp, fun t ht => by simp at ht, h4, World.ownsRow_nil _ _ _ _, Below.refl _ _, Far.start _⟩ ?_
  rintro a5 wr ⟨i, ts, v, hi, hol, hg, h5, hown, hb, hF⟩
  rw [h5.look 5 rfl, muTo_int]
  refine sc_loop s (by omega) w _ rfl a5 wr i ts v hi hol hg h5 hown (hL.below hb (Nat.le_refl _)) hb hF _ (fun a' w' i' ts' v' g0 g1 g2 g3 g4 g5 g6 g7 g8 => ⟨⟨i', ts', v', g2, g3, g4, g5, g6, g7, g8⟩, ?_⟩) (fun a' w' h => h) (fun a' h6 he => ?_)
  · rw [g5.look 5 rfl, muTo_int]
    omega
  · refine then_exit (in_block' ?_)
    show Code.wp _ (Code.seq (r_sc 22) .ret) _ a' wr
    refine wp_seq (sc_r22 a' wr _ _ _ h6.none rfl v (h6.look 4 rfl) fun a7 h7 => wp_ret ?_)
    refine sc_done h7.defers (h7.look 2 rfl) (h7.look 3 rfl) ?_
    rw [hF.done (by omega)]
    exact ScanR.ok hb v rfl hown
end Go.Proofs.YtpggcmlddmckcaaDoor
