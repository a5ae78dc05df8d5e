/-
  LexWords walked: it returns true. Written by an AI agent.
-/
import Derived.Test.YtpggcmlddmckcaaDoorLw1
import Derived.Test.YtpggcmlddmckcaaDoorKn2
import Derived.ArgAppend
namespace Go.Proofs.YtpggcmlddmckcaaDoor
open Go.RowKit Go.Sort
set_option maxRecDepth 100000

theorem wordsC_get (i : Nat) (hi : i < 22) : ∃ x : ByteArray, wordsC[i]? = some (.string x) := by
  have h : wordsC.toList[i]? = some (.string (bs (wordsL[i]'hi))) := by
    have hw : i < wordsL.length := hi
    unfold wordsC wordsS
    simp [hw]
    rfl
  rw [Array.getElem?_toList] at h
  exact ⟨_, h⟩
theorem str_info : (Tryd.prog.info? 9).map (·.size) = some 1 := by kernel_rfl
/-- A word out of two rows. -/
theorem lw_same {w : World} {ga gw : Nat} {T T' : TypeId} {ca : Array Value} (ha : Blk w ga T ca) (hw : Blk w gw T' wordsC) (i : Nat) (hi : i < 22) (he : ca[i]? = wordsC[i]?) :
    ∃ x : ByteArray, Lds Tryd.prog 9 (.pointer (some ⟨ga, i, none⟩)) (.string x) w ∧ Lds Tryd.prog 9 (.pointer (some ⟨gw, i, none⟩)) (.string x) w := by
  obtain ⟨x, hx⟩ := wordsC_get i hi
  exact ⟨x, lds1 Tryd.underlying9 rfl (by rw [ha.cell, he, hx]), lds1 Tryd.underlying9 rfl (by rw [hw.cell, hx])⟩
theorem lw_append {w : World} {ga : Nat} {T : TypeId} {ca : Array Value} (ha : Blk w ga T ca) (hz : ca.size = 22) (ty : TypeId) :
    ∃ v w', (Builtin.append_ #[43, 43] ty #[.slice (some ⟨ga, 0, none⟩) 22 22, .slice (some ⟨w.heap.size, 0, none⟩) 2 2]).run Tryd.prog (w.alloc (.cells #[.string (⟨#[109, 105, 110, 101]⟩), .string (⟨#[109, 105, 110, 101]⟩)] 9)) = .ok v w' ∧ Below w.heap.size w w' := by
  have hn := Blk.new w 9 #[.string (⟨#[109, 105, 110, 101]⟩), .string (⟨#[109, 105, 110, 101]⟩)]
  have ha2 := ha.alloc (.cells #[.string (⟨#[109, 105, 110, 101]⟩), .string (⟨#[109, 105, 110, 101]⟩)] 9)
  obtain ⟨i, hi1, hi2⟩ := Option.map_eq_some_iff.1 (show (Tryd.prog.info? 9).map (fun i => (i.size, i.bytes, i.zero)) = some (1, 16, some (.string ⟨#[]⟩)) by kernel_rfl)
  injection hi2 with q1 q2
  injection q2 with q2 q3
  have had : ∀ g j, (⟨g, 0, none⟩ : Addr).add j = ⟨g, j, none⟩ := fun g j => by
    unfold Addr.add
    split <;> simp_all
  obtain ⟨v', w', hr, _, hg⟩ := run_append_arg_grows (P := Tryd.prog) (w := w.alloc (.cells #[.string (⟨#[109, 105, 110, 101]⟩), .string (⟨#[109, 105, 110, 101]⟩)] 9)) 43 ty 9 i (.string ⟨#[]⟩) 1 16 Tryd.underlying43 hi1 q3 q1 q2 rfl (by omega)
    ⟨ga, 0, none⟩ 22 22 ca.toList (by simp [hz]) (fun j u hu => by rw [had, ha2.cell]; simpa using hu)
    ⟨w.heap.size, 0, none⟩ 2 2 [.string (⟨#[109, 105, 110, 101]⟩), .string (⟨#[109, 105, 110, 101]⟩)] rfl (fun j u hu => by rw [had, hn.cell]; simpa using hu) (by omega) (by simp [maxLen]) (by omega)
  exact ⟨v', w', hr, bl_trans (bl_alloc (Below.refl _ _) _) (below_grown hg)⟩

/-- The rows that stand while the law runs. -/
structure LwAt (w w' : World) (gw : Nat) : Prop where
  below : Below w.heap.size w w'
  want : Blk w' gw 9 wordsC
theorem LwAt.more {w w1 w2 : World} {gw : Nat} (h : LwAt w w1 gw) (hb : Below w1.heap.size w1 w2) : LwAt w w2 gw :=
  ⟨bl_trans h.below hb, h.want.below hb h.want.lt⟩

set_option maxHeartbeats 4000000 in
theorem lw_turn {w w1 : World} {gw t : Nat} {s : ByteArray} {a1 : Act} (ht : t < 2) (hL : LexAt w) (hA : LwAt w w1 gw) (h1 : Sl 85 a1 [(15, .bool true), (5, .int .i64 (t : Int)), (4, .slice (some ⟨gw, 0, none⟩) 22 22), (3, .bool true), (0, .string s)]) (Q : Exit → Act → World → Prop)
    (hQ : ∀ a' w', Sl 85 a' [(5, .int .i64 ((t : Int) + 1)), (4, .slice (some ⟨gw, 0, none⟩) 22 22), (3, .bool true), (0, .string s)] → LwAt w w' gw → Q .normal a' w') :
    (Code.seq (.block 1 (.seq (r_lw 6) (.seq (r_lw 7) (.seq (.seq (r_lw 8) (.cond (.tmp 31) (.seq (r_lw 9) .ret) .skip)) (.seq (.seq (r_lw 10) (.block 2 (.loop lwL1))) (.seq (r_lw 16) (.seq (r_lw 17) (.block 4 (.loop lwL0))))))))) (r_lw 5)).wp Tryd.prog Q a1 w1 := by
  refine wp_seq (wp_block ?_)
  refine wp_seq (lw_r6 h1 (Calls.con (Words_any w1 (hL.below hA.below (Nat.le_refl _)))) fun a2 x2 w2 hx h2 => ?_)
  obtain ⟨rfl, rfl⟩ := hx
  have hb2 := bl_alloc (Below.refl w1.heap.size w1) (.cells wordsC 69)
  have hA2 := hA.more hb2
  have ha2 := Blk.new w1 69 wordsC
  obtain ⟨ga, hga⟩ : ∃ ga, ga = w1.heap.size := ⟨_, rfl⟩
  rw [← hga] at h2 ha2
  have hgz : w.heap.size ≤ ga := by rw [hga]; exact hA.below.size
  have hgw : gw < ga := by rw [hga]; exact hA.want.lt
  generalize w1.alloc (.cells wordsC 69) = w2 at h2 ha2 hA2 ⊢
  refine wp_seq (lw_r7 h2 (Calls.con (Words_any w2 (hL.below hA2.below (Nat.le_refl _)))) fun a3 x3 w3 hx h3 => ?_)
  obtain ⟨rfl, rfl⟩ := hx
  have hA3 := hA2.more (bl_alloc (Below.refl w2.heap.size w2) (.cells wordsC 69))
  have ha3 := ha2.alloc (.cells wordsC 69)
  have hb3 := Blk.new w2 69 wordsC
  obtain ⟨gb, hgb⟩ : ∃ gb, gb = w2.heap.size := ⟨_, rfl⟩
  rw [← hgb] at h3 hb3
  have hgab : ga < gb := by rw [hgb]; exact ha2.lt
  generalize w2.alloc (.cells wordsC 69) = w3 at h3 ha3 hA3 hb3 ⊢
  refine wp_seq (wp_seq (lw_r8_f h3 rfl rfl rfl (by decide) (by decide) fun a4 h4 => wpo (h4.look 31 rfl) ?_))
  refine wp_seq (wp_seq (lw_r10 h4 fun a5 h5 => ?_))
  refine wp_block ?_
  refine wp_loop (fun a' wr => ∃ (i : Nat) (ca : Array Value), i ≤ 22 ∧ Sl 85 a' [(8, .int .i64 (i : Int)), (7, .slice (some ⟨gb, 0, none⟩) 22 22), (6, .slice (some ⟨ga, 0, none⟩) 22 22), (5, .int .i64 (t : Int)), (4, .slice (some ⟨gw, 0, none⟩) 22 22), (3, .bool true), (0, .string s)] ∧
      LwAt w wr gw ∧ Blk wr ga 69 ca ∧ ca.size = 22 ∧ (∀ j, i ≤ j → ca[j]? = wordsC[j]?) ∧ Blk wr gb 69 wordsC) (fun a' _ => muTo 22 (slot a' 8))
    ⟨0, wordsC, by omega, h5.to ⟨rfl, rfl, rfl, rfl, rfl, rfl, rfl, trivial⟩, hA3, ha3, rfl, fun _ _ => rfl, hb3⟩ ?_
  rintro a6 w6 ⟨i, ca, hi, h6, hA6, ha6, hz6, hj6, hb6⟩
  rw [h6.look 8 rfl, muTo_int]
  unfold lwL1
  refine wp_seq (wp_seq ?_)
  by_cases hlt : i < 22
  · refine lw_r11 h6 rfl rfl (decide_eq_true (by omega)) fun a7 h7 => wpn (h7.look 35 rfl) ?_
    refine wp_seq (wp_block ?_)
    obtain ⟨x, l1, l2⟩ := lw_same ha6 hA6.want i hlt (hj6 i (Nat.le_refl _))
    refine wp_seq (wp_seq (lw_r13 h7 rfl rfl rfl (ix_at i rfl Tryd.underlying43 str_info hlt (by omega)) l1 (ix_at i rfl Tryd.underlying43 str_info hlt (by omega)) l2 (decide_eq_false (by simp)) fun a8 m h8 => wpo (h8.look 46 rfl) ?_))
    have ha8 := ha6.drewN m
    refine wpl (lw_r15 h8 rfl rfl (ix_at (o := i) i rfl Tryd.underlying43 str_info hlt (by omega)) (sts1 (there_blk ha8 (by omega)) str_info rfl) fun a9 h9 => ?_)
    have hA9 : LwAt w ((w6.drewN m).setCells ga i [.string ⟨#[109, 105, 110, 101]⟩]) gw :=
      ⟨below_setCells _ _ _ (below_drewN hA6.below m) hgz, Blk.farL (by omega) _ _ _ (hA6.want.drewN m)⟩
    refine wpl (lw_r12 h9 rfl (by omega) fun a10 h10 => ?_)
    refine ⟨⟨i + 1, ca.setIfInBounds i (.string ⟨#[109, 105, 110, 101]⟩), by omega, h10.to ⟨rfl, rfl, rfl, rfl, rfl, rfl, rfl, trivial⟩, hA9, ha8.set_ i _, by simp [hz6], fun j hj => ?_, Blk.farL (by omega) _ _ _ (hb6.drewN m)⟩, ?_⟩
    · rw [Array.getElem?_setIfInBounds_ne (show i ≠ j by omega)]
      exact hj6 j (by omega)
    · rw [h10.look 8 rfl]
      show muTo 22 (.int .i64 ((i + 1 : Nat) : Int)) < _
      rw [muTo_int]
      omega
  · refine lw_r11 h6 rfl rfl (decide_eq_false (by omega)) fun a7 h7 => wpx (h7.look 35 rfl) ?_
    refine then_exit (in_block' ?_)
    show Code.wp _ (Code.seq _ _) _ a7 w6
    refine wp_seq (lw_r16 h7 rfl (fun ty => lw_append ha6 hz6 ty) fun a8 x8 w8 hb8 h8 => ?_)
    have hA8 := hA6.more hb8
    have hb8' := hb6.below hb8 hb6.lt
    refine wp_seq (lw_r17 h8 fun a9 h9 => ?_)
    refine wp_block ?_
    refine wp_loop (fun a' wr => ∃ (j : Nat), j ≤ 22 ∧ Sl 85 a' [(9, .int .i64 (j : Int)), (7, .slice (some ⟨gb, 0, none⟩) 22 22), (5, .int .i64 (t : Int)), (4, .slice (some ⟨gw, 0, none⟩) 22 22), (3, .bool true), (0, .string s)] ∧
        LwAt w wr gw ∧ Blk wr gb 69 wordsC) (fun a' _ => muTo 22 (slot a' 9))
      ⟨0, by omega, h9.to ⟨rfl, rfl, rfl, rfl, rfl, rfl, trivial⟩, hA8, hb8'⟩ ?_
    rintro a10 w10 ⟨j, hj, h10, hA10, hb10⟩
    rw [h10.look 9 rfl, muTo_int]
    unfold lwL0
    refine wp_seq (wp_seq ?_)
    by_cases hjl : j < 22
    · refine lw_r18 h10 rfl rfl (decide_eq_true (by omega)) fun a11 h11 => wpn (h11.look 56 rfl) ?_
      refine wp_seq (wp_block ?_)
      obtain ⟨x, l1, l2⟩ := lw_same hb10 hA10.want j hjl rfl
      refine wp_seq (lw_r20 h11 rfl rfl rfl (ix_at j rfl Tryd.underlying43 str_info hjl (by omega)) l1 (ix_at j rfl Tryd.underlying43 str_info hjl (by omega)) l2 (decide_eq_false (by simp)) fun a12 m h12 => wpc_off (h12.look 67 rfl) ?_)
      have hA12 : LwAt w (w10.drewN m) gw := hA10.more (below_drewN (Below.refl _ _) m)
      refine wpl (lw_r19 h12 rfl (by omega) fun a13 h13 => ?_)
      refine ⟨⟨j + 1, by omega, h13.to ⟨rfl, rfl, rfl, rfl, rfl, rfl, trivial⟩, hA12, hb10.drewN m⟩, ?_⟩
      rw [h13.look 9 rfl]
      show muTo 22 (.int .i64 ((j + 1 : Nat) : Int)) < _
      rw [muTo_int]
      omega
    · refine lw_r18 h10 rfl rfl (decide_eq_false (by omega)) fun a11 h11 => wpx (h11.look 56 rfl) ?_
      refine then_exit (in_block' ?_)
      show Code.wp _ (r_lw 5) Q a11 w10
      refine wpl (lw_r5 h11 rfl (by omega) fun a12 h12 => ?_)
      exact hQ a12 w10 (h12.to ⟨rfl, rfl, rfl, rfl, trivial⟩) hA10

theorem lexWords_any (s : ByteArray) (hs : s.size ≤ 140737488351232) (w : World) (hL : LexAt w) :
    Calls Tryd.prog 5 #[.string s] w fun e w' => e = .returned (.bool true) ∧ Below w.heap.size w w' := by
  refine calls_ev (vs := [.string s]) 85 Tryd.func5 lw_body (by kernel_rfl) (by simp) fun a0 h0 => ?_
  unfold lwBody
  refine wp_seq (lw_r0 h0 fun a1 h1 => ?_)
  refine wp_seq (lw_r1 h1 (known_any w hL) fun a2 w2 hb2 h2 => ?_)
  refine wp_seq (lw_r2 h2 (Calls.con (rWords_any w2)) fun a3 x3 w3 hx h3 => ?_)
  obtain ⟨rfl, rfl⟩ := hx
  have hA3 : LwAt w (w2.alloc (.cells wordsC 9)) w2.heap.size := ⟨bl_alloc hb2 _, Blk.new _ _ _⟩
  generalize w2.heap.size = gw at h3 hA3
  generalize w2.alloc (.cells wordsC 9) = w3 at hA3 ⊢
  refine wp_seq (wp_seq (lw_r3 h3 fun a4 h4 => ?_))
  refine wp_block ?_
  refine wp_loop (fun a' wr => ∃ (t : Nat), t ≤ 2 ∧ Sl 85 a' [(5, .int .i64 (t : Int)), (4, .slice (some ⟨gw, 0, none⟩) 22 22), (3, .bool true), (0, .string s)] ∧ LwAt w wr gw) (fun a' _ => muTo 2 (slot a' 5))
    ⟨0, by omega, h4.to ⟨rfl, rfl, rfl, rfl, trivial⟩, hA3⟩ ?_
  rintro a5 w5 ⟨t, ht, h5, hA5⟩
  rw [h5.look 5 rfl, muTo_int]
  unfold lwL2
  refine wp_seq (wp_seq ?_)
  by_cases hlt : t < 2
  · refine lw_r4 h5 rfl (decide_eq_true (by omega)) fun a6 h6 => wpn (h6.look 15 rfl) ?_
    refine lw_turn hlt hL hA5 (h6.to ⟨rfl, rfl, rfl, rfl, rfl, trivial⟩) _ fun a7 w7 h7 hA7 => ?_
    refine ⟨⟨t + 1, by omega, h7.to ⟨rfl, rfl, rfl, rfl, trivial⟩, hA7⟩, ?_⟩
    rw [h7.look 5 rfl]
    show muTo 2 (.int .i64 ((t + 1 : Nat) : Int)) < _
    rw [muTo_int]
    omega
  · refine lw_r4 h5 rfl (decide_eq_false (by omega)) fun a6 h6 => wpx (h6.look 15 rfl) ?_
    refine then_exit (in_block' ?_)
    show Code.wp _ (Code.seq _ _) _ a6 w5
    have hL5 := hL.below hA5.below (Nat.le_refl _)
    refine wp_seq (lw_r22 h6 rfl (Word_any s w5 hL5) fun a7 w7 hb7 h7 => ?_)
    refine wp_seq (lw_r23 h7 rfl (Name_any s (by omega) w7 (hL5.below hb7 (Nat.le_refl _))) fun a8 w8 hb8 h8 => ?_)
    refine wp_seq (lw_r24_t h8 rfl rfl rfl rfl (rWord_any s w8) (fun w' => (eq_bool Tryd.underlying4 rfl _ _ w').trans (by rw [beq_self_eq_true])) (fun w9 hb9 => (rName_any s (by omega) w9).mono fun e w' hh => ⟨hh.1, bl_trans hb9 hh.2⟩) (fun w' => (eq_bool Tryd.underlying4 rfl _ _ w').trans (by rw [beq_self_eq_true])) fun a9 w9 w10 _ hb10 h9 => wp_ret ?_)
    exact ret1 rfl h9 rfl ⟨rfl, bl_trans (bl_trans (bl_trans hA5.below hb7) hb8) hb10⟩
end Go.Proofs.YtpggcmlddmckcaaDoor
