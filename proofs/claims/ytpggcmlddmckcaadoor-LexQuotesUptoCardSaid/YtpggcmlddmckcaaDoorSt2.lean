/-
  Contracts of between and length. Written by an AI agent.
-/
import Derived.Test.YtpggcmlddmckcaaDoorSt1
import Derived.Test.YtpggcmlddmckcaaDoorTf
namespace Go.Proofs.YtpggcmlddmckcaaDoor
open Go.RowKit Go.Sort
set_option maxRecDepth 100000

theorem slat_str (x : Value) (a b c : Option Value) (w : World) : (Instr.sliceAt 9 x a b c).run Tryd.prog w = (Instr.slice 9 x a b c).run Tryd.prog w := by simp [Instr.sliceAt, run_underlying Tryd.underlying9]
theorem u8_ne {c k : UInt8} (h : c ≠ k) {x : Int} (hx : x = k.toNat) : ¬ ((c.toNat : Int) = x) := fun e => h (UInt8.toNat_inj.1 (by omega))
theorem u8_eq {c k : UInt8} (h : c = k) {x : Int} (hx : x = k.toNat) : (c.toNat : Int) = x := by rw [h, hx]
theorem drop_cons (l : List UInt8) (i : Nat) (h : i < l.length) : l.drop i = l[i] :: l.drop (i + 1) := List.drop_eq_getElem_cons h
theorem head_drop (l : List UInt8) (i : Nat) : (l.drop i).head? = l[i]? := by rw [List.head?_drop]
theorem rem_cons {c : UInt8} {r : List UInt8} (h : c ≠ 10) : remL (c :: r) = remL r + 1 := by
  unfold remL
  rw [List.takeWhile_cons_of_pos (by simpa using h), List.length_cons]
theorem rem_stop {c : UInt8} {r : List UInt8} (h : c = 10) : remL (c :: r) = 0 := by
  unfold remL
  rw [List.takeWhile_cons_of_neg (by simp [h])]
  rfl

/-- The inner loop of between: on to a line feed, or the end. -/
theorem be_inner (s : ByteArray) (hs : s.size ≤ 9223372036854775000) (i : Nat) (hi : i ≤ s.size) (w : World) (a : Act) (h : Sl 56 a [(3, .int .i64 (i : Int)), (0, .string s)]) (Q : Exit → Act → World → Prop)
    (hQ : ∀ a', Sl 56 a' [(3, .int .i64 ((i + remL (s.data.toList.drop i) : Nat) : Int)), (0, .string s)] → Q .normal a' w) : (Code.block 2 (.loop beL0)).wp Tryd.prog Q a w := by
  have hsl : s.data.toList.length = s.size := by simp
  refine wp_block ?_
  refine wp_loop (fun a' wr => ∃ (j : Nat), i ≤ j ∧ j ≤ s.size ∧ j + remL (s.data.toList.drop j) = i + remL (s.data.toList.drop i) ∧ Sl 56 a' [(3, .int .i64 (j : Int)), (0, .string s)] ∧ w = wr) (fun a' _ => muTo s.size (slot a' 3)) ⟨i, Nat.le_refl _, hi, rfl, h, rfl⟩ ?_
  rintro a1 _ ⟨j, h1, h2, h3, h4, rfl⟩
  rw [h4.look 3 rfl, muTo_int]
  unfold beL0
  refine wp_seq (wp_seq ?_)
  by_cases hlt : j < s.size
  · have hix := fun w => idx_str hlt (x := (j : Int)) rfl w
    have hjl : j < s.data.toList.length := by omega
    have he : s.data.toList[j] = s[j]'hlt := by simp; rfl
    have hd := drop_cons s.data.toList j hjl
    rw [he] at hd
    by_cases hc : s[j]'hlt = 10
    · rw [hd, rem_stop hc] at h3
      refine be_r5_t h4 rfl rfl (decide_eq_true (by omega)) hix (decide_eq_false (not_not_intro (u8_eq hc rfl))) fun a2 h5 => wpx (h5.look 37 rfl) ?_
      refine then_exit (in_block' ?_)
      exact hQ a2 ((h5.to (l0 := [(3, .int .i64 (j : Int)), (0, .string s)]) ⟨rfl, rfl, trivial⟩).to ⟨by rw [show i + remL (s.data.toList.drop i) = j by omega]; rfl, rfl, trivial⟩)
    · rw [hd, rem_cons hc] at h3
      refine be_r5_t h4 rfl rfl (decide_eq_true (by omega)) hix (decide_eq_true (u8_ne hc rfl)) fun a2 h5 => wpn (h5.look 37 rfl) ?_
      refine wp_block ?_
      refine wpl (be_r6 h5 rfl (by omega) fun a3 h6 => ?_)
      refine ⟨⟨j + 1, by omega, by omega, by omega, h6.to ⟨rfl, rfl, trivial⟩, rfl⟩, ?_⟩
      rw [h6.look 3 rfl]
      show muTo s.size (.int .i64 ((j + 1 : Nat) : Int)) < _
      rw [muTo_int]
      omega
  · refine be_r5_f h4 rfl rfl (decide_eq_false (by omega)) fun a2 h5 => wpx (h5.look 37 rfl) ?_
    refine then_exit (in_block' ?_)
    rw [List.drop_of_length_le (by omega)] at h3
    have h3 : j = i + remL (s.data.toList.drop i) := h3
    exact hQ a2 ((h5.to (l0 := [(3, .int .i64 (j : Int)), (0, .string s)]) ⟨rfl, rfl, trivial⟩).to ⟨by rw [← h3]; rfl, rfl, trivial⟩)

theorem between_any (s : ByteArray) (hs : s.size ≤ 9223372036854775000) (w : World) :
    Calls Tryd.prog 28 #[.string s] w fun e w' => e = .returned (.bool (betwL s.data.toList)) ∧ w = w' := by
  have hsl : s.data.toList.length = s.size := by simp
  refine calls_ev (vs := [.string s]) 56 Tryd.func28 be_body (by kernel_rfl) (by simp) fun a0 h0 => ?_
  unfold beBody
  refine wp_seq (be_r0 h0 fun a1 h1 => ?_)
  refine wp_seq (wp_seq (be_r1 h1 fun a2 h2 => ?_))
  refine wp_block ?_
  refine wp_loop (fun a' wr => ∃ (i : Nat), i ≤ s.size + 1 ∧ betwL (s.data.toList.drop i) = betwL s.data.toList ∧ Sl 56 a' [(3, .int .i64 (i : Int)), (0, .string s)] ∧ w = wr) (fun a' _ => muTo (s.size + 1) (slot a' 3)) ⟨0, by omega, rfl, h2.to ⟨rfl, rfl, trivial⟩, rfl⟩ ?_
  rintro a3 _ ⟨i, hi, hB, h3, rfl⟩
  rw [h3.look 3 rfl, muTo_int]
  unfold beL1
  refine wp_seq (wp_seq ?_)
  by_cases hlt : i < s.size
  · refine be_r2 h3 rfl rfl (decide_eq_true (by omega)) fun a4 h4 => wpn (h4.look 7 rfl) ?_
    refine wp_seq (wp_block ?_)
    have hix := fun w => idx_str hlt (x := (i : Int)) rfl w
    have hil : i < s.data.toList.length := by omega
    have he : s.data.toList[i] = s[i]'hlt := by simp; rfl
    have hd := drop_cons s.data.toList i hil
    rw [he] at hd
    have next : ∀ (a' : Act) (j : Nat) (Q : Exit → Act → World → Prop), Sl 56 a' [(3, .int .i64 (j : Int)), (0, .string s)] → i ≤ j → j ≤ s.size → betwL (s.data.toList.drop (j + 1)) = betwL s.data.toList →
        (∀ a'', ((∃ (i : Nat), i ≤ s.size + 1 ∧ betwL (s.data.toList.drop i) = betwL s.data.toList ∧ Sl 56 a'' [(3, .int .i64 (i : Int)), (0, .string s)] ∧ w = w) ∧ muTo (s.size + 1) (slot a'' 3) < s.size + 1 - i) → Q .normal a'' w) → (r_be 3).wp Tryd.prog Q a' w := fun a' j Q h hij hj hb hQ => by
      refine wpl (be_r3 h rfl (by omega) fun a5 h5 => hQ a5 ⟨⟨j + 1, by omega, hb, h5.to ⟨rfl, rfl, trivial⟩, rfl⟩, ?_⟩)
      rw [h5.look 3 rfl]
      show muTo (s.size + 1) (.int .i64 ((j + 1 : Nat) : Int)) < _
      rw [muTo_int]
      omega
    rw [hd, betwL] at hB
    have rest : ∀ a5, Sl 56 a5 [(3, .int .i64 (i : Int)), (0, .string s)] → ¬ (s[i]'hlt = 47 ∧ (s.data.toList.drop (i + 1)).head? = some 47) → ∀ Q : Exit → Act → World → Prop,
        (∀ a', Sl 56 a' [(3, .int .i64 (i : Int)), (0, .string s)] → betwL (s.data.toList.drop (i + 1)) = betwL s.data.toList → Q .normal a' w) → (∀ a', bodyPost Tryd.prog Tryd.f28 (fun e w' => e = .returned (.bool (betwL s.data.toList)) ∧ w = w') .ret a' w → Q .ret a' w) →
        (Code.seq (r_be 7) (.cond (.tmp 55) (.seq (r_be 8) .ret) .skip)).wp Tryd.prog Q a5 w := fun a5 h5 hno Q hQ1 hQ2 => by
      rw [if_neg hno] at hB
      have bad : betwL s.data.toList = false → ∀ a6 l6, Sl 56 a6 l6 → (55, Value.bool true) ∈ l6 → ((Code.cond (.tmp 55) (.seq (r_be 8) .ret) .skip).wp Tryd.prog Q a6 w) := fun hf a6 l6 h6 hm => by
        refine wp_cond_true (h6.known _ hm) ?_
        refine wp_seq (be_r8 h6 fun a7 h7 => wp_ret ?_)
        exact hQ2 a7 (ret1 rfl h7 rfl ⟨by rw [hf], rfl⟩)
      by_cases h32 : s[i]'hlt = 32
      · refine wp_seq (be_r7_f h5 rfl rfl hix (decide_eq_false (not_not_intro (u8_eq h32 rfl))) fun a6 h6 => wpc_off (h6.look 55 rfl) ?_)
        exact hQ1 a6 (h6.to ⟨rfl, rfl, trivial⟩) (by rw [← hB, h32]; simp)
      by_cases h9 : s[i]'hlt = 9
      · refine wp_seq (be_r7_tf h5 rfl rfl hix (decide_eq_true (u8_ne h32 rfl)) (decide_eq_false (not_not_intro (u8_eq h9 rfl))) fun a6 h6 => wpc_off (h6.look 55 rfl) ?_)
        exact hQ1 a6 (h6.to ⟨rfl, rfl, trivial⟩) (by rw [← hB, h9]; simp)
      by_cases h10 : s[i]'hlt = 10
      · refine wp_seq (be_r7_tt h5 rfl rfl hix (decide_eq_true (u8_ne h32 rfl)) (decide_eq_true (u8_ne h9 rfl)) (decide_eq_false (not_not_intro (u8_eq h10 rfl))) fun a6 h6 => wpc_off (h6.look 55 rfl) ?_)
        exact hQ1 a6 (h6.to ⟨rfl, rfl, trivial⟩) (by rw [← hB, h10]; simp)
      · refine wp_seq (be_r7_tt h5 rfl rfl hix (decide_eq_true (u8_ne h32 rfl)) (decide_eq_true (u8_ne h9 rfl)) (decide_eq_true (u8_ne h10 rfl)) fun a6 h6 => ?_)
        exact bad (by rw [← hB]; simp [h32, h9, h10]) a6 _ h6 List.mem_cons_self
    by_cases h47 : s[i]'hlt = 47
    · by_cases hlt2 : i + 1 < s.size
      · have hix2 := fun w => idx_str hlt2 (x := (i : Int) + 1) (by omega) w
        have hhd : (s.data.toList.drop (i + 1)).head? = some (s[i + 1]'hlt2) := by
          rw [head_drop, List.getElem?_eq_getElem (by omega)]
          simp
          rfl
        by_cases h47b : s[i + 1]'hlt2 = 47
        · refine wp_seq (wp_seq (be_r4_tt h4 rfl rfl hix (decide_eq_true (u8_eq h47 rfl)) (by omega) (decide_eq_true (by omega)) hix2 (decide_eq_true (u8_eq h47b rfl)) fun a5 h5 => wp_cond_true (h5.look 27 rfl) ?_))
          have hcom : s[i]'hlt = 47 ∧ (s.data.toList.drop (i + 1)).head? = some 47 := ⟨h47, by rw [hhd, h47b]⟩
          rw [if_pos hcom] at hB
          refine wp_seq (be_inner s hs i (by omega) w a5 (h5.to ⟨rfl, rfl, trivial⟩) _ fun a6 h6 => wp_exit ?_)
          refine then_exit (in_block' ?_)
          have hrem : remL (s.data.toList.drop i) = remL (s.data.toList.drop (i + 1)) + 1 := by rw [hd, rem_cons (by rw [h47]; decide)]
          have hle : remL (s.data.toList.drop i) ≤ (s.data.toList.drop i).length := (List.takeWhile_sublist _).length_le
          rw [List.length_drop] at hle
          exact next a6 _ _ h6 (by omega) (by omega) (by
            rw [← hB, List.drop_drop]
            congr 2
            omega) (fun _ h => h)
        · refine wp_seq (wp_seq (be_r4_tt h4 rfl rfl hix (decide_eq_true (u8_eq h47 rfl)) (by omega) (decide_eq_true (by omega)) hix2 (decide_eq_false (u8_ne h47b rfl)) fun a5 h5 => wpo (h5.look 27 rfl) ?_))
          refine rest a5 (h5.to ⟨rfl, rfl, trivial⟩) (fun h => h47b (by have := h.2; rw [hhd] at this; injection this)) _ (fun a6 h6 hb => ?_) (fun a6 h => h)
          exact next a6 i _ h6 (Nat.le_refl _) (by omega) hb (fun _ h => h)
      · refine wp_seq (wp_seq (be_r4_tf h4 rfl rfl hix (decide_eq_true (u8_eq h47 rfl)) (by omega) (decide_eq_false (by omega)) fun a5 h5 => wpo (h5.look 27 rfl) ?_))
        refine rest a5 (h5.to ⟨rfl, rfl, trivial⟩) (fun h => by
          have := h.2
          rw [head_drop, List.getElem?_eq_none (by omega)] at this
          cases this) _ (fun a6 h6 hb => ?_) (fun a6 h => h)
        exact next a6 i _ h6 (Nat.le_refl _) (by omega) hb (fun _ h => h)
    · refine wp_seq (wp_seq (be_r4_f h4 rfl rfl hix (decide_eq_false (u8_ne h47 rfl)) fun a5 h5 => wpo (h5.look 27 rfl) ?_))
      refine rest a5 (h5.to ⟨rfl, rfl, trivial⟩) (fun h => h47 h.1) _ (fun a6 h6 hb => ?_) (fun a6 h => h)
      exact next a6 i _ h6 (Nat.le_refl _) (by omega) hb (fun _ h => h)
  · refine be_r2 h3 rfl rfl (decide_eq_false (by omega)) fun a4 h4 => wpx (h4.look 7 rfl) ?_
    refine then_exit (in_block' ?_)
    show Code.wp _ (Code.seq (r_be 9) .ret) _ a4 _
    rw [List.drop_of_length_le (by omega), betwL] at hB
    refine wp_seq (be_r9 h4 fun a5 h5 => wp_ret ?_)
    exact ret1 rfl h5 rfl ⟨by rw [← hB], rfl⟩

/-- What Unquote hands back: the text, and the error. -/
def UnqP (r : Ans (List UInt8)) (w w' : World) (x ev : Value) : Prop := Below w.heap.size w w' ∧ match r with
  | .ok t => x = .string (bs t) ∧ ev = .nilIface
  | .bad b => x = .string ⟨#[]⟩ ∧ ∃ g, ev = .iface 58 (.pointer (some ⟨g, 0, none⟩)) ∧ WrongB w w' g b
theorem unq_p (s : ByteArray) (hs : s.size ≤ 140737488355320) (w : World) : Calls Tryd.prog 18 #[.string s] w fun e w' => ∃ x ev, e = .returned (.tuple #[x, ev]) ∧ UnqP (unquote s.data.toList) w w' x ev :=
  (unquote_any s hs w).mono fun e w' h => by
    obtain ⟨hb, h⟩ := h
    cases hr : unquote s.data.toList with
    | ok t => rw [hr] at h; exact ⟨_, _, h, hb, rfl, rfl⟩
    | bad b =>
      rw [hr] at h
      obtain ⟨g, he, hg⟩ := h
      exact ⟨_, _, he, hb, rfl, g, rfl, hg⟩
set_option maxHeartbeats 4000000 in
theorem length_any (s : ByteArray) (hs : s.size ≤ 140737488355000) (i : Nat) (hi : i ≤ s.size) (y : List UInt8) (w : World) :
    Calls Tryd.prog 29 #[.string s, .int .i64 (i : Int), .string (bs y)] w fun e w' => e = .returned (.int .i64 ((lenL s.data.toList i y : Nat) : Int)) ∧ Below w.heap.size w w' := by
  have hsl : s.data.toList.length = s.size := by simp
  have hql : (s.data.toList.drop i).length = s.size - i := by rw [List.length_drop, hsl]
  refine calls_ev (vs := [.string s, .int .i64 (i : Int), .string (bs y)]) 39 Tryd.func29 le_body (by kernel_rfl) (by simp) fun a0 h0 => ?_
  unfold leBody
  refine wp_seq (le_r0 h0 fun a1 h1 => ?_)
  refine wp_seq (wp_seq (le_r1 h1 rfl (by omega) fun a2 h2 => ?_))
  refine wp_block ?_
  refine wp_loop (fun a' wr => ∃ (kk m : Nat), 2 ≤ kk ∧ i + kk ≤ s.size + 2 ∧ (s.data.toList.drop i).length < kk + m ∧ lenFrom (s.data.toList.drop i) y kk m = lenL s.data.toList i y ∧
      Sl 39 a' [(7, .int .i64 ((i + kk : Nat) : Int)), (2, .string (bs y)), (1, .int .i64 (i : Int)), (0, .string s)] ∧ Below w.heap.size w wr) (fun a' _ => muTo (s.size + 3) (slot a' 7))
    ⟨2, s.data.toList.length, by omega, by omega, by omega, rfl, h2.to ⟨rfl, rfl, rfl, rfl, trivial⟩, Below.refl _ _⟩ ?_
  rintro a3 w3 ⟨kk, m, hk2, hkz, hm, hL, h3, hb3⟩
  rw [h3.look 7 rfl, muTo_int]
  unfold leL0
  refine wp_seq (wp_seq ?_)
  by_cases hlt : i + kk ≤ s.size
  · refine le_r2 h3 rfl rfl (decide_eq_true (by omega)) fun a4 h4 => wpn (h4.look 15 rfl) ?_
    refine wp_seq (wp_block ?_)
    have hpos : i + kk - 1 < s.size := by omega
    have hix := fun w => idx_str hpos (x := ((i + kk : Nat) : Int) - 1) (by omega) w
    cases m with
    | zero => omega
    | succ m =>
      have next : ∀ (a' : Act) (w' : World) (Q : Exit → Act → World → Prop), Sl 39 a' [(7, .int .i64 ((i + kk : Nat) : Int)), (2, .string (bs y)), (1, .int .i64 (i : Int)), (0, .string s)] → Below w.heap.size w w' → lenFrom (s.data.toList.drop i) y (kk + 1) m = lenL s.data.toList i y →
          (∀ a'', ((∃ (kk m : Nat), 2 ≤ kk ∧ i + kk ≤ s.size + 2 ∧ (s.data.toList.drop i).length < kk + m ∧ lenFrom (s.data.toList.drop i) y kk m = lenL s.data.toList i y ∧ Sl 39 a'' [(7, .int .i64 ((i + kk : Nat) : Int)), (2, .string (bs y)), (1, .int .i64 (i : Int)), (0, .string s)] ∧ Below w.heap.size w w') ∧ muTo (s.size + 3) (slot a'' 7) < s.size + 3 - (i + kk)) → Q .normal a'' w') →
          (r_le 3).wp Tryd.prog Q a' w' := fun a' w' Q h hb hl hQ => by
        refine wpl (le_r3 h rfl (by omega) fun a5 h5 => hQ a5 ⟨⟨kk + 1, m, by omega, by omega, by omega, hl, h5.to ⟨rfl, rfl, rfl, rfl, trivial⟩, hb⟩, ?_⟩)
        rw [h5.look 7 rfl]
        show muTo (s.size + 3) (.int .i64 ((i + kk + 1 : Nat) : Int)) < _
        rw [muTo_int]
        omega
      rw [lenFrom, if_neg (by omega)] at hL
      have hq : (s.data.toList.drop i)[kk - 1]? = some (s[i + kk - 1]'hpos) := by
        rw [List.getElem?_drop, show i + (kk - 1) = i + kk - 1 by omega, List.getElem?_eq_getElem (by omega)]
        simp
        rfl
      rw [hq] at hL
      by_cases h34 : s[i + kk - 1]'hpos = 34
      · rw [if_neg (by rw [h34]; simp)] at hL
        refine wp_seq (wp_seq (le_r4 h4 rfl rfl (by omega) hix (decide_eq_false (not_not_intro (u8_eq h34 rfl))) fun a5 h5 => wpo (h5.look 22 rfl) ?_))
        have hsl2 : ∀ w, (Instr.sliceAt 9 (.string s) (some (.int .i64 (i : Int))) (some (.int .i64 ((i + kk : Nat) : Int))) none).run Tryd.prog w = .ok (.string (bs ((s.data.toList.drop i).take kk))) w := fun w => by
          rw [slat_str, sl_to (a := i) (b := i + kk) (by omega) (by omega) rfl rfl]
          rw [show i + kk - i = kk by omega]
        refine wp_seq (le_r5 h5 rfl rfl rfl hsl2 (unq_p _ (by rw [bs_size]; simp; omega) w3) fun a6 x ev w6 hu h6 => ?_)
        obtain ⟨hb6, hu⟩ := hu
        rw [bs_list] at hu
        cases hr : unquote ((s.data.toList.drop i).take kk) with
        | ok t =>
          rw [hr] at hu hL
          simp only at hL
          obtain ⟨rfl, rfl⟩ := hu
          refine wp_seq (le_r6n h6 rfl fun a7 h7 => wp_cond_true (h7.look 32 rfl) ?_)
          by_cases hty : t = y
          · subst hty
            rw [if_pos rfl] at hL
            refine wp_seq (wp_seq (le_r7 h7 rfl rfl (decide_eq_false (by simp)) fun a8 h8 => wpo (h8.look 35 rfl) ?_))
            refine wp_seq (le_r9 h8 rfl rfl (by omega) fun a9 h9 => wp_ret ?_)
            have e : ((i + kk : Nat) : Int) - (i : Int) = ((lenL s.data.toList i t : Nat) : Int) := by rw [← hL]; omega
            repeat (first | with_reducible refine then_ret ?_ | with_reducible refine block_ret ?_)
            exact ret1 rfl h9 rfl ⟨by rw [e], bl_trans hb3 hb6⟩
          · rw [if_neg hty] at hL
            refine wp_seq (wp_seq (le_r7 h7 rfl rfl (decide_eq_true (fun h => hty (bs_inj h))) fun a8 h8 => wp_cond_true (h8.look 35 rfl) ?_))
            refine wp_seq (le_r8 h8 fun a9 h9 => wp_ret ?_)
            repeat (first | with_reducible refine then_ret ?_ | with_reducible refine block_ret ?_)
            exact ret1 rfl h9 rfl ⟨by rw [← hL]; rfl, bl_trans hb3 hb6⟩
        | bad b =>
          rw [hr] at hu hL
          simp only at hL
          obtain ⟨rfl, g, rfl, _⟩ := hu
          refine wp_seq (le_r6e h6 rfl fun a7 h7 => wpc_off (h7.look 32 rfl) ?_)
          exact next a7 w6 _ (h7.to ⟨rfl, rfl, rfl, rfl, trivial⟩) (bl_trans hb3 hb6) hL fun _ h => h
      · rw [if_pos (by simpa using h34)] at hL
        refine wp_seq (wp_seq (le_r4 h4 rfl rfl (by omega) hix (decide_eq_true (u8_ne h34 rfl)) fun a5 h5 => wp_cond_true (h5.look 22 rfl) (wp_exit ?_)))
        refine then_exit (in_block' ?_)
        exact next a5 w3 _ (h5.to ⟨rfl, rfl, rfl, rfl, trivial⟩) hb3 hL fun _ h => h
  · refine le_r2 h3 rfl rfl (decide_eq_false (by omega)) fun a4 h4 => wpx (h4.look 15 rfl) ?_
    refine then_exit (in_block' ?_)
    show Code.wp _ (Code.seq (r_le 10) .ret) _ a4 _
    refine wp_seq (le_r10 h4 fun a5 h5 => wp_ret ?_)
    refine ret1 rfl h5 rfl ⟨?_, hb3⟩
    rw [← hL]
    cases m with
    | zero => rfl
    | succ m => rw [lenFrom, if_pos (by omega)]; rfl
end Go.Proofs.YtpggcmlddmckcaaDoor
