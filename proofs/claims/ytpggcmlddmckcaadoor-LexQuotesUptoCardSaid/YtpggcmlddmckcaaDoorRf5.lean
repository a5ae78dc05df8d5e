/-
  Contract of the reference's token. Written by an AI agent.
-/
import Derived.Test.YtpggcmlddmckcaaDoorRf4
namespace Go.Proofs.YtpggcmlddmckcaaDoor
open Go.RowKit Go.Sort
set_option maxRecDepth 100000

/-- What the reference's token hands back: the token, the place behind it, what is wrong (code 0: nothing). -/
def rtok (i : Nat) : List UInt8 → Tok × Nat × Bad
  | [] => (⟨0, [], 0⟩, 0, ⟨10, i⟩)
  | c :: r =>
    if isLet c then (if 40 < runL true (c :: r) then (⟨2, (c :: r).take (runL true (c :: r)), i⟩, 0, ⟨13, i⟩) else (⟨if wordB ((c :: r).take (runL true (c :: r))) then 3 else 2, (c :: r).take (runL true (c :: r)), i⟩, i + runL true (c :: r), ⟨0, 0⟩))
    else if isDig c then (if numBad (c :: r) then (numT i (c :: r), 0, ⟨12, i⟩) else (numT i (c :: r), i + (numT i (c :: r)).text.length, ⟨0, 0⟩))
    else if c = 34 then (match litL i (i + 1) [] r with
      | .ok x => (⟨6, x.1, i⟩, x.2, ⟨0, 0⟩)
      | .bad b => (⟨6, [], i⟩, 0, b))
    else match signsL.find? (fun x => x.isPrefixOf (c :: r)) with
      | some x => (⟨7, x, i⟩, i + x.length, ⟨0, 0⟩)
      | none => (⟨0, [], 0⟩, 0, ⟨10, i⟩)
def rtokV (x : Tok × Nat × Bad) : Value := .tuple #[tokA x.1, .int .i64 (x.2.1 : Int), .agg #[.int .i64 (x.2.2.code : Int), .int .i64 (x.2.2.place : Int), .string ⟨#[]⟩]]
theorem find_get {p : List UInt8 → Bool} : ∀ (L : List (List UInt8)) (j : Nat), (∀ i x, i < j → L[i]? = some x → p x = false) → ∀ x, L[j]? = some x → p x = true → L.find? p = some x
  | [], j, _, x, h, _ => by simp at h
  | y :: L, 0, _, x, h, hp => by
    have : y = x := by simpa using h
    subst this
    rw [List.find?_cons_of_pos hp]
  | y :: L, j + 1, hb, x, h, hp => by
    rw [List.find?_cons_of_neg (by rw [hb 0 y (by omega) rfl]; decide)]
    exact find_get L j (fun i x' hi h' => hb (i + 1) x' (by omega) (by simpa using h')) x (by simpa using h) hp
theorem prefix_take {x l : List UInt8} : x.isPrefixOf l = decide (l.take x.length = x) := by
  rw [Bool.eq_iff_iff, List.isPrefixOf_iff_prefix, decide_eq_true_iff]
  exact ⟨fun ⟨m, e⟩ => by rw [← e, List.take_left], fun e => ⟨l.drop x.length, by
    have := List.take_append_drop x.length l
    rw [e] at this
    exact this⟩⟩
theorem prefix_long {x l : List UInt8} (h : l.length < x.length) : x.isPrefixOf l = false := by
  cases hh : x.isPrefixOf l with
  | false => rfl
  | true =>
    have := (List.isPrefixOf_iff_prefix.1 hh).length_le
    omega

set_option maxHeartbeats 4000000 in
theorem rtoken_any (s : ByteArray) (hs : s.size ≤ 140737488300000) (i : Nat) (hi : i < s.size) (w : World) :
    Calls Tryd.prog 32 #[.string s, .int .i64 (i : Int)] w fun e w' => e = .returned (rtokV (rtok i (s.data.toList.drop i))) ∧ Below w.heap.size w w' := by
  have hsl : s.data.toList.length = s.size := by simp
  have hd := drop_list s i hi
  have hdl : (s.data.toList.drop i).length = s.size - i := by rw [List.length_drop, hsl]
  obtain ⟨V, hV⟩ : ∃ V, V = rtok i (s.data.toList.drop i) := ⟨_, rfl⟩
  rw [← hV]
  rw [hd, rtok] at hV
  rw [← hd] at hV
  refine calls_ev (vs := [.string s, .int .i64 (i : Int)]) 130 Tryd.func32 tk_body (by kernel_rfl) (by simp) fun a0 h0 => ?_
  unfold tkBody
  refine wp_seq (tk_r0 h0 fun a1 h1 => ?_)
  have hZ1 : TokZ ((w.alloc (.cells #[.int .i64 0, .string ⟨#[]⟩, .int .i64 0] 48)).alloc (.cells #[.int .i64 0, .int .i64 0, .string ⟨#[]⟩] 26)) w.heap.size 0 [] 0 := (Blk.new w 48 #[.int .i64 0, .string ⟨#[]⟩, .int .i64 0]).alloc _
  have hW1 : WrB ((w.alloc (.cells #[.int .i64 0, .string ⟨#[]⟩, .int .i64 0] 48)).alloc (.cells #[.int .i64 0, .int .i64 0, .string ⟨#[]⟩] 26)) (w.alloc (.cells #[.int .i64 0, .string ⟨#[]⟩, .int .i64 0] 48)).heap.size 0 0 := Blk.new _ _ _
  have hb1 := bl_alloc (bl_alloc (Below.refl w.heap.size w) (.cells #[.int .i64 0, .string ⟨#[]⟩, .int .i64 0] 48)) (.cells #[.int .i64 0, .int .i64 0, .string ⟨#[]⟩] 26)
  obtain ⟨g4, hg4⟩ : ∃ g, g = w.heap.size := ⟨_, rfl⟩
  obtain ⟨g6, hg6⟩ : ∃ g, g = (w.alloc (.cells #[.int .i64 0, .string ⟨#[]⟩, .int .i64 0] 48)).heap.size := ⟨_, rfl⟩
  have h46 : g4 < g6 := by rw [hg6, hg4]; simp
  rw [← hg4, ← hg6] at h1
  rw [← hg4] at hZ1
  rw [← hg6] at hW1
  generalize (w.alloc (.cells #[.int .i64 0, .string ⟨#[]⟩, .int .i64 0] 48)).alloc (.cells #[.int .i64 0, .int .i64 0, .string ⟨#[]⟩] 26) = w1 at hZ1 hW1 hb1 ⊢
  have hix := fun w => idx_str hi (x := (i : Int)) rfl w
  refine wp_seq (tk_r1 h1 rfl rfl hix fun a2 h2 => ?_)
  have fin : ∀ a' w' l' (t : Tok) (nx : Nat) (b : Bad), Sl 130 a' l' → l'.lookup 4 = some (.pointer (some ⟨g4, 0, none⟩)) → l'.lookup 5 = some (.int .i64 (nx : Int)) → l'.lookup 6 = some (.pointer (some ⟨g6, 0, none⟩)) → TokZ w' g4 t.kind t.text t.place → WrB w' g6 b.code b.place → Below w.heap.size w w' → V = (t, nx, b) →
      bodyPost Tryd.prog Tryd.f32 (fun e w' => e = .returned (rtokV V) ∧ Below w.heap.size w w') .ret a' w' := fun a' w' l' t nx b h' e4 e5 e6 hz hw hb he =>
    ret_ctc rfl h' e4 e5 e6 hz.load hw.load ⟨by rw [he]; rfl, hb⟩
  have hlet := rletter_any ((s[i]'hi).toNat : Int) w1
  rw [letN_of] at hlet
  have hdig := fun w => rdigit_any ((s[i]'hi).toNat : Int) w
  refine wp_seq (wp_block ?_)
  cases hL : isLet (s[i]'hi) with
  | true =>
    rw [hL, if_pos rfl] at hV
    rw [hL] at hlet
    have hrl : runL true (s.data.toList.drop i) ≤ s.size - i := by rw [← hdl]; exact run_le _ _
    obtain ⟨n, hn⟩ : ∃ n, n = runL true (s.data.toList.drop i) := ⟨_, rfl⟩
    rw [← hn] at hV hrl
    refine wp_seq (tk_r2 h2 rfl hlet fun a3 w3 hw3 h3 => ?_)
    subst hw3
    refine wp_cond_true (h3.look 22 rfl) ?_
    have hrun := rrun_any s (by omega) i (by omega) true w1
    rw [← hn] at hrun
    refine wp_seq (tk_r3 h3 rfl rfl hrun fun a4 w4 hw4 h4 => ?_)
    subst hw4
    have hN := Blk.new w1 48 #[.int .i64 0, .string ⟨#[]⟩, .int .i64 0]
    refine wp_seq (tk_r4 h4 rfl rfl rfl (by omega) (sub_run i n (by omega)) (TokZ.store (x := []) hN) fun a5 h5 => ?_)
    have y9 := TokZ.set (x := []) hN 2 ((s.data.toList.drop i).take n) i
    have y4 : TokZ ((w1.alloc (.cells #[.int .i64 0, .string ⟨#[]⟩, .int .i64 0] 48)).setCells w1.heap.size 0 [.int .i64 2, .string (bs ((s.data.toList.drop i).take n)), .int .i64 (i : Int)]) g4 0 [] 0 := Blk.farL (by have := hZ1.lt; omega) _ _ _ (hZ1.alloc _)
    have y6 : WrB ((w1.alloc (.cells #[.int .i64 0, .string ⟨#[]⟩, .int .i64 0] 48)).setCells w1.heap.size 0 [.int .i64 2, .string (bs ((s.data.toList.drop i).take n)), .int .i64 (i : Int)]) g6 0 0 := Blk.farL (by have := hW1.lt; omega) _ _ _ (hW1.alloc _)
    have yb : Below w.heap.size w ((w1.alloc (.cells #[.int .i64 0, .string ⟨#[]⟩, .int .i64 0] 48)).setCells w1.heap.size 0 [.int .i64 2, .string (bs ((s.data.toList.drop i).take n)), .int .i64 (i : Int)]) := below_setCells _ _ _ (bl_alloc hb1 _) hb1.size
    have h4lt := hZ1.lt
    have h6lt := hW1.lt
    obtain ⟨g9, hg9⟩ : ∃ g, g = w1.heap.size := ⟨_, rfl⟩
    generalize (w1.alloc (.cells #[.int .i64 0, .string ⟨#[]⟩, .int .i64 0] 48)).setCells w1.heap.size 0 [.int .i64 2, .string (bs ((s.data.toList.drop i).take n)), .int .i64 (i : Int)] = w5 at y9 y4 y6 yb ⊢
    rw [← hg9] at h5 y9 h4lt h6lt
    by_cases h40 : 40 < n
    · rw [if_pos h40] at hV
      refine wp_seq (wp_seq (tk_r5 h5 rfl (decide_eq_true (by omega)) fun a6 h6 => wp_cond_true (h6.look 37 rfl) ?_))
      refine wp_seq (tk_r6 h6 rfl rfl rfl rfl y9.load y4.store (WrB.store (c := 0) (p := 0) (Blk.farL (by omega) _ _ _ y6)) fun a7 h7 => wp_ret ?_)
      repeat (first | with_reducible refine then_ret ?_ | with_reducible refine block_ret ?_)
      exact fin a7 _ _ ⟨2, (s.data.toList.drop i).take n, i⟩ 0 ⟨13, i⟩ h7 rfl rfl rfl (Blk.farL (by omega) _ _ _ (TokZ.set y4 2 ((s.data.toList.drop i).take n) i)) (WrB.set (Blk.farL (by omega) _ _ _ y6) 13 i) (below_setCells _ _ _ (below_setCells _ _ _ yb (by omega)) (by omega)) hV
    rw [if_neg h40] at hV
    refine wp_seq (wp_seq (tk_r5 h5 rfl (decide_eq_false (by omega)) fun a6 h6 => wpo (h6.look 37 rfl) ?_))
    have l1 : Lds Tryd.prog 9 (.pointer (some ⟨g9, 1, none⟩)) (.string (bs ((s.data.toList.drop i).take n))) w5 := lds1 Tryd.underlying9 rfl (y9.cell 1)
    have hwd := rWord_any (bs ((s.data.toList.drop i).take n)) w5
    rw [bs_list] at hwd
    refine wp_seq (tk_r7 h6 rfl l1 hwd fun a7 w7 hb7 h7 => ?_)
    have z9 : TokZ w7 g9 2 ((s.data.toList.drop i).take n) i := Blk.below y9 hb7 y9.lt
    have z4 : TokZ w7 g4 0 [] 0 := Blk.below y4 hb7 y4.lt
    have z6 : WrB w7 g6 0 0 := Blk.below y6 hb7 y6.lt
    have zb := bl_trans yb hb7
    have last : ∀ a8 w8 l8 (kd : Nat), Sl 130 a8 l8 → AllL l8 [(9, .pointer (some ⟨g9, 0, none⟩)), (8, .int .i64 (n : Int)), (6, .pointer (some ⟨g6, 0, none⟩)), (4, .pointer (some ⟨g4, 0, none⟩)), (1, .int .i64 (i : Int))] → TokZ w8 g9 kd ((s.data.toList.drop i).take n) i → TokZ w8 g4 0 [] 0 → WrB w8 g6 0 0 → Below w.heap.size w w8 → V = (⟨kd, (s.data.toList.drop i).take n, i⟩, i + n, ⟨0, 0⟩) →
        ∀ Q : Exit → Act → World → Prop, (∀ a' w', bodyPost Tryd.prog Tryd.f32 (fun e w' => e = .returned (rtokV V) ∧ Below w.heap.size w w') .ret a' w' → Q .ret a' w') → (Code.seq (r_tk 10) .ret).wp Tryd.prog Q a8 w8 := fun a8 w8 l8 kd h8 hl8 x9 x4 x6 xb hv Q hQ => by
      refine wp_seq (tk_r10 (h8.to hl8) rfl rfl rfl rfl rfl x9.load (by omega) x4.store (WrB.store (c := 0) (p := 0) (Blk.farL (by omega) _ _ _ x6)) fun a9 h9 => wp_ret (hQ _ _ ?_))
      exact fin a9 _ _ ⟨kd, (s.data.toList.drop i).take n, i⟩ (i + n) ⟨0, 0⟩ h9 rfl rfl rfl (Blk.farL (by omega) _ _ _ (TokZ.set x4 kd ((s.data.toList.drop i).take n) i)) (WrB.set (Blk.farL (by omega) _ _ _ x6) 0 0) (below_setCells _ _ _ (below_setCells _ _ _ xb (by omega)) (by omega)) hv
    cases hwb : wordB ((s.data.toList.drop i).take n) with
    | true =>
      rw [hwb] at h7
      rw [hwb, if_pos rfl] at hV
      refine wp_seq (wp_seq (tk_r8 h7 rfl fun a8 h8 => wp_cond_true (h8.look 44 rfl) ?_))
      refine wpl (tk_r9 h8 rfl (sts1 (there_blk z9 (by simp)) intInf rfl) fun a9 h9 => ?_)
      exact last a9 (w7.setCells g9 0 [.int .i64 3]) _ 3 h9 ⟨rfl, rfl, rfl, rfl, rfl, trivial⟩ (z9.set_ 0 _) (Blk.farL (by omega) _ _ _ z4) (Blk.farL (by omega) _ _ _ z6) (below_setCells _ _ _ zb (by omega)) hV _ (fun _ _ h => block_ret h)
    | false =>
      rw [hwb] at h7
      rw [hwb, if_neg (by decide)] at hV
      refine wp_seq (wp_seq (tk_r8 h7 rfl fun a8 h8 => wpo (h8.look 44 rfl) ?_))
      exact last a8 _ _ 2 h8 ⟨rfl, rfl, rfl, rfl, rfl, trivial⟩ z9 z4 z6 zb hV _ (fun _ _ h => block_ret h)
  | false =>
    rw [hL, if_neg (by decide)] at hV
    rw [hL] at hlet
    refine wp_seq (tk_r2 h2 rfl hlet fun a3 w3 hw3 h3 => ?_)
    subst hw3
    refine wp_cond_false (h3.look 22 rfl) ?_
    have h4lt := hZ1.lt
    have h6lt := hW1.lt
    cases hD : isDig (s[i]'hi) with
    | true =>
      rw [hD, if_pos rfl] at hV
      have hdg := hdig w1
      rw [digN_of, hD] at hdg
      refine wp_seq (tk_r11 h3 rfl hdg fun a4 w4 hw4 h4 => ?_)
      subst hw4
      refine wp_cond_true (h4.look 51 rfl) ?_
      obtain ⟨t, ht⟩ : ∃ t, t = numT i (s.data.toList.drop i) := ⟨_, rfl⟩
      have hnum := rnumber_any s (by omega) i hi w1
      rw [← ht] at hnum hV
      refine wp_seq (tk_r12 h4 rfl rfl hnum (fun w5 _ => TokZ.store (x := []) (Blk.new w5 _ #[.int .i64 0, .string ⟨#[]⟩, .int .i64 0])) fun a5 w5 hb5 h5 => ?_)
      have hN := Blk.new w5 48 #[.int .i64 0, .string ⟨#[]⟩, .int .i64 0]
      have y11 := TokZ.set (x := []) hN t.kind t.text t.place
      have z4 : TokZ w5 g4 0 [] 0 := Blk.below hZ1 hb5 hZ1.lt
      have z6 : WrB w5 g6 0 0 := Blk.below hW1 hb5 hW1.lt
      have z4l := z4.lt
      have z6l := z6.lt
      have hbw5 := bl_trans hb1 hb5
      have y4 : TokZ ((w5.alloc (.cells #[.int .i64 0, .string ⟨#[]⟩, .int .i64 0] 48)).setCells w5.heap.size 0 [.int .i64 (t.kind : Int), .string (bs t.text), .int .i64 (t.place : Int)]) g4 0 [] 0 := Blk.farL (by omega) _ _ _ (z4.alloc _)
      have y6 : WrB ((w5.alloc (.cells #[.int .i64 0, .string ⟨#[]⟩, .int .i64 0] 48)).setCells w5.heap.size 0 [.int .i64 (t.kind : Int), .string (bs t.text), .int .i64 (t.place : Int)]) g6 0 0 := Blk.farL (by omega) _ _ _ (z6.alloc _)
      have yb : Below w.heap.size w ((w5.alloc (.cells #[.int .i64 0, .string ⟨#[]⟩, .int .i64 0] 48)).setCells w5.heap.size 0 [.int .i64 (t.kind : Int), .string (bs t.text), .int .i64 (t.place : Int)]) := below_setCells _ _ _ (bl_alloc hbw5 _) hbw5.size
      obtain ⟨g11, hg11⟩ : ∃ g, g = w5.heap.size := ⟨_, rfl⟩
      generalize (w5.alloc (.cells #[.int .i64 0, .string ⟨#[]⟩, .int .i64 0] 48)).setCells w5.heap.size 0 [.int .i64 (t.kind : Int), .string (bs t.text), .int .i64 (t.place : Int)] = w6 at y11 y4 y6 yb ⊢
      rw [← hg11] at h5 y11 z4l z6l
      cases hnb : numBad (s.data.toList.drop i) with
      | true =>
        rw [hnb] at h5
        rw [hnb, if_pos rfl] at hV
        refine wp_seq (wp_seq (tk_r13 h5 rfl fun a6 h6 => wp_cond_true (h6.look 60 rfl) ?_))
        refine wp_seq (tk_r14 h6 rfl rfl rfl rfl y11.load y4.store (WrB.store (c := 0) (p := 0) (Blk.farL (by omega) _ _ _ y6)) fun a7 h7 => wp_ret ?_)
        repeat (first | with_reducible refine then_ret ?_ | with_reducible refine block_ret ?_)
        exact fin a7 _ _ t 0 ⟨12, i⟩ h7 rfl rfl rfl (Blk.farL (by omega) _ _ _ (TokZ.set y4 t.kind t.text t.place)) (WrB.set (Blk.farL (by omega) _ _ _ y6) 12 i) (below_setCells _ _ _ (below_setCells _ _ _ yb (by omega)) (by omega)) hV
      | false =>
        rw [hnb] at h5
        rw [hnb, if_neg (by decide)] at hV
        have htl : t.text.length ≤ s.size := by
          have := numT_len i (s.data.toList.drop i)
          rw [← ht] at this
          have h1 : runL false (s.data.toList.drop i) ≤ s.size - i := by rw [← hdl]; exact run_le _ _
          have h2 := numPart_le ((s.data.toList.drop i).drop (runL false (s.data.toList.drop i)))
          rw [List.length_drop, hdl] at h2
          rw [this]
          split <;> omega
        refine wp_seq (wp_seq (tk_r13 h5 rfl fun a6 h6 => wpo (h6.look 60 rfl) ?_))
        refine wp_seq (tk_r15 (C := fun u => TokZ u g11 t.kind t.text t.place) (x64 := bs t.text) h6 rfl rfl rfl rfl (fun u hu => hu.load) (fun u hu => lds1 Tryd.underlying9 rfl (hu.cell 1)) (by rw [bs_size]; omega) (y11.drewN 1) (TokZ.store (x := []) (y4.drewN 1)) (Blk.farL (by omega) _ _ _ (y11.drewN 1)) (WrB.store (c := 0) (p := 0) (Blk.farL (by omega) _ _ _ (y6.drewN 1))) fun a7 h7 => wp_ret ?_)
        repeat (first | with_reducible refine then_ret ?_ | with_reducible refine block_ret ?_)
        exact fin a7 _ _ t (i + t.text.length) ⟨0, 0⟩ h7 rfl (by rw [bs_size]; rfl) rfl (Blk.farL (by omega) _ _ _ (TokZ.set (x := []) (y4.drewN 1) t.kind t.text t.place)) (WrB.set (c := 0) (p := 0) (Blk.farL (by omega) _ _ _ (y6.drewN 1)) 0 0) (below_setCells _ _ _ (below_setCells _ _ _ (below_drewN yb 1) (by omega)) (by omega)) hV
    | false =>
      rw [hD, if_neg (by decide)] at hV
      have hdg := hdig w1
      rw [digN_of, hD] at hdg
      refine wp_seq (tk_r11 h3 rfl hdg fun a4 w4 hw4 h4 => ?_)
      subst hw4
      refine wp_cond_false (h4.look 51 rfl) ?_
      by_cases h34 : s[i]'hi = 34
      · rw [if_pos h34] at hV
        refine wp_seq (tk_r16 h4 rfl (decide_eq_true (by rw [h34]; rfl)) fun a5 h5 => wp_cond_true (h5.look 71 rfl) ?_)
        have hlit := rliteral_any s hs i hi w1
        have lit : ∀ (tx : List UInt8) (nx : Nat) (b : Bad), V = (⟨6, tx, i⟩, nx, b) → (Calls Tryd.prog 38 #[.string s, .int .i64 (i : Int)] w1 fun e w' => e = .returned (.tuple #[.string (bs tx), .int .i64 (nx : Int), .agg #[.int .i64 (b.code : Int), .int .i64 (b.place : Int), .string ⟨#[]⟩]]) ∧ Below w1.heap.size w1 w') →
            ∀ Q : Exit → Act → World → Prop, (∀ a' w', bodyPost Tryd.prog Tryd.f32 (fun e w' => e = .returned (rtokV V) ∧ Below w.heap.size w w') .ret a' w' → Q .ret a' w') → (Code.seq (r_tk 17) (.seq (r_tk 18) .ret)).wp Tryd.prog Q a5 w1 := fun tx nx b hv hl Q hQ => by
          refine wp_seq (tk_r17 h5 rfl rfl hl (fun w5 _ => WrB.store (c := 0) (p := 0) (Blk.new w5 _ #[.int .i64 0, .int .i64 0, .string ⟨#[]⟩])) fun a6 w5 hb5 h6 => ?_)
          have hN : WrB (w5.alloc (.cells #[.int .i64 0, .int .i64 0, .string ⟨#[]⟩] 26)) w5.heap.size 0 0 := Blk.new _ _ _
          have y15 := hN.set b.code b.place
          have z4 : TokZ w5 g4 0 [] 0 := Blk.below hZ1 hb5 hZ1.lt
          have z6 : WrB w5 g6 0 0 := Blk.below hW1 hb5 hW1.lt
          have z4l := z4.lt
          have z6l := z6.lt
          have hbw5 := bl_trans hb1 hb5
          have y4 : TokZ ((w5.alloc (.cells #[.int .i64 0, .int .i64 0, .string ⟨#[]⟩] 26)).setCells w5.heap.size 0 [.int .i64 (b.code : Int), .int .i64 (b.place : Int), .string ⟨#[]⟩]) g4 0 [] 0 := Blk.farL (by omega) _ _ _ (z4.alloc _)
          have y6 : WrB ((w5.alloc (.cells #[.int .i64 0, .int .i64 0, .string ⟨#[]⟩] 26)).setCells w5.heap.size 0 [.int .i64 (b.code : Int), .int .i64 (b.place : Int), .string ⟨#[]⟩]) g6 0 0 := Blk.farL (by omega) _ _ _ (z6.alloc _)
          have yb : Below w.heap.size w ((w5.alloc (.cells #[.int .i64 0, .int .i64 0, .string ⟨#[]⟩] 26)).setCells w5.heap.size 0 [.int .i64 (b.code : Int), .int .i64 (b.place : Int), .string ⟨#[]⟩]) := below_setCells _ _ _ (bl_alloc hbw5 _) hbw5.size
          obtain ⟨g15, hg15⟩ : ∃ g, g = w5.heap.size := ⟨_, rfl⟩
          generalize (w5.alloc (.cells #[.int .i64 0, .int .i64 0, .string ⟨#[]⟩] 26)).setCells w5.heap.size 0 [.int .i64 (b.code : Int), .int .i64 (b.place : Int), .string ⟨#[]⟩] = w6 at y15 y4 y6 yb ⊢
          rw [← hg15] at h6 y15 z4l z6l
          refine wp_seq (tk_r18 (C := fun u => WrB u g15 b.code b.place) h6 rfl rfl rfl rfl rfl rfl (fun u hu => hu.load) (y15.drewN 1) (TokZ.store (x := []) (y4.drewN 1)) (Blk.farL (by omega) _ _ _ (y15.drewN 1)) (WrB.store (c := 0) (p := 0) (Blk.farL (by omega) _ _ _ (y6.drewN 1))) fun a7 h7 => wp_ret (hQ _ _ ?_))
          exact fin a7 _ _ ⟨6, tx, i⟩ nx b h7 rfl rfl rfl (Blk.farL (by omega) _ _ _ (TokZ.set (x := []) (y4.drewN 1) 6 tx i)) (WrB.set (c := 0) (p := 0) (Blk.farL (by omega) _ _ _ (y6.drewN 1)) b.code b.place) (below_setCells _ _ _ (below_setCells _ _ _ (below_drewN yb 1) (by omega)) (by omega)) hv
        cases hlr : litL i (i + 1) [] (s.data.toList.drop (i + 1)) with
        | ok x =>
          rw [hlr] at hlit hV
          exact lit x.1 x.2 ⟨0, 0⟩ hV hlit _ (fun _ _ h => block_ret h)
        | bad b =>
          rw [hlr] at hlit hV
          exact lit [] 0 b hV hlit _ (fun _ _ h => block_ret h)
      · rw [if_neg h34] at hV
        have n34 : ¬ (((s[i]'hi).toNat : Int) = 34) := fun e => h34 (UInt8.toNat_inj.1 (by have : (34 : UInt8).toNat = 34 := rfl; omega))
        refine wp_seq (tk_r16 h4 rfl (decide_eq_false n34) fun a5 h5 => wpc_off (h5.look 71 rfl) (block_norm ?_))
        show Code.wp _ (Code.seq (r_tk 19) _) _ a5 w1
        refine wp_seq (tk_r19 h5 (Calls.con (signs_any w1)) fun a6 x6 w6 hx h6 => ?_)
        obtain ⟨rfl, rfl⟩ := hx
        have hS := Blk.new w1 9 signsC
        have hbs := bl_alloc (Below.refl w1.heap.size w1) (.cells signsC 9)
        have z4 := Blk.alloc hZ1 (.cells signsC 9)
        have z6 := Blk.alloc hW1 (.cells signsC 9)
        have zb := bl_trans hb1 hbs
        obtain ⟨gs, hgs⟩ : ∃ g, g = w1.heap.size := ⟨_, rfl⟩
        generalize w1.alloc (.cells signsC 9) = w6 at hS z4 z6 zb ⊢
        rw [← hgs] at h6 hS h4lt h6lt
        refine wp_seq (wp_seq (tk_r20 h6 fun a7 h7 => ?_))
        refine wp_block ?_
        refine wp_loop (fun a' wr => ∃ (j : Nat), j ≤ 42 ∧ (∀ k x, k < j → signsL[k]? = some x → x.isPrefixOf (s.data.toList.drop i) = false) ∧ Sl 130 a' [(17, .int .i64 (j : Int)), (16, .slice (some ⟨gs, 0, none⟩) 42 42), (6, .pointer (some ⟨g6, 0, none⟩)), (4, .pointer (some ⟨g4, 0, none⟩)), (1, .int .i64 (i : Int)), (0, .string s)] ∧ ∃ m, wr = w6.drewN m) (fun a' _ => muTo 42 (slot a' 17))
          ⟨0, by omega, fun k x h => by omega, h7.to ⟨rfl, rfl, rfl, rfl, rfl, rfl, trivial⟩, 0, rfl⟩ ?_
        rintro a8 _ ⟨j, hj, hno, h8, m, rfl⟩
        rw [h8.look 17 rfl, muTo_int]
        unfold tkL0
        refine wp_seq (wp_seq ?_)
        by_cases hjl : j < 42
        · refine tk_r21 h8 rfl rfl (decide_eq_true (by omega)) fun a9 h9 => wpn (h9.look 90 rfl) ?_
          refine wp_seq (wp_block ?_)
          have hjs : j < signsL.length := hjl
          have hx : signsL[j]? = some signsL[j] := List.getElem?_eq_getElem hjs
          have hll : ∀ u, Blk u gs 9 signsC → Lds Tryd.prog 9 (.pointer (some ⟨gs, j, none⟩)) (.string (bs signsL[j])) u := fun u hu => lds1 Tryd.underlying9 rfl ((hu.cell j).trans (by unfold signsC; simp [hjs]))
          have hxl : 1 ≤ signsL[j].length ∧ signsL[j].length ≤ 3 := by
            have : ∀ x ∈ signsL, 1 ≤ x.length ∧ x.length ≤ 3 := by decide
            exact this _ (List.getElem_mem hjs)
          have hia : ∀ w, (Instr.indexAt 43 (.slice (some ⟨gs, 0, none⟩) 42 42) (.int .i64 (j : Int))).run Tryd.prog w = .ok (.pointer (some ⟨gs, j, none⟩)) w := ix_at (sz := 1) j rfl Tryd.underlying43 strInf hjl (by omega)
          refine wp_seq (tk_r23 h9 rfl rfl hia (hll _ (hS.drewN m)) fun a10 h10 => ?_)
          have h10' := h10.to (l0 := [(18, .int .i64 ((bs signsL[j]).size : Int)), (17, .int .i64 (j : Int)), (16, .slice (some ⟨gs, 0, none⟩) 42 42), (6, .pointer (some ⟨g6, 0, none⟩)), (4, .pointer (some ⟨g4, 0, none⟩)), (1, .int .i64 (i : Int)), (0, .string s)]) ⟨rfl, rfl, rfl, rfl, rfl, rfl, rfl, trivial⟩
          rw [bs_size] at h10'
          have next : ∀ a11 m' l11, Sl 130 a11 l11 → AllL l11 [(17, .int .i64 (j : Int)), (16, .slice (some ⟨gs, 0, none⟩) 42 42), (6, .pointer (some ⟨g6, 0, none⟩)), (4, .pointer (some ⟨g4, 0, none⟩)), (1, .int .i64 (i : Int)), (0, .string s)] → signsL[j].isPrefixOf (s.data.toList.drop i) = false → ∀ Q : Exit → Act → World → Prop,
              (∀ a'', ((∃ (j : Nat), j ≤ 42 ∧ (∀ k x, k < j → signsL[k]? = some x → x.isPrefixOf (s.data.toList.drop i) = false) ∧ Sl 130 a'' [(17, .int .i64 (j : Int)), (16, .slice (some ⟨gs, 0, none⟩) 42 42), (6, .pointer (some ⟨g6, 0, none⟩)), (4, .pointer (some ⟨g4, 0, none⟩)), (1, .int .i64 (i : Int)), (0, .string s)] ∧ ∃ m, w6.drewN m' = w6.drewN m) ∧ muTo 42 (slot a'' 17) < 42 - j) → Q .normal a'' (w6.drewN m')) → (r_tk 22).wp Tryd.prog Q a11 (w6.drewN m') := fun a11 m' l11 h11 hl11 hnp Q hQ => by
            refine wpl (tk_r22 (h11.to hl11) rfl (by omega) fun a12 h12 => hQ a12 ⟨⟨j + 1, by omega, fun k x hk hx' => ?_, h12.to ⟨rfl, rfl, rfl, rfl, rfl, rfl, trivial⟩, m', rfl⟩, ?_⟩)
            · rcases Nat.lt_or_ge k j with h | h
              · exact hno k x h hx'
              · have : k = j := by omega
                subst this
                rw [hx] at hx'
                injection hx' with hx'
                rw [← hx']
                exact hnp
            · rw [h12.look 17 rfl]
              show muTo 42 (.int .i64 ((j + 1 : Nat) : Int)) < _
              rw [muTo_int]
              omega
          by_cases hfit : i + signsL[j].length ≤ s.size
          · by_cases heq : (s.data.toList.drop i).take signsL[j].length = signsL[j]
            · have hpre : signsL[j].isPrefixOf (s.data.toList.drop i) = true := by rw [prefix_take, decide_eq_true heq]
              refine wp_seq (tk_r24_t h10' rfl rfl rfl rfl rfl (by omega) (decide_eq_true (by omega)) (sub_run i _ hfit) hia (hll _ (hS.drewN m)) ((bs_dec _ _).trans (decide_eq_true heq)) fun a11 m' h11 => wp_cond_true (h11.look 116 rfl) ?_)
              have hv : V = (⟨7, signsL[j], i⟩, i + signsL[j].length, ⟨0, 0⟩) := by
                have hf := find_get (p := fun x => x.isPrefixOf (s.data.toList.drop i)) signsL j (fun k x hk hx' => hno k x hk hx') _ hx hpre
                rw [hf] at hV
                exact hV
              refine wp_seq (tk_r25 h11 rfl rfl rfl rfl rfl rfl hia (hll _ ((hS.drewN m).drewN m')) (by omega) (TokZ.store (x := []) ((z4.drewN m).drewN m')) (WrB.store (c := 0) (p := 0) (Blk.farL (by omega) _ _ _ ((z6.drewN m).drewN m'))) fun a12 h12 => wp_ret ?_)
              repeat (first | with_reducible refine then_ret ?_ | with_reducible refine block_ret ?_)
              exact fin a12 _ _ ⟨7, signsL[j], i⟩ (i + signsL[j].length) ⟨0, 0⟩ h12 rfl rfl rfl (Blk.farL (by omega) _ _ _ (TokZ.set (x := []) ((z4.drewN m).drewN m') 7 signsL[j] i)) (WrB.set (c := 0) (p := 0) (Blk.farL (by omega) _ _ _ ((z6.drewN m).drewN m')) 0 0) (below_setCells _ _ _ (below_setCells _ _ _ (below_drewN (below_drewN zb m) m') (by omega)) (by omega)) hv
            · refine wp_seq (tk_r24_t h10' rfl rfl rfl rfl rfl (by omega) (decide_eq_true (by omega)) (sub_run i _ hfit) hia (hll _ (hS.drewN m)) ((bs_dec _ _).trans (decide_eq_false heq)) fun a11 m' h11 => wpc_off (h11.look 116 rfl) ?_)
              have e2 : (w6.drewN m).drewN m' = w6.drewN (m + m') := by simp [World.drewN, Nat.add_assoc]
              rw [e2]
              exact next a11 (m + m') _ h11 ⟨rfl, rfl, rfl, rfl, rfl, rfl, trivial⟩ (by rw [prefix_take, decide_eq_false heq]) _ (fun _ h => h)
          · refine wp_seq (tk_r24_f h10' rfl rfl rfl (by omega) (decide_eq_false (by omega)) fun a11 m' h11 => wpc_off (h11.look 116 rfl) ?_)
            have e2 : (w6.drewN m).drewN m' = w6.drewN (m + m') := by simp [World.drewN, Nat.add_assoc]
            rw [e2]
            exact next a11 (m + m') _ h11 ⟨rfl, rfl, rfl, rfl, rfl, rfl, trivial⟩ (prefix_long (by omega)) _ (fun _ h => h)
        · refine tk_r21 h8 rfl rfl (decide_eq_false (by omega)) fun a9 h9 => wpx (h9.look 90 rfl) ?_
          refine then_exit (in_block' ?_)
          show Code.wp _ (Code.seq (r_tk 26) .ret) _ a9 _
          have hv : V = (⟨0, [], 0⟩, 0, ⟨10, i⟩) := by
            have hf : signsL.find? (fun x => x.isPrefixOf (s.data.toList.drop i)) = none := by
              rw [List.find?_eq_none]
              intro x hx
              obtain ⟨k, hk⟩ := List.getElem?_of_mem hx
              have hkl := (List.getElem?_eq_some_iff.1 hk).1
              rw [hno k x (by have : signsL.length = 42 := rfl; omega) hk]
              decide
            rw [hf] at hV
            exact hV
          refine wp_seq (tk_r26 h9 rfl rfl rfl (TokZ.store (x := []) (z4.drewN m)) (WrB.store (c := 0) (p := 0) (Blk.farL (by omega) _ _ _ (z6.drewN m))) fun a10 h10 => wp_ret ?_)
          exact fin a10 _ _ ⟨0, [], 0⟩ 0 ⟨10, i⟩ h10 rfl rfl rfl (Blk.farL (by omega) _ _ _ (TokZ.set (x := []) (z4.drewN m) 0 [] 0)) (WrB.set (c := 0) (p := 0) (Blk.farL (by omega) _ _ _ (z6.drewN m)) 10 i) (below_setCells _ _ _ (below_setCells _ _ _ (below_drewN zb m) (by omega)) (by omega)) hv
end Go.Proofs.YtpggcmlddmckcaaDoor
