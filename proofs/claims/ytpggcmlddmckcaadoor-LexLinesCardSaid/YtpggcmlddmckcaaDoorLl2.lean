/-
  LexLines walked: it returns true. Written by an AI agent.
-/
import Derived.Test.YtpggcmlddmckcaaDoorLl1
import Derived.Test.YtpggcmlddmckcaaDoorTf
namespace Go.Proofs.YtpggcmlddmckcaaDoor
open Go.RowKit Go.Sort
set_option maxRecDepth 100000

noncomputable def llLoop : Code := .seq (.seq (r_ll 18) (.cond (.tmp 134) .skip (.exit 0))) (.seq (.block 1 (.seq (.seq (r_ll 20) (.cond (.tmp 151) (.seq (r_ll 21) .ret) .skip)) (.seq (r_ll 22) (.cond (.tmp 155) (.seq (r_ll 23) (.seq (r_ll 24) (.seq (r_ll 25) (.cond (.tmp 175) (.seq (r_ll 26) .ret) .skip)))) .skip)))) (r_ll 19))
noncomputable def llRest : Code := .seq (.seq (r_ll 15) (.cond (.tmp 130) (.seq (r_ll 16) .ret) .skip)) (.seq (.seq (r_ll 17) (.block 0 (.loop llLoop))) (.seq (r_ll 27) .ret))
noncomputable def llMid : Code := .seq (r_ll 7) (.seq (.seq (r_ll 8) (.cond (.tmp 53) (.seq (r_ll 9) (.seq (r_ll 10) .ret)) .skip)) (.seq (r_ll 11) (.seq (.seq (r_ll 12) (.cond (.tmp 85) (.seq (r_ll 13) (.seq (r_ll 14) .ret)) .skip)) llRest)))
noncomputable def llBody : Code := .seq (r_ll 0) (.seq (r_ll 1) (.seq (.seq (r_ll 2) (.cond (.tmp 27) (.seq (r_ll 3) .ret) .skip)) (.seq (r_ll 4) (.seq (r_ll 5) (.seq (r_ll 6) llMid)))))
theorem ll_body : Tryd.f8.body = some llBody := by kernel_rfl
theorem ll_done {w w3 : World} {a4 : Act} (hd : a4.defers = []) (h4 : slot a4 4 = .bool true) (hb : Below w.heap.size w w3) :
    bodyPost Tryd.prog Tryd.f8 (fun e w' => e = .returned (.bool true) ∧ Below w.heap.size w w') .ret a4 w3 :=
  bodyPost_ret (results_tmp rfl _ _ _) hd ⟨congrArg Ending.returned h4, hb⟩

set_option maxHeartbeats 4000000 in
theorem ll_rest (s : ByteArray) (hs : s.size ≤ 60000) (A C : List Tok) (hA : A.length ≤ 60001) (hC : C.length ≤ 60001) (hp : ∀ t ∈ C, t.place ≤ 60000) (w w8 : World) (d1 d2 d : Option Addr) (ca cb cl : Nat)
    (h1 : TokRow w8 d1 A) (h2 : TokRow w8 d2 C) (h3 : TokRow w8 d (A ++ C.map (shT (s.size + 1)))) (a8 : Act)
    (h8 : Sl 176 a8 [(11, .nilIface), (10, .slice d (A.length + C.length) cl), (8, .slice d2 C.length cb), (6, .slice d1 A.length ca), (5, .bool true), (0, .string s)]) (hb : Below w.heap.size w w8) :
    llRest.wp Tryd.prog (bodyPost Tryd.prog Tryd.f8 (fun e w' => e = .returned (.bool true) ∧ Below w.heap.size w w')) a8 w8 := by
  unfold llRest
  have h8' := h8.none.add (h8.look 0 rfl) |>.add (h8.look 6 rfl) |>.add (h8.look 8 rfl) |>.add (h8.look 10 rfl)
  refine wp_seq (wp_seq (ll_r15 a8 w8 _ _ _ h8' rfl d1 d2 d A.length C.length ca cb cl hA hC (h8.look 5 rfl) rfl rfl rfl (h8.look 11 rfl) fun a9 h9 => ?_))
  refine wpc_off (h9.look 130 rfl) ?_
  show Code.wp _ (Code.seq (Code.seq (r_ll 17) _) _) _ a9 w8
  refine wp_seq (wp_seq (ll_r17 a9 w8 _ _ _ h9.tl rfl fun a10 h10 => ?_))
  refine wp_block ?_
  refine wp_loop (fun a' wr => ∃ (i : Nat), i ≤ A.length + C.length ∧ Sl 176 a' [(18, .int .i64 (i : Int)), (10, .slice d (A.length + C.length) cl), (8, .slice d2 C.length cb), (6, .slice d1 A.length ca), (0, .string s)] ∧ Below w8.heap.size w8 wr) (fun a' _ => muTo (A.length + C.length) (slot a' 18)) ⟨0, by omega, h10, Below.refl _ _⟩ ?_
  rintro a5 wr ⟨i, hi, h5, hbr⟩
  rw [h5.look 18 rfl, muTo_int]
  have g1 := h1.below hbr
  have g2 := h2.below hbr
  have g3 := h3.below hbr
  unfold llLoop
  refine wp_seq (wp_seq ?_)
  by_cases hlt : i < A.length + C.length
  · refine ll_r18t a5 _ _ _ _ h5 rfl d _ cl i (decide_eq_true (by omega)) rfl rfl fun a6 h6 => ?_
    refine wpc_on (h6.look 134 rfl) ?_
    refine wp_seq (wp_block ?_)
    have h6 := h6.tl
    have hend : ∀ (a' : Act) (w' : World) (Q : Exit → Act → World → Prop), Sl 176 a' [(18, .int .i64 (i : Int)), (10, .slice d (A.length + C.length) cl), (8, .slice d2 C.length cb), (6, .slice d1 A.length ca), (0, .string s)] → Below w8.heap.size w8 w' →
        (∀ a'', Sl 176 a'' [(18, .int .i64 ((i + 1 : Nat) : Int)), (10, .slice d (A.length + C.length) cl), (8, .slice d2 C.length cb), (6, .slice d1 A.length ca), (0, .string s)] → Q .normal a'' w') → (r_ll 19).wp Tryd.prog Q a' w' := fun a' w' Q h hbw hQ => by
      have h' := h.none.add (h.look 0 rfl) |>.add (h.look 6 rfl) |>.add (h.look 8 rfl) |>.add (h.look 10 rfl)
      refine wp_then (ll_r19 a' w' _ _ _ h' rfl i (by omega) (by omega) (h.look 18 rfl) fun a9 h9 => ?_)
      exact hQ a9 (h9.tl.add (by rw [h9.look 18 rfl]; congr 1))
    have hrow : (A ++ C.map (shT (s.size + 1))).length = A.length + C.length := by simp
    obtain ⟨gl, rfl, hgl, l0, l1, l2⟩ := g3.at i (by omega)
    by_cases hA : i < A.length
    · obtain ⟨ga, rfl, hga, c0, c1, c2⟩ := g1.at i hA
      rw [List.getElem_append_left hA] at l0 l1 l2
      refine wp_seq (wp_seq (ll_r20a a6 wr _ _ _ h6 rfl i gl _ cl (by omega) _ _ _ ga _ ca (by omega) l0 l1 l2 c0 c1 c2 rfl rfl rfl fun a7 w7 h7 hd => ?_))
      obtain ⟨m, rfl⟩ := hd
      refine wpc_off (h7.look 151 rfl) ?_
      show Code.wp _ (Code.seq (r_ll 22) _) _ a7 _
      refine wp_seq (ll_r22 a7 _ _ _ _ h7.tl rfl i _ _ ca false (decide_eq_false (by omega)) rfl rfl fun a8 h8 => ?_)
      refine wpc_off (h8.look 155 rfl) ?_
      refine hend a8 _ _ h8.tl (below_drewN hbr m) fun a'' h'' => ?_
      refine ⟨⟨i + 1, by omega, h'', below_drewN hbr m⟩, ?_⟩
      rw [h''.look 18 rfl, muTo_int]
      omega
    · obtain ⟨j, rfl⟩ : ∃ j, i = A.length + j := ⟨i - A.length, by omega⟩
      have hj : j < C.length := by omega
      obtain ⟨gb, rfl, hgb, c0, c1, c2⟩ := g2.at j hj
      rw [List.getElem_append_right (by omega)] at l0 l1 l2
      have hpl := hp C[j] (List.getElem_mem _)
      refine wp_seq (wp_seq (ll_r20b a6 wr _ _ _ h6 rfl _ _ _ ca (decide_eq_false (by omega)) rfl rfl fun a7 w7 h7 hd => ?_))
      obtain ⟨m, rfl⟩ := hd
      have hbm := below_drewN hbr m
      refine wpc_off (h7.look 151 rfl) ?_
      show Code.wp _ (Code.seq (r_ll 22) _) _ a7 _
      refine wp_seq (ll_r22 a7 _ _ _ _ h7.tl rfl _ _ _ ca true (decide_eq_true (by omega)) rfl rfl fun a8 h8 => ?_)
      refine wp_cond_true (h8.look 155 rfl) ?_
      refine wp_seq (ll_r23 a8 _ _ _ _ h8.tl rfl (A.length + j) j _ _ ca gb _ cb (by omega) (by omega) (by omega) (by omega) _ _ _ c0 c1 c2 rfl rfl rfl fun a9 h9 => ?_)
      have hB := Blk.new (wr.drewN m) 48 #[.int .i64 (C[j].kind : Int), .string (bs C[j].text), .int .i64 (C[j].place : Int)]
      refine wp_seq (ll_r24 a9 _ _ _ _ h9 rfl s hs _ _ _ _ hB (by omega) (by omega) rfl rfl fun a10 h10 => ?_)
      have hB2 := hB.set_ 2 (.int .i64 ((C[j].place : Int) + (s.size : Int) + 1))
      have hbs : Below wr.heap.size wr (((wr.drewN m).alloc (.cells #[.int .i64 (C[j].kind : Int), .string (bs C[j].text), .int .i64 (C[j].place : Int)] 48)).setCell ⟨(wr.drewN m).heap.size, 2, none⟩ (.int .i64 ((C[j].place : Int) + (s.size : Int) + 1))) :=
        (bl_alloc (show Below wr.heap.size wr (wr.drewN m) from below_drewN (Below.refl _ _) m) _).setCell (p := ⟨(wr.drewN m).heap.size, 2, none⟩) (Nat.le_refl _) _
      have hx : (((C.map (shT (s.size + 1)))[A.length + j - A.length]'(by simp; omega)) : Tok) = shT (s.size + 1) C[j] := by
        simp
      rw [hx] at l0 l1 l2
      have l2' : wr.cell? ⟨gl, (A.length + j) * 3 + 2, none⟩ = some (.int .i64 ((C[j].place : Int) + (s.size : Int) + 1)) := l2.trans (by
        show some (Value.int .i64 ((C[j].place + (s.size + 1) : Nat) : Int)) = _
        congr 2)
      have lc := TokCells.below (t := ⟨C[j].kind, C[j].text, C[j].place + (s.size + 1)⟩) ⟨l0, l1, l2⟩ hbs hgl
      have l2'' := lc.2.2.trans (show some (Value.int .i64 ((C[j].place + (s.size + 1) : Nat) : Int)) = some (.int .i64 ((C[j].place : Int) + (s.size : Int) + 1)) by congr 2)
      have h10' := h10.none.add (h10.look 0 rfl) |>.add (h10.look 6 rfl) |>.add (h10.look 8 rfl) |>.add (h10.look 10 rfl) |>.add (h10.look 18 rfl)
      refine wp_seq (ll_r25 a10 _ _ _ _ h10' rfl (A.length + j) gl _ cl (by omega) _ _ _ lc.1 lc.2.1 l2'' _ hB2 rfl rfl (h10.look 19 rfl) fun a11 w11 h11 hd => ?_)
      obtain ⟨m2, rfl⟩ := hd
      refine wpc_off (h11.look 175 rfl) ?_
      have hbz := below_drewN (bl_trans hbr hbs) m2
      refine hend a11 _ _ h11.tl hbz fun a'' h'' => ?_
      refine ⟨⟨A.length + j + 1, by omega, h'', hbz⟩, ?_⟩
      rw [h''.look 18 rfl, muTo_int]
      omega
  · refine ll_r18f a5 _ _ _ _ h5 rfl d _ cl i (decide_eq_false (by omega)) rfl rfl fun a6 h6 => ?_
    refine wpc_exit (h6.look 134 rfl) ?_
    refine then_exit (then_exit (in_block' ?_))
    show Code.wp _ (Code.seq (r_ll 27) .ret) _ a6 _
    refine wp_seq (ll_r27 a6 _ _ _ _ h6.none rfl fun a7 h7 => wp_ret ?_)
    exact ll_done h7.defers (h7.look 4 rfl) (bl_trans hb hbr)

set_option maxHeartbeats 4000000 in
theorem lexLines_any (s t : ByteArray) (hs : s.size ≤ 140737488351232) (ht : t.size ≤ 140737488351232) (w : World) (hL : LexAt w) :
    Calls Tryd.prog 8 #[.string s, .string t] w fun e w' => e = .returned (.bool true) ∧ Below w.heap.size w w' := by
  have hsl : s.data.toList.length = s.size := by simp
  have htl : t.data.toList.length = t.size := by simp
  refine calls_of_wp Tryd.func8 ll_body ?_
  have h0 : Sl 176 { tmps := #[Value.string s, Value.string t] ++ Array.replicate (Tryd.f8.ntmps - #[Value.string s, Value.string t].size) undef, defers := [] } [(1, .string t), (0, .string s)] :=
    ⟨by simp [Tryd.ntmps8], rfl, fun p hp => by
      simp only [List.mem_cons, List.not_mem_nil, or_false] at hp
      rcases hp with rfl | rfl <;> simp [slot]⟩
  generalize { tmps := #[Value.string s, Value.string t] ++ Array.replicate (Tryd.f8.ntmps - #[Value.string s, Value.string t].size) undef, defers := [] : Act } = b0 at h0 ⊢
  unfold llBody
  refine wp_seq (ll_r0 b0 w _ _ _ h0 rfl fun a1 h1 => ?_)
  refine wp_seq (ll_r1 a1 w _ _ _ h1.tl rfl (known_any w hL) fun a2 w2 h2 hb2 => ?_)
  have hL2 := hL.below hb2 (Nat.le_refl _)
  by_cases hbig : 60000 < s.size + 1 + t.size
  · refine wp_seq (wp_seq (ll_r2 a2 w2 _ _ _ h2 rfl s t (by omega) (by omega) true (decide_eq_true (by omega)) rfl rfl fun a3 h3 => ?_))
    refine wp_cond_true (h3.look 27 rfl) ?_
    refine wp_seq (ll_r3 a3 w2 _ _ _ h3.none rfl _ (h3.look 5 rfl) fun a4 h4 => wp_ret ?_)
    exact ll_done h4.defers (h4.look 4 rfl) hb2
  refine wp_seq (wp_seq (ll_r2 a2 w2 _ _ _ h2 rfl s t (by omega) (by omega) false (decide_eq_false (by omega)) rfl rfl fun a3 h3 => ?_))
  refine wpc_off (h3.look 27 rfl) ?_
  show Code.wp _ (Code.seq (r_ll 4) _) _ a3 w2
  refine wp_seq (ll_r4 a3 w2 _ _ _ h3.tl rfl s (ScanP (scan s.data.toList) w2) (scan_p s w2 hL2) rfl fun a4 w4 x1 e1 h4 p1 hb4 => ?_)
  have hbw4 := bl_trans hb2 hb4
  have hL4 := hL2.below hb4 (Nat.le_refl _)
  refine wp_seq (ll_r5 a4 w4 _ _ _ h4 rfl t (ScanP (scan t.data.toList) w4) (scan_p t w4 hL4) rfl fun a5 w5 x2 e2 h5 p2 hb5 => ?_)
  have hbw5 := bl_trans hbw4 hb5
  have hL5 := hL4.below hb5 (Nat.le_refl _)
  have hs6 : s.size ≤ 60000 := by omega
  have ht6 : t.size ≤ 60000 := by omega
  have hP6 := scan_p (s ++ ⟨#[10]⟩ ++ t) w5 hL5
  obtain ⟨PO, hPO⟩ : ∃ PO, PO = ScanP (scan (s ++ ⟨#[10]⟩ ++ t).data.toList) w5 := ⟨_, rfl⟩
  rw [← hPO] at hP6
  refine wp_seq (ll_r6 a5 w5 _ _ _ h5 rfl s t hs6 ht6 PO hP6 rfl rfl fun a6 w6 x3 e3 h6 p3 hb6 => ?_)
  subst hPO
  have hbw6 := bl_trans hbw5 hb6
  have hall : (s ++ (⟨#[10]⟩ : ByteArray) ++ t).data.toList = s.data.toList ++ 10 :: t.data.toList := by
    simp [ByteArray.data_append]
  rw [hall, scan_two _ _ (by omega), hsl] at p3
  have hneg : ∀ c : Nat, ((c : Int) != -1) = true := fun c => by
    rw [bne_iff_ne]
    omega
  have q1 : PlaceP 0 s.data.toList (scan s.data.toList) := by
    unfold scan
    rw [if_neg (by omega)]
    exact scan_places _ _ _ _ (Nat.le_refl _)
  have q2 : PlaceP 0 t.data.toList (scan t.data.toList) := by
    unfold scan
    rw [if_neg (by omega)]
    exact scan_places _ _ _ _ (Nat.le_refl _)
  unfold llMid
  cases hS : scan s.data.toList with
  | bad b =>
    rw [hS] at p1 p3 q1
    obtain ⟨rfl, g, rfl, hg⟩ := p1
    obtain ⟨rfl, g3, rfl, hg3⟩ := p3
    have hg6 := (hg.below hb5).below hb6
    refine wp_seq (ll_r7 a6 w6 _ _ _ h6 rfl _ _ _ (code_bad' hg6) rfl fun a7 w7 h7 hb7 => ?_)
    refine wp_seq (wp_seq (ll_r8e a7 w7 _ _ _ h7 rfl g rfl fun a8 h8 => ?_))
    refine wp_cond_true (h8.look 53 rfl) ?_
    refine wp_seq (ll_r9 a8 w7 _ _ _ h8.tl rfl _ _ _ (code_bad' (hg3.below hb7)) rfl fun a9 w9 h9 hb9 => ?_)
    refine wp_seq (ll_r10 a9 w9 _ _ _ h9.none rfl _ _ (hneg _) (h9.look 5 rfl) (h9.look 10 rfl) (h9.look 12 rfl) (h9.look 13 rfl) (h9.look 14 rfl) (h9.look 15 rfl) fun a10 h10 => wp_ret ?_)
    exact ll_done h10.defers (h10.look 4 rfl) (bl_trans (bl_trans hbw6 hb7) hb9)
  | ok A =>
    rw [hS] at p1 p3 q1
    obtain ⟨rfl, ht1⟩ := p1
    refine wp_seq (ll_r7 a6 w6 _ _ _ h6 rfl _ 0 0 (code_nil w6) rfl fun a7 w7 h7 hb7 => ?_)
    refine wp_seq (wp_seq (ll_r8n a7 w7 _ _ _ h7 rfl rfl fun a8 h8 => ?_))
    refine wpc_off (h8.look 53 rfl) ?_
    show Code.wp _ (Code.seq (r_ll 11) _) _ a8 w7
    have h8' := h8.none.add (h8.look 0 rfl) |>.add (h8.look 1 rfl) |>.add (h8.look 5 rfl) |>.add (h8.look 6 rfl) |>.add (h8.look 7 rfl) |>.add (h8.look 8 rfl) |>.add (h8.look 9 rfl) |>.add (h8.look 10 rfl) |>.add (h8.look 11 rfl)
    have hbw7 := bl_trans hbw6 hb7
    cases hT : scan t.data.toList with
    | bad b =>
      rw [hT] at p2 p3 q2
      obtain ⟨rfl, g, rfl, hg⟩ := p2
      obtain ⟨rfl, g3, rfl, hg3⟩ := p3
      refine wp_seq (ll_r11 a8 w7 _ _ _ h8' rfl _ _ _ (code_bad' ((hg.below hb6).below hb7)) rfl fun a9 w9 h9 hb9 => ?_)
      refine wp_seq (wp_seq (ll_r12e a9 w9 _ _ _ h9 rfl g rfl fun a10 h10 => ?_))
      refine wp_cond_true (h10.look 85 rfl) ?_
      refine wp_seq (ll_r13 a10 w9 _ _ _ h10.tl rfl _ _ _ (code_bad' ((hg3.below hb7).below hb9)) rfl fun a11 w11 h11 hb11 => ?_)
      have e17 : slot a11 17 = .int .i64 ((b.place : Int) + (s.size : Int) + 1) := by
        rw [h11.look 17 rfl]
        show Value.int .i64 ((b.place + (s.size + 1) : Nat) : Int) = _
        congr 1
      have q2' : b.place ≤ 0 + t.data.toList.length := q2
      refine wp_seq (ll_r14 a11 w11 _ _ _ h11.none rfl s (by omega) _ _ (by omega) (by omega) (hneg _) (h11.look 0 rfl) (h11.look 5 rfl) (h11.look 10 rfl) (h11.look 12 rfl) (h11.look 13 rfl) (h11.look 16 rfl) e17 fun a12 h12 => wp_ret ?_)
      exact ll_done h12.defers (h12.look 4 rfl) (bl_trans (bl_trans hbw7 hb9) hb11)
    | ok C =>
      rw [hT] at p2 p3 q2
      obtain ⟨rfl, ht2⟩ := p2
      obtain ⟨rfl, ht3⟩ := p3
      refine wp_seq (ll_r11 a8 w7 _ _ _ h8' rfl _ 0 0 (code_nil w7) rfl fun a9 w9 h9 hb9 => ?_)
      refine wp_seq (wp_seq (ll_r12n a9 w9 _ _ _ h9 rfl rfl fun a10 h10 => ?_))
      refine wpc_off (h10.look 85 rfl) ?_
      obtain ⟨d1, c1, rfl, r1⟩ := ht1.form
      obtain ⟨d2, c2, rfl, r2⟩ := ht2.form
      obtain ⟨d3, c3, rfl, r3⟩ := ht3.form
      have hlen : (A ++ C.map (shT (s.size + 1))).length = A.length + C.length := by simp
      have h10' := h10.none.add (h10.look 0 rfl) |>.add (h10.look 5 rfl) |>.add (h10.look 6 rfl) |>.add (h10.look 8 rfl) |>.add ((h10.look 10 rfl).trans (by rw [hlen])) |>.add (h10.look 11 rfl)
      have q1' : A.length ≤ s.data.toList.length + 1 := q1.1
      have q2' : C.length ≤ t.data.toList.length + 1 := q2.1
      exact ll_rest s (by omega) A C (by omega) (by omega) (fun u hu => by have := q2.2 u hu; omega) w w9 d1 d2 d3 c1 c2 c3 ((((r1.below hb5).below hb6).below hb7).below hb9) (((r2.below hb6).below hb7).below hb9) ((r3.below hb7).below hb9) a10 h10' (bl_trans hbw7 hb9)
end Go.Proofs.YtpggcmlddmckcaaDoor
