/-
  Contract of sign in package lex. Written by an AI agent.
-/
import Derived.Test.YtpggcmlddmckcaaDoorSg1
namespace Go.Proofs.YtpggcmlddmckcaaDoor
open Go.RowKit Go.Sort
set_option maxRecDepth 100000

noncomputable def sgTurn : Code := .seq (r_sg 3) (.seq (r_sg 4) (.cond (.tmp 19) (.seq (r_sg 5) .ret) .skip))
noncomputable def sgLoop : Code := .seq (r_sg 2) (.seq (.cond (.tmp 12) .skip (.exit 0)) (.seq (.block 1 sgTurn) (r_sg 6)))
noncomputable def sgBody : Code := .seq (r_sg 0) (.seq (.seq (r_sg 1) (.block 0 (.loop sgLoop))) (.seq (r_sg 7) .ret))
theorem sg_body : Tryd.f54.body = some sgBody := by kernel_rfl

theorem res_sg {tmps : Array Value} {W : World} {R : Nat} {v5 v6 : Value} {t : Tok} (h4 : tmps.getD 4 undef = .pointer (some ⟨R, 0, none⟩)) (h5 : tmps.getD 5 undef = v5) (h6 : tmps.getD 6 undef = v6) (hR : Blk W R 48 (tokC t)) :
    (results Tryd.f54 tmps).run Tryd.prog W = .ok (.tuple #[tokV t, v5, v6]) W := by
  have c0 : W.cell? ⟨R, 0, none⟩ = some (.int .i64 t.kind) := hR.cell 0
  have c1 : W.cell? ⟨R, 1, none⟩ = some (.string (bs t.text)) := hR.cell 1
  have c2 : W.cell? ⟨R, 2, none⟩ = some (.int .i64 t.place) := hR.cell 2
  simp only [Array.getD_eq_getD_getElem?] at h4 h5 h6
  simp [results, Tryd.results54, go_sem, h4, h5, h6, c0, c1, c2, tokV, tokC]

def signR (a0 : Nat) (l : List UInt8) : Ans (Tok × Nat) := match signsL.find? (fun x => x.isPrefixOf l) with
  | some x => .ok (⟨7, x, a0⟩, x.length)
  | none => .bad ⟨10, a0⟩
theorem signs_count : signsL.length = 42 := rfl
theorem sign_short : ∀ x ∈ signsL, x.length ≤ 3 := by decide
theorem signs_ascii : ∀ b ∈ signsB, b.toNat < 128 := by decide +kernel
theorem find_at {p : List UInt8 → Bool} {x : List UInt8} : ∀ (L : List (List UInt8)) (j : Nat), L[j]? = some x → p x = true → (∀ i y, i < j → L[i]? = some y → p y = false) → L.find? p = some x
  | [], j, h, _, _ => by simp at h
  | y :: L, 0, h, hp, _ => by
    simp at h
    subst h
    rw [List.find?_cons, hp]
  | y :: L, j + 1, h, hp, hn => by
    have := hn 0 y (by omega) rfl
    rw [List.find?_cons, this]
    exact find_at L j (by simpa using h) hp (fun i z hi hz => hn (i + 1) z (by omega) (by simpa using hz))
theorem find_not {p : List UInt8 → Bool} (L : List (List UInt8)) (h : ∀ i y, i < L.length → L[i]? = some y → p y = false) : L.find? p = none := by
  rw [List.find?_eq_none]
  intro x hx
  obtain ⟨j, hj, e⟩ := List.mem_iff_getElem.1 hx
  rw [h j x hj (by rw [List.getElem?_eq_getElem hj, e])]
  decide

theorem sg_loopEnd (a : Act) (w : World) (j : Nat) (hj : j < 42) {v0 v1 v4 v9 v10 : Value} (hs : Sl 31 a [(10, v10), (9, v9), (4, v4), (1, v1), (0, v0)]) (h11 : slot a 11 = .int .i64 (j : Int)) (Q : Exit → Act → World → Prop)
    (hN : ∀ a', Sl 31 a' [(11, .int .i64 ((j + 1 : Nat) : Int)), (10, v10), (9, v9), (4, v4), (1, v1), (0, v0)] → Q .normal a' w) : (r_sg 6).wp Tryd.prog Q a w :=
  wp_then (sg_r6 a w _ _ _ hs rfl j (by omega) h11 hN)

theorem sign_any (s : ByteArray) (hs : s.size ≤ 140737488355320) (a0 : Nat) (ha : a0 < s.size) (w : World) (hL : LexAt w) :
    Calls Tryd.prog 54 #[.string s, .int .i64 a0] w (OneR a0 (signR a0 (s.data.toList.drop a0)) w) := by
  obtain ⟨l, hl⟩ : ∃ l, s.data.toList.drop a0 = l := ⟨_, rfl⟩
  rw [hl]
  have hq := fun w => sl_from (s := s) (k := a0) (by omega) (x := (a0 : Int)) rfl w
  rw [hl] at hq
  refine calls_of_wp Tryd.func54 sg_body ?_
  have h0 : Sl 31 { tmps := #[Value.string s, .int .i64 (a0 : Int)] ++ Array.replicate (Tryd.f54.ntmps - #[Value.string s, .int .i64 (a0 : Int)].size) undef, defers := [] } [(1, .int .i64 (a0 : Int)), (0, .string s)] :=
    ⟨by simp [Tryd.ntmps54], rfl, fun p hp => by
      simp only [List.mem_cons, List.not_mem_nil, or_false] at hp
      rcases hp with rfl | rfl <;> simp [slot]⟩
  generalize { tmps := #[Value.string s, .int .i64 (a0 : Int)] ++ Array.replicate (Tryd.f54.ntmps - #[Value.string s, .int .i64 (a0 : Int)].size) undef, defers := [] : Act } = b0 at h0 ⊢
  unfold sgBody
  refine wp_seq (sg_r0 b0 w _ _ _ h0 rfl fun a1 h1 => ?_)
  have hR1 : Blk (w.alloc (.cells #[.int .i64 0, .string ⟨#[]⟩, .int .i64 0] 48)) w.heap.size 48 #[.int .i64 0, .string ⟨#[]⟩, .int .i64 0] := Blk.new _ _ _
  have hb1 : Below w.heap.size w (w.alloc (.cells #[.int .i64 0, .string ⟨#[]⟩, .int .i64 0] 48)) := bl_alloc (Below.refl _ _) _
  generalize w.alloc (.cells #[.int .i64 0, .string ⟨#[]⟩, .int .i64 0] 48) = w1 at hR1 hb1 ⊢
  have h1 := h1.none.add (h1.look 0 rfl) |>.add (h1.look 1 rfl) |>.add (h1.look 4 rfl)
  have hF := Tryd.strings_Fields_laid signsS w1 (by decide) (fun j b hj => signs_ascii b (List.mem_of_getElem? hj)) (hL.below hb1 (Nat.le_refl _)).blanks
  rw [show Lib.fields signsS.data.toList = signsL from fields_signs] at hF
  refine wp_seq (wp_seq (sg_r1 a1 w1 _ _ _ h1 rfl w1.heap.size 42 _ hF fun a2 h2 => ?_))
  have hrow : StrsAt (w1.alloc (.cells (signsL.map fun l => Value.string ⟨l.toArray⟩).toArray 9)) (some ⟨w1.heap.size, 0, none⟩) (signsL.map bs) := strs_block (heap_alloc_new w1 _) _ (by rw [List.map_map]; rfl)
  have hR2 := hR1.alloc (.cells (signsL.map fun l => Value.string ⟨l.toArray⟩).toArray 9)
  have hb2 := bl_alloc hb1 (.cells (signsL.map fun l => Value.string ⟨l.toArray⟩).toArray 9)
  generalize w1.alloc (.cells (signsL.map fun l => Value.string ⟨l.toArray⟩).toArray 9) = w2 at hrow hR2 hb2 ⊢
  have hz2 := hb2.size
  refine wp_block ?_
  refine wp_loop (fun a' wr => ∃ j : Nat, j ≤ 42 ∧ wr = w2 ∧ Sl 31 a' [(11, .int .i64 (j : Int)), (10, .int .i64 (42 : Nat)), (9, .slice (some ⟨w1.heap.size, 0, none⟩) 42 42), (4, .pointer (some ⟨w.heap.size, 0, none⟩)), (1, .int .i64 (a0 : Int)), (0, .string s)] ∧
    ∀ i y, i < j → signsL[i]? = some y → y.isPrefixOf l = false) (fun a' _ => muTo 42 (slot a' 11)) ⟨0, by omega, rfl, h2, fun i _ h => absurd h (by omega)⟩ ?_
  rintro a3 wr ⟨j, hj, rfl, h3, hno⟩
  rw [h3.look 11 rfl, muTo_int]
  unfold sgLoop
  by_cases hlt : j < 42
  · refine wp_seq (sg_r2 a3 wr _ _ _ h3 rfl 42 j true (decide_eq_true (by omega)) rfl rfl fun a4 h4 => ?_)
    refine wp_seq (wpc_on (h4.look 12 rfl) ?_)
    refine wp_seq (wp_block ?_)
    obtain ⟨x, hx⟩ : ∃ x, signsL[j]? = some x := ⟨_, List.getElem?_eq_getElem (by rw [signs_count]; exact hlt)⟩
    obtain ⟨b, o, eb, hc⟩ := hrow.get (j := j) (x := bs x) (by rw [List.getElem?_map, hx]; rfl)
    injection eb with eb
    injection eb with eb1 eb2
    subst eb1 eb2
    rw [Nat.zero_add] at hc
    unfold sgTurn
    refine wp_seq (sg_r3 a4 wr _ _ _ h4.tl rfl _ 42 j hlt _ hc rfl rfl fun a5 h5 => ?_)
    have h5 := h5.none.add (h5.look 0 rfl) |>.add (h5.look 1 rfl) |>.add (h5.look 4 rfl) |>.add (h5.look 8 rfl) |>.add (h5.look 9 rfl) |>.add (h5.look 10 rfl) |>.add (h5.look 11 rfl)
    have hH := fun w => Tryd.strings_HasPrefix (bs l) (bs x) w
    simp only [bs_list, Lib.hasPrefix] at hH
    refine wp_seq (sg_r4 a5 wr _ _ _ h5 rfl s a0 (bs l) (bs x) _ hq hH rfl rfl rfl fun a6 h6 => ?_)
    cases hp : x.isPrefixOf l with
    | true =>
      rw [hp] at h6
      refine wp_cond_true (h6.look 19 rfl) ?_
      have hx3 := sign_short x (List.mem_of_getElem? hx)
      have hfind := find_at (p := fun x => x.isPrefixOf l) signsL j hx hp hno
      refine wp_seq (sg_r5 a6 wr _ _ _ h6.none rfl a0 (bs x) (by omega) (by rw [bs_size]; omega) w.heap.size _ _ _ hR2 (h6.look 1 rfl) (h6.look 8 rfl) (h6.look 4 rfl) fun a7 w7 h7 hR7 hb7 => wp_ret ?_)
      show bodyPost Tryd.prog Tryd.f54 _ .ret a7 w7
      refine bodyPost_ret (v := .tuple #[tokV ⟨7, x, a0⟩, .int .i64 ((a0 : Int) + ((bs x).size : Int)), .pointer none]) (res_sg (h7.look 4 rfl) (h7.look 5 rfl) (h7.look 6 rfl) hR7) h7.defers ?_
      unfold signR
      rw [hfind]
      exact OneR.ok (hb7 _ _ hb2 (Nat.le_refl _)) (by rw [bs_size]; simp)
    | false =>
      rw [hp] at h6
      refine wpc_off (h6.look 19 rfl) ?_
      show Code.wp _ (r_sg 6) _ a6 wr
      have h6' := h6.none.add (h6.look 0 rfl) |>.add (h6.look 1 rfl) |>.add (h6.look 4 rfl) |>.add (h6.look 9 rfl) |>.add (h6.look 10 rfl)
      refine sg_loopEnd a6 wr j hlt h6' (h6.look 11 rfl) _ fun a7 h7 => ?_
      refine ⟨⟨j + 1, by omega, rfl, ?_, fun i y hi hy => ?_⟩, ?_⟩
      · exact h7.none.add (h7.look 0 rfl) |>.add (h7.look 1 rfl) |>.add (h7.look 4 rfl) |>.add (h7.look 9 rfl) |>.add (h7.look 10 rfl) |>.add (h7.look 11 rfl)
      · by_cases hij : i = j
        · subst hij; rw [hx] at hy; injection hy with hy; subst hy; exact hp
        · exact hno i y (by omega) hy
      · rw [h7.look 11 rfl, muTo_int]; omega
  · refine wp_seq (sg_r2 a3 wr _ _ _ h3 rfl 42 j false (decide_eq_false (by omega)) rfl rfl fun a4 h4 => ?_)
    refine wp_seq (wpc_exit (h4.look 12 rfl) ?_)
    first | refine in_block' ?_ | refine then_exit (then_exit (in_block' ?_)) | refine then_exit (then_exit (then_exit (in_block' ?_)))
    show Code.wp _ (Code.seq (r_sg 7) .ret) _ a4 wr
    refine wp_seq (sg_r7 a4 wr _ _ _ h4.none rfl a0 w.heap.size _ _ _ hR2 (h4.look 1 rfl) (h4.look 4 rfl) fun a7 w7 h7 hR7 hW7 hb7 => wp_ret ?_)
    show bodyPost Tryd.prog Tryd.f54 _ .ret a7 w7
    refine bodyPost_ret (v := .tuple #[tokV ⟨0, [], 0⟩, .int .i64 0, .pointer (some ⟨wr.heap.size, 0, none⟩)]) (res_sg (h7.look 4 rfl) (h7.look 5 rfl) (h7.look 6 rfl) hR7) h7.defers ?_
    have hnone := find_not (p := fun x => x.isPrefixOf l) signsL (fun i y hi hy => hno i y (by rw [signs_count] at hi; omega) hy)
    unfold signR
    rw [hnone]
    exact OneR.bad (hb7 _ _ hb2 (Nat.le_refl _)) _ _ _ rfl ⟨hz2, hW7⟩
end Go.Proofs.YtpggcmlddmckcaaDoor
