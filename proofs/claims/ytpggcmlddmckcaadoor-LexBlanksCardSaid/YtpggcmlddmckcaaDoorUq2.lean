/-
  Contract of Unquote in package lex. Written by an AI agent.
-/
import Derived.Test.YtpggcmlddmckcaaDoorUq1
namespace Go.Proofs.YtpggcmlddmckcaaDoor
open Go.RowKit Go.Sort
set_option maxRecDepth 100000

noncomputable def uqBody : Code := .seq (r_uq 0) (.seq (.seq (r_uq 1) (.cond (.tmp 9) (.seq (r_uq 2) .ret) .skip)) (.seq (r_uq 3) (.seq (.block 0 (.seq (r_uq 4) (.cond (.tmp 18) (.seq (r_uq 5) .ret) (.seq (r_uq 6) (.cond (.tmp 23) (.seq (r_uq 7) .ret) (.seq (r_uq 8) (.cond (.tmp 31) (.seq (r_uq 9) .ret) .skip))))))) (.seq (r_uq 10) .ret))))
theorem uq_body : Tryd.f18.body = some uqBody := by kernel_rfl

/-- What Unquote hands back. -/
def UnqR (r : Ans (List UInt8)) (w : World) (e : Ending) (w' : World) : Prop := Below w.heap.size w w' ∧ match r with
  | .ok x => e = .returned (.tuple #[.string (bs x), .nilIface])
  | .bad b => ∃ g, e = .returned (.tuple #[.string ⟨#[]⟩, .iface 58 (.pointer (some ⟨g, 0, none⟩))]) ∧ WrongB w w' g b
theorem UnqR.ok {x : List UInt8} {w w' : World} {e : Ending} (hb : Below w.heap.size w w') (he : e = .returned (.tuple #[.string (bs x), .nilIface])) : UnqR (.ok x) w e w' := ⟨hb, he⟩
theorem UnqR.bad {b : Bad} {w w' : World} {e : Ending} (hb : Below w.heap.size w w') (g : Nat) (he : e = .returned (.tuple #[.string ⟨#[]⟩, .iface 58 (.pointer (some ⟨g, 0, none⟩))])) (hg : WrongB w w' g b) : UnqR (.bad b) w e w' := ⟨hb, g, he, hg⟩
theorem uq_done {R : Ans (List UInt8)} {w w3 : World} {a4 : Act} {v2 v3 : Value} (hd : a4.defers = []) (h2 : slot a4 2 = v2) (h3 : slot a4 3 = v3) (hr : UnqR R w (.returned (.tuple #[v2, v3])) w3) :
    bodyPost Tryd.prog Tryd.f18 (UnqR R w) .ret a4 w3 :=
  bodyPost_ret (v := .tuple #[v2, v3]) (by
    unfold slot at h2 h3
    simp only [Array.getD_eq_getD_getElem?] at h2 h3
    simp [results, Tryd.results18, h2, h3]) hd hr
/-- What is known of what a literal's reader hands back. -/
def LitP (r : Ans (List UInt8 × Nat)) (w w' : World) (tx : ByteArray) (nx : Int) (ev : Value) : Prop := match r with
  | .ok x => tx = bs x.1 ∧ nx = (x.2 : Int) ∧ ev = .pointer none
  | .bad b => ∃ g, ev = .pointer (some ⟨g, 0, none⟩) ∧ WrongB w w' g b
theorem LitR.open {r : Ans (List UInt8 × Nat)} {w w' : World} {e : Ending} (h : LitR r w e w') : ∃ tx nx ev, e = .returned (.tuple #[.string tx, .int .i64 nx, ev]) ∧ LitP r w w' tx nx ev ∧ Below w.heap.size w w' := by
  obtain ⟨hb, h⟩ := h
  cases r with
  | ok x => exact ⟨_, _, _, h, ⟨rfl, rfl, rfl⟩, hb⟩
  | bad b =>
    obtain ⟨g, he, hg⟩ := h
    exact ⟨_, _, _, he, ⟨g, rfl, hg⟩, hb⟩
theorem quote_pre (l : List UInt8) : Lib.hasPrefix l [34] = decide (l.head? = some 34) := by
  unfold Lib.hasPrefix
  cases l with
  | nil => simp [List.isPrefixOf]
  | cons d r =>
    rw [Bool.eq_iff_iff]
    simp [List.isPrefixOf]
    exact eq_comm

theorem unq_bad {r : List UInt8} {b : Bad} (h : litL 0 (0 + 1) [] r = .bad b) : unquote (34 :: r) = .bad b := by
  rw [unquote, if_pos rfl, h]
theorem unq_more {r : List UInt8} {x : List UInt8 × Nat} (h : litL 0 (0 + 1) [] r = .ok x) (hn : x.2 < r.length + 1) : unquote (34 :: r) = .bad ⟨11, x.2⟩ := by
  rw [unquote, if_pos rfl, h]
  exact if_pos hn
theorem unq_long {r : List UInt8} {x : List UInt8 × Nat} (h : litL 0 (0 + 1) [] r = .ok x) (hn : ¬ x.2 < r.length + 1) (hm : 65536 < x.1.length) : unquote (34 :: r) = .bad ⟨13, 0⟩ := by
  rw [unquote, if_pos rfl, h]
  exact (if_neg hn).trans (if_pos hm)
theorem unq_ok {r : List UInt8} {x : List UInt8 × Nat} (h : litL 0 (0 + 1) [] r = .ok x) (hn : ¬ x.2 < r.length + 1) (hm : ¬ 65536 < x.1.length) : unquote (34 :: r) = .ok x.1 := by
  rw [unquote, if_pos rfl, h]
  exact (if_neg hn).trans (if_neg hm)
set_option maxHeartbeats 400000 in
theorem unquote_wide (s : ByteArray) (hs : s.size ≤ 9223372036854775000) (hbd : s.size ≤ 140737488355320 ∨ ∃ r x, s.data.toList = 34 :: r ∧ litL 0 (0 + 1) [] r = .ok x ∧ x.2 ≤ 140737488355320) (w : World) :
    Calls Tryd.prog 18 #[.string s] w (UnqR (unquote s.data.toList) w) := by
  have hsl : s.data.toList.length = s.size := by simp
  refine calls_of_wp Tryd.func18 uq_body ?_
  have h0 : Sl 38 { tmps := #[Value.string s] ++ Array.replicate (Tryd.f18.ntmps - #[Value.string s].size) undef, defers := [] } [(0, .string s)] :=
    ⟨by simp [Tryd.ntmps18], rfl, fun p hp => by
      simp only [List.mem_cons, List.not_mem_nil, or_false] at hp
      subst hp
      simp [slot]⟩
  generalize { tmps := #[Value.string s] ++ Array.replicate (Tryd.f18.ntmps - #[Value.string s].size) undef, defers := [] : Act } = b0 at h0 ⊢
  unfold uqBody
  refine wp_seq (uq_r0 b0 w _ _ _ h0 rfl fun a1 h1 => ?_)
  have h1 := h1.none.add (h1.look 0 rfl)
  have hP := fun w => Tryd.strings_HasPrefix s ⟨#[34]⟩ w
  rw [show (⟨#[34]⟩ : ByteArray).data.toList = [34] from rfl, quote_pre] at hP
  by_cases h34 : s.data.toList.head? = some 34
  · rw [decide_eq_true h34] at hP
    refine wp_seq (wp_seq (uq_r1t a1 w _ _ _ h1 rfl s hP rfl fun a2 h2 => ?_))
    refine wpc_off (h2.look 9 rfl) ?_
    obtain ⟨r, hr⟩ : ∃ r, s.data.toList = 34 :: r := by
      cases hd : s.data.toList with
      | nil => rw [hd] at h34; cases h34
      | cons c r =>
        rw [hd] at h34
        injection h34 with h34
        exact ⟨r, by rw [h34]⟩
    have hrl : r.length + 1 = s.size := by rw [← hsl, hr]; rfl
    have hlit := literal_wide s (by omega) 0 (by omega) (by
      rcases hbd with hbd | ⟨r', x, e1, e2, hbd⟩
      · exact .inl (by omega)
      · rw [e1]
        exact .inr ⟨x, e2, by omega⟩) w
    rw [hr, show (34 :: r).drop (0 + 1) = r from rfl] at hlit
    rw [hr]
    show Code.wp _ (Code.seq (r_uq 3) _) _ a2 w
    refine wp_seq (uq_r3 a2 w _ _ _ h2.tl rfl s _ (hlit.mono fun e w' h => h.open) rfl fun a3 w3 tx nx ev h3 hpo hb3 => ?_)
    refine wp_seq (wp_block ?_)
    cases hl : litL 0 (0 + 1) [] r with
    | bad b =>
      rw [hl] at hpo
      obtain ⟨g, rfl, hw⟩ := hpo
      refine wp_seq (uq_r4p a3 w3 _ _ _ h3 rfl g rfl fun a4 h4 => ?_)
      refine wp_cond_true (h4.look 18 rfl) ?_
      refine wp_seq (uq_r5 a4 w3 _ _ _ h4.none rfl _ (h4.look 6 rfl) fun a5 h5 => wp_ret ?_)
      exact uq_done h5.defers (h5.look 2 rfl) (h5.look 3 rfl) (by rw [unq_bad hl]; exact UnqR.bad hb3 g rfl hw)
    | ok x =>
      rw [hl] at hpo
      obtain ⟨rfl, rfl, rfl⟩ := hpo
      refine wp_seq (uq_r4n a3 w3 _ _ _ h3 rfl rfl fun a4 h4 => ?_)
      refine wp_cond_false (h4.look 18 rfl) ?_
      have h4 := h4.tl
      show Code.wp _ _ _ a4 w3
      by_cases hn : x.2 < r.length + 1
      · refine wp_seq (uq_r6 a4 w3 _ _ _ h4 rfl s _ true (decide_eq_true (by omega)) rfl rfl fun a5 h5 => ?_)
        refine wp_cond_true (h5.look 23 rfl) ?_
        refine wp_seq (uq_r7 a5 w3 _ _ _ h5.none rfl _ (h5.look 5 rfl) fun a6 h6 => wp_ret ?_)
        refine uq_done h6.defers (h6.look 2 rfl) (h6.look 3 rfl) ?_
        rw [unq_more hl hn]
        exact UnqR.bad (bl_alloc hb3 _) _ rfl ⟨hb3.size, Blk.new _ _ _⟩
      refine wp_seq (uq_r6 a4 w3 _ _ _ h4 rfl s _ false (decide_eq_false (by omega)) rfl rfl fun a5 h5 => ?_)
      refine wp_cond_false (h5.look 23 rfl) ?_
      by_cases hm : 65536 < x.1.length
      · refine wp_seq (uq_r8 a5 w3 _ _ _ h5.tl rfl _ true (decide_eq_true (by rw [bs_size]; omega)) rfl fun a6 h6 => ?_)
        refine wp_cond_true (h6.look 31 rfl) ?_
        refine wp_seq (uq_r9 a6 w3 _ _ _ h6.none rfl fun a7 h7 => wp_ret ?_)
        refine uq_done h7.defers (h7.look 2 rfl) (h7.look 3 rfl) ?_
        rw [unq_long hl hn hm]
        exact UnqR.bad (bl_alloc hb3 _) _ rfl ⟨hb3.size, Blk.new _ _ _⟩
      refine wp_seq (uq_r8 a5 w3 _ _ _ h5.tl rfl _ false (decide_eq_false (by rw [bs_size]; omega)) rfl fun a6 h6 => ?_)
      refine wpc_off (h6.look 31 rfl) ?_
      show Code.wp _ (Code.seq (r_uq 10) .ret) _ a6 w3
      refine wp_seq (uq_r10 a6 w3 _ _ _ h6.none rfl _ (h6.look 4 rfl) fun a7 h7 => wp_ret ?_)
      refine uq_done h7.defers (h7.look 2 rfl) (h7.look 3 rfl) ?_
      rw [unq_ok hl hn hm]
      exact UnqR.ok hb3 rfl
  · rw [decide_eq_false h34] at hP
    refine wp_seq (wp_seq (uq_r1f a1 w _ _ _ h1 rfl s hP rfl fun a2 h2 => ?_))
    refine wp_cond_true (h2.look 9 rfl) ?_
    refine wp_seq (uq_r2 a2 w _ _ _ h2.none rfl fun a3 h3 => wp_ret ?_)
    refine uq_done h3.defers (h3.look 2 rfl) (h3.look 3 rfl) ?_
    have he : unquote s.data.toList = .bad ⟨11, 0⟩ := by
      cases hd : s.data.toList with
      | nil => rfl
      | cons c r =>
        rw [hd] at h34
        rw [unquote, if_neg (fun h => h34 (by rw [h]; rfl))]
    rw [he]
    exact UnqR.bad (bl_alloc (Below.refl _ _) _) _ rfl ⟨Nat.le_refl _, Blk.new _ _ _⟩
theorem unquote_any (s : ByteArray) (hs : s.size ≤ 140737488355320) (w : World) :
    Calls Tryd.prog 18 #[.string s] w (UnqR (unquote s.data.toList) w) := unquote_wide s (by omega) (.inl hs) w
end Go.Proofs.YtpggcmlddmckcaaDoor
