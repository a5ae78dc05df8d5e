/-
  Contract of the laws' known. Written by an AI agent.
-/
import Derived.Test.YtpggcmlddmckcaaDoorKn1
namespace Go.Proofs.YtpggcmlddmckcaaDoor
open Go.RowKit Go.Sort
set_option maxRecDepth 100000

noncomputable def knBody : Code := .seq (r_kn 0) (.seq (r_kn 1) (.seq (r_kn 2) (.seq (r_kn 3) (.seq (r_kn 4) (.seq (r_kn 5) (.seq (r_kn 6) (.seq (r_kn 7) .ret)))))))
theorem kn_body : Tryd.f10.body = some knBody := by kernel_rfl
theorem kn_scan : scan [120, 32, 58, 61, 32, 49, 46, 53] = .ok [⟨2, [120], 0⟩, ⟨7, [58, 61], 2⟩, ⟨5, [49, 46, 53], 5⟩, ⟨1, [], 8⟩] := by kernel_rfl
theorem kn_wrong : scan [35] = .bad ⟨10, 0⟩ := by kernel_rfl
theorem kn_unq : unquote [34, 97, 34] = .ok [97] := by kernel_rfl
theorem kn_quote : quote [97] = [34, 97, 34] := by kernel_rfl
theorem kn_word : wordB [105, 110] = true := by decide
theorem kn_name : nameB [97, 49] = true := by decide

/-- The slice and the cells of tokens. -/
theorem Toks.cells {w : World} {B : Nat} {v : Value} {ts : List Tok} (h : Toks w B v ts) (hn : 0 < ts.length) : ∃ g cap, v = .slice (some ⟨g, 0, none⟩) ts.length cap ∧ B ≤ g ∧ g < w.heap.size ∧ ∀ j, j < ts.length * 3 → w.cell? ⟨g, j, none⟩ = (toksC ts)[j]? := by
  rcases h.2 with ⟨_, h0⟩ | ⟨g, cap, cur, rfl, hg, hh, hc, hm, hs, ht⟩
  · omega
  · refine ⟨g, cap, rfl, hg, (Array.getElem?_eq_some_iff.1 hh).1, fun j hj => ?_⟩
    rw [cell_of_row w g _ cur _ _ hh, ← ht, List.getElem?_take, if_pos hj, Array.getElem?_toList]

theorem known_any (w : World) (hL : LexAt w) : Calls Tryd.prog 10 #[] w fun e w' => e = .returned (.bool true) ∧ Below w.heap.size w w' := by
  refine calls_of_wp Tryd.func10 kn_body ?_
  have h0 : Sl 91 { tmps := #[] ++ Array.replicate (Tryd.f10.ntmps - (#[] : Array Value).size) undef, defers := [] } [] :=
    ⟨by simp [Tryd.ntmps10], rfl, fun p hp => by simp at hp⟩
  generalize { tmps := #[] ++ Array.replicate (Tryd.f10.ntmps - (#[] : Array Value).size) undef, defers := [] : Act } = b0 at h0 ⊢
  unfold knBody
  refine wp_seq (kn_r0 b0 w _ _ _ h0 rfl fun a0 h0' => ?_)
  have hS := scan_any ⟨#[120, 32, 58, 61, 32, 49, 46, 53]⟩ w hL
  rw [show (⟨#[120, 32, 58, 61, 32, 49, 46, 53]⟩ : ByteArray).data.toList = [120, 32, 58, 61, 32, 49, 46, 53] from rfl, kn_scan] at hS
  refine wp_seq (kn_r1 a0 w _ _ _ h0'.none rfl (fun w' v => Toks w' w.heap.size v [⟨2, [120], 0⟩, ⟨7, [58, 61], 2⟩, ⟨5, [49, 46, 53], 5⟩, ⟨1, [], 8⟩]) (hS.mono fun e w' ⟨hb, v, he, ht⟩ => ⟨v, he, ht, hb⟩) fun a1 w1 v h1 ht hb1 => ?_)
  have hL1 := hL.below hb1 (Nat.le_refl _)
  have hB := scan_any ⟨#[35]⟩ w1 hL1
  rw [show (⟨#[35]⟩ : ByteArray).data.toList = [35] from rfl, kn_wrong] at hB
  refine wp_seq (kn_r2 a1 w1 _ _ _ h1 rfl (fun w' g => WrongB w1 w' g ⟨10, 0⟩) (hB.mono fun e w' ⟨hb, g, he, hg⟩ => ⟨g, he, hg, hb⟩) fun a2 w2 g h2 hg hb2 => ?_)
  have hbw2 := bl_trans hb1 hb2
  have h2' := h2.none.add (h2.look 1 rfl) |>.add (h2.look 2 rfl)
  have h2'' := h2.none.add (h2.look 1 rfl) |>.add (h2.look 2 rfl)
  refine wp_seq (kn_r3 a2 w2 _ _ _ h2' rfl g (code_bad w2 g 10 0 hg.2) (h2.look 4 rfl) fun a3 w3 h3 hb3 => ?_)
  have hbw3 := bl_trans hbw2 hb3
  have hU := unquote_any ⟨#[34, 97, 34]⟩ (by decide) w3
  rw [show (⟨#[34, 97, 34]⟩ : ByteArray).data.toList = [34, 97, 34] from rfl, kn_unq] at hU
  refine wp_seq (kn_r4 a3 w3 _ _ _ h3 rfl (hU.mono fun e w' ⟨hb, he⟩ => ⟨he, hb⟩) fun a4 w4 h4 hb4 => ?_)
  have hbw4 := bl_trans hbw3 hb4
  have hL4 := hL.below hbw4 (Nat.le_refl _)
  have hW := Word_any ⟨#[105, 110]⟩ w4 hL4
  rw [show (⟨#[105, 110]⟩ : ByteArray).data.toList = [105, 110] from rfl, kn_word] at hW
  refine wp_seq (kn_r5 a4 w4 _ _ _ h4 rfl hW fun a5 w5 h5 hb5 => ?_)
  have hbw5 := bl_trans hbw4 hb5
  have hL5 := hL.below hbw5 (Nat.le_refl _)
  have hN := Name_any ⟨#[97, 49]⟩ (by decide) w5 hL5
  rw [show (⟨#[97, 49]⟩ : ByteArray).data.toList = [97, 49] from rfl, kn_name] at hN
  refine wp_seq (kn_r6 a5 w5 _ _ _ h5 rfl hN fun a6 w6 h6 hb6 => ?_)
  have hbw6 := bl_trans hbw5 hb6
  have hQ := quote_any ⟨#[97]⟩ (by decide) w6
  rw [show (⟨#[97]⟩ : ByteArray).data.toList = [97] from rfl, kn_quote] at hQ
  have htk : Toks w6 w.heap.size v [⟨2, [120], 0⟩, ⟨7, [58, 61], 2⟩, ⟨5, [49, 46, 53], 5⟩, ⟨1, [], 8⟩] :=
    own_below ht (bl_trans (bl_trans (bl_trans (bl_trans hb2 hb3) hb4) hb5) hb6)
  obtain ⟨gt, cap, rfl, _, _, hc⟩ := htk.cells (by decide)
  refine wp_seq (kn_r7 a6 w6 _ _ _ h6.none rfl gt cap (hc 0 (by decide)) (hc 1 (by decide)) (hc 2 (by decide)) (hc 3 (by decide)) (hc 4 (by decide)) (hc 5 (by decide)) (hc 6 (by decide)) (hc 7 (by decide)) (hc 8 (by decide)) (hc 9 (by decide)) (hc 10 (by decide)) (hc 11 (by decide)) hQ
    (h6.look 1 rfl) (h6.look 2 rfl) (h6.look 5 rfl) (h6.look 6 rfl) (h6.look 7 rfl) (h6.look 8 rfl) (h6.look 9 rfl) (h6.look 10 rfl) fun a7 w7 h7 hb7 => wp_ret ?_)
  exact bodyPost_ret (results_tmp rfl _ _ _) h7.defers ⟨congrArg Ending.returned (h7.look 0 rfl), bl_trans hbw6 hb7⟩
end Go.Proofs.YtpggcmlddmckcaaDoor
