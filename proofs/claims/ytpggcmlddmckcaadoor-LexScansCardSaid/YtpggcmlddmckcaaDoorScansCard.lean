/-
  The statement LexScansCardSaid: any text has the tokens that the document's answer gives it, or what is wrong first, and where; asked three times; the law that says so returns true; the argument reads as it did. Conditions: the row's own (the listed variables hold what the program's text lays: tied by the card). Written by an AI agent.
-/
import Derived.Test.YtpggcmlddmckcaaDoorSn4
import Derived.Test.YtpggcmlddmckcaaDoorRowL
import Derived.Test.YtpggcmlddmckcaaDoorCards
import Derived.Test.YtpggcmlddmckcaaDoorTie
import Derived.SevenTiedAt
import Derived.ChangeMaps5
namespace Go.Proofs.YtpggcmlddmckcaaDoor
open Go.RowKit Go.ChangeShapes Go.WideShapes Go.ChangeAt

set_option maxRecDepth 100000 in
theorem lexScans_lifted (os : Os) (started : os.Started) (H : Type) (enc : TypeId × Value → H) :
    ReturnsInHanded {} Tryd.checked os 3 .any (fun w args => (Rows.lexScansSpec.pre enc Tryd.prog Tryd.f3 [] false w args ∧ laidMetH Tryd.prog laidL w) ∧ sizedMet enc Tryd.prog Tryd.f3 (OpenSpec.ofChange Rows.lexScansSpec) false w args)
      (Rows.lexScansSpec.post enc Tryd.prog Tryd.f3 false true false false) := by
  refine returns_shaped (C := Tryd.checked) (X := fun w _ => laidMetH Tryd.prog laidL w) (fun _ _ _ hh h => h.of_heap hh) ownKn started (by kernel_rfl) Tryd.func3
    (ChangeSpec.witness_shaped (enc := enc) (C := Tryd.checked) (os := os) (X := fun w _ => laidMetH Tryd.prog laidL w) false (World.doorLaid Tryd.prog 400 os) #[.string ⟨#[]⟩] 8 rfl (World.shaped_of_RefB (by kernel_rfl) (by kernel_rfl)) (by kernel_rfl) (by kernel_rfl) (by kernel_rfl) (door_met os _)) ?_
  intro W base args ds gs before hval0 hW hwt hL hsh
  have hval : ∀ (j : Nat) t v, Tryd.f3.params[j]? = some t → args[j]? = some v → Value.okWide Tryd.prog W .any base t v := hval0
  have hW' := hW
  obtain ⟨p, q, hA0, hV, rfl, hfz, hnd⟩ := hW
  have hA : DataW.TrodAll enc Tryd.prog W 0 (fun _ => true) true Tryd.f3.params.toList args.toList ds p := hA0
  rw [Tryd.params3] at hA hval
  obtain ⟨v0, d0, rfl, rfl, h0⟩ := trodAll_one hA
  obtain ⟨rfl, rfl⟩ := trodVars_none hV
  obtain ⟨s, rfl, rfl, rfl, _⟩ := Go.ChangeMaps.open_string Tryd.underlying9 (hval 0 _ v0 rfl rfl) h0
  have hs : s.size ≤ 140737488351232 := by
    have h2 : (DataW.weightsEach Tryd.prog [9] [(.lit (.string s.data.toList) : DataW H)]).all (· ≤ reachBytes) = true := hwt
    have h3 := List.all_eq_true.1 h2 s.data.toList.length (by simp [DataW.weightsEach, DataW.weights])
    have h4 := of_decide_eq_true h3
    unfold reachBytes at h4
    simpa using h4
  refine (lexScans_any s W (lex_of_laid hL hsh)).mono fun e W' ⟨he, hb⟩ => ?_
  subst he
  exact ⟨_, rfl, post_law rfl hW' rfl rfl (by kernel_rfl) hb⟩

theorem lexScans_holds : Rows.LexScansSaid :=
  OpenClaim.holds_of_wide 3 Tryd.f3 rfl rfl rfl rfl rfl rfl rfl ⟨rfl, rfl, rfl, rfl, rfl⟩ rfl rfl rfl rfl rfl (by kernel_rfl) Tryd.func3 (by kernel_rfl)
    (of_decide_eq_true (by kernel_rfl)) (by unfold Func.isWrapper; first | (rw [if_pos (by decide +kernel)]; kernel_rfl) | (rw [if_neg (by decide +kernel)]; exact ⟨rfl, rfl⟩))
    (fun os started H enc _ => lexScans_lifted os started H enc)

theorem lexScans_card : Rows.LexScansCardSaid :=
  Claim7.holds_tied_plain_at .later [] [.listed, .data, .data] true (true, "3fd67c3815604bdc55c5409ce18795f1ec40908bb3324602324d16f747b72420") true
    lexScans_holds (fun _ h => by cases h) (by kernel_rfl) (fun _ h => by cases h) lexScans_row_tie rfl ⟨rfl, rfl⟩ (by kernel_rfl) rfl
    (fun f fn hf hfn => by
      obtain rfl : f = 3 := Option.some.inj ((show Tryd.prog.funcNamed "guise/guiselaw1.LexScans" = some 3 by kernel_rfl).symm.trans hf) |>.symm
      obtain rfl : fn = Tryd.f3 := (Option.some.inj (Tryd.func3.symm.trans hfn)).symm
      exact ⟨by kernel_rfl, fun j t ht => by
        rw [Tryd.params3] at ht
        have hm : t ∈ [9] := by simpa using Array.mem_of_getElem? ht
        have hall : ([9].all fun u => !Tryd.prog.wantsStandIn u) = true := by kernel_rfl
        exact (show Tryd.prog.wantsStandIn t = false by simpa using List.all_eq_true.1 hall t hm)⟩)
    (by kernel_rfl)
#print axioms lexScans_card
end Go.Proofs.YtpggcmlddmckcaaDoor
