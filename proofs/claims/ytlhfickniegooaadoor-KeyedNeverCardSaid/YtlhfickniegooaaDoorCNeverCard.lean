/-
  The statement KeyedNeverCardSaid: for any row of numbers and either sort of key, the law of keys that are not equal to themselves returns true; the arguments read as they did. Conditions: the row's own (the package-level variable value.own holds what the program's text lays: tied by the card; data whose reading ends). Written by an AI agent.
-/
import Derived.Test.YtlhfickniegooaaDoorPk25
import Derived.Test.YtlhfickniegooaaDoorPk26
import Derived.Test.YtlhfickniegooaaDoorCards
import Derived.Test.YtlhfickniegooaaDoorTie
import Derived.SevenTiedAt
namespace Go.Proofs.YtlhfickniegooaaDoor
open Go.RowKit Go.ChangeShapes Go.WideShapes

set_option maxRecDepth 100000 in
theorem keyedNever_lifted (os : Os) (started : os.Started) (H : Type) (enc : TypeId × Value → H) :
    ReturnsInHanded {} Tryd.checked os 3 .any (fun w args => (Rows.keyedNeverSpec.pre enc Tryd.prog Tryd.f3 [] false w args ∧ laidMetH Tryd.prog laid1 w) ∧ sizedMet enc Tryd.prog Tryd.f3 (OpenSpec.ofChange Rows.keyedNeverSpec) false w args)
      (Rows.keyedNeverSpec.post enc Tryd.prog Tryd.f3 false true false false) := by
  refine returnsInHanded_of_change_and (C := Tryd.checked) (X := fun w _ => laidMetH Tryd.prog laid1 w) (fun _ _ _ hh h => h.of_heap hh) ownKn started (by kernel_rfl) Tryd.func3
    (ChangeSpec.witness_shaped (enc := enc) (C := Tryd.checked) (os := os) (X := fun w _ => laidMetH Tryd.prog laid1 w) false (World.doorLaid Tryd.prog 400 os) #[.slice none 0 0, .bool false] 8 rfl (World.shaped_of_RefB (by kernel_rfl) (by kernel_rfl)) (by kernel_rfl) (by kernel_rfl) (by kernel_rfl) (door_met os _)) ?_
  intro W base args ds gs before hval0 hW _ hwt hL _
  have hval : ∀ (j : Nat) t v, Tryd.f3.params[j]? = some t → args[j]? = some v → Value.okWide Tryd.prog W .any base t v := hval0
  have hW' := hW
  obtain ⟨p, q, hA0, hV, rfl, hfz, hnd⟩ := hW
  have hA : DataW.TrodAll enc Tryd.prog W 0 (fun _ => true) true Tryd.f3.params.toList args.toList ds p := hA0
  rw [Tryd.params3] at hA hval
  obtain ⟨v0, v1, d0, d1, p0, p1, rfl, rfl, rfl, h0, h1⟩ := trodAll_two hA
  obtain ⟨rfl, rfl⟩ := trodVars_none hV
  have hwl0 : light 22 d0 := fun n hn => by
    have h1 : (DataW.weightsEach Tryd.prog [22, 4] [d0, d1]).all (· ≤ reachBytes) = true := hwt
    have := List.all_eq_true.1 h1 n ((weights_each _ _).2 ⟨0, _, _, rfl, rfl, hn⟩)
    exact of_decide_eq_true this
  obtain ⟨l, ra, rc, rfl, hpl, hll, hle⟩ := ints_arg (hval 0 _ v0 rfl rfl) h0 hwl0
  obtain ⟨b, rfl, rfl, rfl⟩ := open_bool Tryd.underlying4 (hval 1 _ v1 rfl rfl) h1
  refine (never_any (own_of_laid hL) hpl hle).mono fun e W' ⟨he, hb⟩ => ?_
  subst he
  exact ⟨_, rfl, post_law rfl hW' rfl rfl (by kernel_rfl) hb⟩

theorem keyedNever_holds : Rows.KeyedNeverSaid :=
  OpenClaim.holds_of_wide 3 Tryd.f3 rfl rfl rfl rfl rfl rfl rfl ⟨rfl, rfl, rfl, rfl, rfl⟩ rfl rfl rfl rfl rfl (by kernel_rfl) Tryd.func3 (by kernel_rfl)
    (of_decide_eq_true (by kernel_rfl)) (by unfold Func.isWrapper; first | (rw [if_pos (by decide +kernel)]; kernel_rfl) | (rw [if_neg (by decide +kernel)]; exact ⟨rfl, rfl⟩))
    (fun os started H enc _ => keyedNever_lifted os started H enc)

theorem keyedNever_card : Rows.KeyedNeverCardSaid :=
  Claim7.holds_tied_plain_at .later [] [.data] true (true, "6401bd9b7d427c7eca91392c0da50431ad06c23224a34d3c2895f8ce55712e77") true
    keyedNever_holds (fun _ h => by cases h) (by kernel_rfl) (fun _ h => by cases h) keyedNever_row_tie rfl ⟨rfl, rfl⟩ (by kernel_rfl) rfl
    (fun f fn hf hfn => by
      obtain rfl : f = 3 := Option.some.inj ((show Tryd.prog.funcNamed "guise/guiselaw9.KeyedNever" = some 3 by kernel_rfl).symm.trans hf) |>.symm
      obtain rfl : fn = Tryd.f3 := (Option.some.inj (Tryd.func3.symm.trans hfn)).symm
      exact ⟨by kernel_rfl, fun j t ht => by
        rw [Tryd.params3] at ht
        have hm : t ∈ [22, 4] := by simpa using Array.mem_of_getElem? ht
        have hall : ([22, 4].all fun u => !Tryd.prog.wantsStandIn u) = true := by kernel_rfl
        exact (show Tryd.prog.wantsStandIn t = false by simpa using List.all_eq_true.1 hall t hm)⟩)
    (by kernel_rfl)
#print axioms keyedNever_card
end Go.Proofs.YtlhfickniegooaaDoor
