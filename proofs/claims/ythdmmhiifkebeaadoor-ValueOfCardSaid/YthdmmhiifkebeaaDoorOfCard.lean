/-
  The statement ValueOfCardSaid: any datum as a value: what it can be asked and what it answers; what was handed in and what came out is written over, and it is asked again; the law that says so returns true; the argument reads as it did. Conditions: the row's own (the package-level variable value.own holds what the program's text lays: tied by the card; data whose reading ends). Written by an AI agent.
-/
import Derived.Test.YthdmmhiifkebeaaDoorOf
import Derived.Test.YthdmmhiifkebeaaDoorRow
import Derived.Test.YthdmmhiifkebeaaDoorCards
import Derived.Test.YthdmmhiifkebeaaDoorTie
import Derived.SevenTiedAt
namespace Go.Proofs.YthdmmhiifkebeaaDoor
open Go.RowKit Go.ChangeShapes Go.WideShapes

def zeroDValueOf : Value := .agg #[.int .i64 0, .string ⟨#[]⟩, .int .i64 0, .int .u64 0, .string ⟨#[]⟩, .int .i64 0, .int .i64 0, .int .i64 0, .int .i64 0, .slice none 0 0, .slice none 0 0]
set_option maxRecDepth 100000 in
theorem valueOf_lifted (os : Os) (started : os.Started) (H : Type) (enc : TypeId × Value → H) :
    ReturnsInHanded {} Tryd.checked os 11 .any (fun w args => (Rows.valueOfSpec.pre enc Tryd.prog Tryd.f11 [] false w args ∧ laidMetH Tryd.prog laid1 w) ∧ sizedMet enc Tryd.prog Tryd.f11 (OpenSpec.ofChange Rows.valueOfSpec) false w args)
      (Rows.valueOfSpec.post enc Tryd.prog Tryd.f11 false true false false) := by
  refine returnsInHanded_of_change_and (C := Tryd.checked) (X := fun w _ => laidMetH Tryd.prog laid1 w) (fun _ _ _ hh h => h.of_heap hh) ownKn started (by kernel_rfl) Tryd.func11
    (ChangeSpec.witness_shaped (enc := enc) (C := Tryd.checked) (os := os) (X := fun w _ => laidMetH Tryd.prog laid1 w) false (World.doorLaid Tryd.prog 400 os) #[zeroDValueOf] 8 rfl (World.shaped_of_RefB (by kernel_rfl) (by kernel_rfl)) (by kernel_rfl) (by kernel_rfl) (by kernel_rfl) (door_met os _)) ?_
  intro W base args ds gs before hval0 hW _ hwt hL _
  have hval : ∀ (j : Nat) t v, Tryd.f11.params[j]? = some t → args[j]? = some v → Value.okWide Tryd.prog W .any base t v := hval0
  have hW' := hW
  obtain ⟨p, q, hA0, hV, rfl, hfz, hnd⟩ := hW
  have hA : DataW.TrodAll enc Tryd.prog W 0 (fun _ => true) true Tryd.f11.params.toList args.toList ds p := hA0
  rw [Tryd.params11] at hA hval
  obtain ⟨v0, d0, rfl, rfl, h0⟩ := trodAll_one hA
  obtain ⟨rfl, rfl⟩ := trodVars_none hV
  have hwl0 : light 28 d0 := fun n hn => by
    have h1 : (DataW.weightsEach Tryd.prog [28] [d0]).all (· ≤ reachBytes) = true := hwt
    have := List.all_eq_true.1 h1 n ((weights_each _ _).2 ⟨0, _, _, rfl, rfl, hn⟩)
    exact of_decide_eq_true this
  obtain ⟨h, k, pa, pc, ia, ic, rfl, ho, hk, hl, hd⟩ := dat_arg (hval 0 _ v0 rfl rfl) h0 hwl0
  refine (valueOf_any h k ho hk hl W _ pa pc ia ic hd (own_of_laid hL)).mono fun e W' ⟨he, hb⟩ => ?_
  subst he
  exact ⟨_, rfl, post_law rfl hW' rfl rfl (by kernel_rfl) hb⟩

theorem valueOf_holds : Rows.ValueOfSaid :=
  OpenClaim.holds_of_wide 11 Tryd.f11 rfl rfl rfl rfl rfl rfl rfl ⟨rfl, rfl, rfl, rfl, rfl⟩ rfl rfl rfl rfl rfl (by kernel_rfl) Tryd.func11 (by kernel_rfl)
    (of_decide_eq_true (by kernel_rfl)) (by unfold Func.isWrapper; first | (rw [if_pos (by decide +kernel)]; kernel_rfl) | (rw [if_neg (by decide +kernel)]; exact ⟨rfl, rfl⟩))
    (fun os started H enc _ => valueOf_lifted os started H enc)

theorem valueOf_card : Rows.ValueOfCardSaid :=
  Claim7.holds_tied_plain_at .later [] [.data] true (true, "107596375e8081ae93190c68f88ae6b4a200bb5598bcd39a4fe85dd7cfb9ecbd") true
    valueOf_holds (fun _ h => by cases h) (by kernel_rfl) (fun _ h => by cases h) valueOf_row_tie rfl ⟨rfl, rfl⟩ (by kernel_rfl) rfl
    (fun f fn hf hfn => by
      obtain rfl : f = 11 := Option.some.inj ((show Tryd.prog.funcNamed "guise/guiselaw7.ValueOf" = some 11 by kernel_rfl).symm.trans hf) |>.symm
      obtain rfl : fn = Tryd.f11 := (Option.some.inj (Tryd.func11.symm.trans hfn)).symm
      exact ⟨by kernel_rfl, fun j t ht => by
        rw [Tryd.params11] at ht
        have hm : t ∈ [28] := by simpa using Array.mem_of_getElem? ht
        have hall : ([28].all fun u => !Tryd.prog.wantsStandIn u) = true := by kernel_rfl
        exact (show Tryd.prog.wantsStandIn t = false by simpa using List.all_eq_true.1 hall t hm)⟩)
    (by kernel_rfl)
#print axioms valueOf_card
end Go.Proofs.YthdmmhiifkebeaaDoor
