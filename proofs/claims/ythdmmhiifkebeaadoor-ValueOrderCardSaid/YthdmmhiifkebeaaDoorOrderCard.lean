/-
  The statement ValueOrderCardSaid: for any kind number and any raw numbers, of three made data that are Ordered each two have a rank, below is handed on, 0 just of equal ones, and the law that says so returns true; the arguments read as they did. Conditions: the row's own (the package-level variable value.own holds what the program's text lays: tied by the card; data whose reading ends). Written by an AI agent.
-/
import Derived.Test.YthdmmhiifkebeaaDoorOrder
import Derived.Test.YthdmmhiifkebeaaDoorRowI
import Derived.Test.YthdmmhiifkebeaaDoorCards
import Derived.Test.YthdmmhiifkebeaaDoorTie
import Derived.SevenTiedAt
namespace Go.Proofs.YthdmmhiifkebeaaDoor
open Go.RowKit Go.ChangeShapes Go.WideShapes

set_option maxRecDepth 100000 in
theorem valueOrder_lifted (os : Os) (started : os.Started) (H : Type) (enc : TypeId × Value → H) :
    ReturnsInHanded {} Tryd.checked os 9 .any (fun w args => (Rows.valueOrderSpec.pre enc Tryd.prog Tryd.f9 [] false w args ∧ laidMetH Tryd.prog laid1 w) ∧ sizedMet enc Tryd.prog Tryd.f9 (OpenSpec.ofChange Rows.valueOrderSpec) false w args)
      (Rows.valueOrderSpec.post enc Tryd.prog Tryd.f9 false true false false) := by
  refine returnsInHanded_of_change_and (C := Tryd.checked) (X := fun w _ => laidMetH Tryd.prog laid1 w) (fun _ _ _ hh h => h.of_heap hh) ownKn started (by kernel_rfl) Tryd.func9
    (ChangeSpec.witness_shaped (enc := enc) (C := Tryd.checked) (os := os) (X := fun w _ => laidMetH Tryd.prog laid1 w) false (World.doorLaid Tryd.prog 400 os) #[.int .i64 0, .slice none 0 0] 8 rfl (World.shaped_of_RefB (by kernel_rfl) (by kernel_rfl)) (by kernel_rfl) (by kernel_rfl) (by kernel_rfl) (door_met os _)) ?_
  intro W base args ds gs before hval0 hW _ hwt hL _
  have hval : ∀ (j : Nat) t v, Tryd.f9.params[j]? = some t → args[j]? = some v → Value.okWide Tryd.prog W .any base t v := hval0
  have hW' := hW
  obtain ⟨p, q, hA0, hV, rfl, hfz, hnd⟩ := hW
  have hA : DataW.TrodAll enc Tryd.prog W 0 (fun _ => true) true Tryd.f9.params.toList args.toList ds p := hA0
  rw [Tryd.params9] at hA hval
  obtain ⟨v0, v1, d0, d1, p0, p1, rfl, rfl, rfl, h0, h1⟩ := trodAll_two hA
  obtain ⟨rfl, rfl⟩ := trodVars_none hV
  obtain ⟨x, rfl, rfl, rfl, wx⟩ := open_int Tryd.underlying3 (hval 0 _ v0 rfl rfl) h0
  have hwl1 : light 23 d1 := fun n hn => by
    have h1 : (DataW.weightsEach Tryd.prog [3, 23] [.lit (.int .i64 x), d1]).all (· ≤ reachBytes) = true := hwt
    have := List.all_eq_true.1 h1 n ((weights_each _ _).2 ⟨1, _, _, rfl, rfl, hn⟩)
    exact of_decide_eq_true this
  obtain ⟨l, ra, rc, rfl, hpl, hll, hle⟩ := ints_arg (hval 1 _ v1 rfl rfl) h1 hwl1
  refine (valueOrder_any x (okInt_wf wx) ra l rc hll hle W _ hpl (own_of_laid hL)).mono fun e W' ⟨he, hb⟩ => ?_
  subst he
  exact ⟨_, rfl, post_law rfl hW' rfl rfl (by kernel_rfl) hb⟩

theorem valueOrder_holds : Rows.ValueOrderSaid :=
  OpenClaim.holds_of_wide 9 Tryd.f9 rfl rfl rfl rfl rfl rfl rfl ⟨rfl, rfl, rfl, rfl, rfl⟩ rfl rfl rfl rfl rfl (by kernel_rfl) Tryd.func9 (by kernel_rfl)
    (of_decide_eq_true (by kernel_rfl)) (by unfold Func.isWrapper; first | (rw [if_pos (by decide +kernel)]; kernel_rfl) | (rw [if_neg (by decide +kernel)]; exact ⟨rfl, rfl⟩))
    (fun os started H enc _ => valueOrder_lifted os started H enc)

theorem valueOrder_card : Rows.ValueOrderCardSaid :=
  Claim7.holds_tied_plain_at .later [] [.data] true (true, "107596375e8081ae93190c68f88ae6b4a200bb5598bcd39a4fe85dd7cfb9ecbd") true
    valueOrder_holds (fun _ h => by cases h) (by kernel_rfl) (fun _ h => by cases h) valueOrder_row_tie rfl ⟨rfl, rfl⟩ (by kernel_rfl) rfl
    (fun f fn hf hfn => by
      obtain rfl : f = 9 := Option.some.inj ((show Tryd.prog.funcNamed "guise/guiselaw7.ValueOrder" = some 9 by kernel_rfl).symm.trans hf) |>.symm
      obtain rfl : fn = Tryd.f9 := (Option.some.inj (Tryd.func9.symm.trans hfn)).symm
      exact ⟨by kernel_rfl, fun j t ht => by
        rw [Tryd.params9] at ht
        have hm : t ∈ [3, 23] := by simpa using Array.mem_of_getElem? ht
        have hall : ([3, 23].all fun u => !Tryd.prog.wantsStandIn u) = true := by kernel_rfl
        exact (show Tryd.prog.wantsStandIn t = false by simpa using List.all_eq_true.1 hall t hm)⟩)
    (by kernel_rfl)
#print axioms valueOrder_card
end Go.Proofs.YthdmmhiifkebeaaDoor
