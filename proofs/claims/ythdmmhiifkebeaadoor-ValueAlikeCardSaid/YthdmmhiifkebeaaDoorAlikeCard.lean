/-
  The statement ValueAlikeCardSaid: for any raw numbers, of three right data that are made, equal goes both ways and on, each is equal to itself or held, the same ones are equal and equal ones have one number as keys, and the law that says so returns true; the arguments read as they did. Conditions: the row's own (the package-level variable value.own holds what the program's text lays: tied by the card; data whose reading ends). Written by an AI agent.
-/
import Derived.Test.YthdmmhiifkebeaaDoorAlike
import Derived.Test.YthdmmhiifkebeaaDoorRowI
import Derived.Test.YthdmmhiifkebeaaDoorCards
import Derived.Test.YthdmmhiifkebeaaDoorTie
import Derived.SevenTiedAt
namespace Go.Proofs.YthdmmhiifkebeaaDoor
open Go.RowKit Go.ChangeShapes Go.WideShapes

set_option maxRecDepth 100000 in
theorem valueAlike_lifted (os : Os) (started : os.Started) (H : Type) (enc : TypeId × Value → H) :
    ReturnsInHanded {} Tryd.checked os 8 .any (fun w args => (Rows.valueAlikeSpec.pre enc Tryd.prog Tryd.f8 [] false w args ∧ laidMetH Tryd.prog laid1 w) ∧ sizedMet enc Tryd.prog Tryd.f8 (OpenSpec.ofChange Rows.valueAlikeSpec) false w args)
      (Rows.valueAlikeSpec.post enc Tryd.prog Tryd.f8 false true false false) := by
  refine returnsInHanded_of_change_and (C := Tryd.checked) (X := fun w _ => laidMetH Tryd.prog laid1 w) (fun _ _ _ hh h => h.of_heap hh) ownKn started (by kernel_rfl) Tryd.func8
    (ChangeSpec.witness_shaped (enc := enc) (C := Tryd.checked) (os := os) (X := fun w _ => laidMetH Tryd.prog laid1 w) false (World.doorLaid Tryd.prog 400 os) #[.slice none 0 0, .slice none 0 0, .slice none 0 0] 8 rfl (World.shaped_of_RefB (by kernel_rfl) (by kernel_rfl)) (by kernel_rfl) (by kernel_rfl) (by kernel_rfl) (door_met os _)) ?_
  intro W base args ds gs before hval0 hW _ hwt hL _
  have hval : ∀ (j : Nat) t v, Tryd.f8.params[j]? = some t → args[j]? = some v → Value.okWide Tryd.prog W .any base t v := hval0
  have hW' := hW
  obtain ⟨p, q, hA0, hV, rfl, hfz, hnd⟩ := hW
  have hA : DataW.TrodAll enc Tryd.prog W 0 (fun _ => true) true Tryd.f8.params.toList args.toList ds p := hA0
  rw [Tryd.params8] at hA hval
  obtain ⟨v0, v1, v2, d0, d1, d2, p0, p1, p2, rfl, rfl, rfl, h0, h1, h2⟩ := trodAll_three hA
  obtain ⟨rfl, rfl⟩ := trodVars_none hV
  have hwl0 : light 23 d0 := fun n hn => by
    have h1 : (DataW.weightsEach Tryd.prog [23, 23, 23] [d0, d1, d2]).all (· ≤ reachBytes) = true := hwt
    have := List.all_eq_true.1 h1 n ((weights_each _ _).2 ⟨0, _, _, rfl, rfl, hn⟩)
    exact of_decide_eq_true this
  have hwl1 : light 23 d1 := fun n hn => by
    have h1 : (DataW.weightsEach Tryd.prog [23, 23, 23] [d0, d1, d2]).all (· ≤ reachBytes) = true := hwt
    have := List.all_eq_true.1 h1 n ((weights_each _ _).2 ⟨1, _, _, rfl, rfl, hn⟩)
    exact of_decide_eq_true this
  have hwl2 : light 23 d2 := fun n hn => by
    have h1 : (DataW.weightsEach Tryd.prog [23, 23, 23] [d0, d1, d2]).all (· ≤ reachBytes) = true := hwt
    have := List.all_eq_true.1 h1 n ((weights_each _ _).2 ⟨2, _, _, rfl, rfl, hn⟩)
    exact of_decide_eq_true this
  obtain ⟨la, ra, ca, rfl, hpa, hla, hea⟩ := ints_arg (hval 0 _ v0 rfl rfl) h0 hwl0
  obtain ⟨lb, rb, cb, rfl, hpb, hlb, heb⟩ := ints_arg (hval 1 _ v1 rfl rfl) h1 hwl1
  obtain ⟨lc, rc, cc, rfl, hpc, hlc, hec⟩ := ints_arg (hval 2 _ v2 rfl rfl) h2 hwl2
  have raw : ∀ (l : List Int) (r : Option Addr), PathAt W (fun _ => True) r l → l.length ≤ 17592186043904 → (∀ (j : Nat) (x : Int), l[j]? = some x → okInt x) → RawAt W r l := fun l r hp hl he =>
    ⟨hl, he, hp.keep (fun _ _ _ => rfl) (fun _ _ h => h)⟩
  refine (valueAlike_any ra la ca rb lb cb rc lc cc W (raw la ra hpa hla hea) (raw lb rb hpb hlb heb) (raw lc rc hpc hlc hec) (own_of_laid hL)).mono fun e W' ⟨he, hb⟩ => ?_
  subst he
  exact ⟨_, rfl, post_law rfl hW' rfl rfl (by kernel_rfl) hb⟩

theorem valueAlike_holds : Rows.ValueAlikeSaid :=
  OpenClaim.holds_of_wide 8 Tryd.f8 rfl rfl rfl rfl rfl rfl rfl ⟨rfl, rfl, rfl, rfl, rfl⟩ rfl rfl rfl rfl rfl (by kernel_rfl) Tryd.func8 (by kernel_rfl)
    (of_decide_eq_true (by kernel_rfl)) (by unfold Func.isWrapper; first | (rw [if_pos (by decide +kernel)]; kernel_rfl) | (rw [if_neg (by decide +kernel)]; exact ⟨rfl, rfl⟩))
    (fun os started H enc _ => valueAlike_lifted os started H enc)

theorem valueAlike_card : Rows.ValueAlikeCardSaid :=
  Claim7.holds_tied_plain_at .later [] [.data] true (true, "107596375e8081ae93190c68f88ae6b4a200bb5598bcd39a4fe85dd7cfb9ecbd") true
    valueAlike_holds (fun _ h => by cases h) (by kernel_rfl) (fun _ h => by cases h) valueAlike_row_tie rfl ⟨rfl, rfl⟩ (by kernel_rfl) rfl
    (fun f fn hf hfn => by
      obtain rfl : f = 8 := Option.some.inj ((show Tryd.prog.funcNamed "guise/guiselaw7.ValueAlike" = some 8 by kernel_rfl).symm.trans hf) |>.symm
      obtain rfl : fn = Tryd.f8 := (Option.some.inj (Tryd.func8.symm.trans hfn)).symm
      exact ⟨by kernel_rfl, fun j t ht => by
        rw [Tryd.params8] at ht
        have hm : t ∈ [23, 23, 23] := by simpa using Array.mem_of_getElem? ht
        have hall : ([23, 23, 23].all fun u => !Tryd.prog.wantsStandIn u) = true := by kernel_rfl
        exact (show Tryd.prog.wantsStandIn t = false by simpa using List.all_eq_true.1 hall t hm)⟩)
    (by kernel_rfl)
#print axioms valueAlike_card
end Go.Proofs.YthdmmhiifkebeaaDoor
