/-
  The statement LexQuotesUptoCardSaid: any bytes are written as a literal as the document has it, and any bytes are read as one as the document has it: the law that says so returns true; the argument reads as it did. Conditions: what is read is of bulk at most 1048576 (the second form: the first one is false by size), and the row's own (the listed variables hold what the program's text lays: tied by the card). Written by an AI agent.
-/
import Derived.Test.YtpggcmlddmckcaaDoorQr2
import Derived.Test.YtpggcmlddmckcaaDoorRowL
import Derived.Test.YtpggcmlddmckcaaDoorCards
import Derived.Test.YtpggcmlddmckcaaDoorTie
import Derived.SevenTiedAt
import Derived.ChangeMaps5
import Derived.Deep.DeepWitnessRowRef
namespace Go.Proofs.YtpggcmlddmckcaaDoor
open Go.RowKit Go.ChangeShapes Go.WideShapes Go.ChangeAt

theorem lexQuotes_reads (os : Os) {H : Type} (enc : TypeId × Value → H) : ∃ places, DataW.whole enc Tryd.prog ((World.doorLaid Tryd.prog 400 os).forCall (fun _ _ => 0) ⟨#[], #[.string ⟨#[]⟩], []⟩).memory Tryd.f4.params.toList Rows.lexQuotesSpec.vars false #[Value.string ⟨#[]⟩].toList 8 = some ([.lit (.string [])], [], places) :=
  ⟨[], by kernel_rfl⟩
set_option maxRecDepth 100000 in
theorem lexQuotes_lifted (os : Os) (started : os.Started) (H : Type) (enc : TypeId × Value → H) (F : Stop.Interp) :
    ReturnsInHanded {} Tryd.checked os 4 .any ((Rows.OpenSpec.upto Rows.lexQuotesSpec).preRow enc Tryd.prog Tryd.f4 Rows.lexQuotesUptoRow.domain false Rows.lexQuotesUptoRow.laid)
      (((Rows.OpenSpec.upto Rows.lexQuotesSpec).at F).post enc Tryd.prog Tryd.f4 false true false false) := by
  obtain ⟨places, hx⟩ := lexQuotes_reads os enc
  refine returnsInHanded_of_row (C := Tryd.checked) (s := Rows.OpenSpec.upto Rows.lexQuotesSpec) ownKn started (by kernel_rfl) Tryd.func4
    (witness_row_atRef (enc := enc) (C := Tryd.checked) false (World.doorLaid Tryd.prog 400 os) #[.string ⟨#[]⟩] rfl (by kernel_rfl) (by kernel_rfl) (by kernel_rfl)
      (OpenSpec.preRow_of_cond 8 hx (by kernel_rfl) (fun k hk => by cases hk; kernel_rfl) (by kernel_rfl) (door_met os _))) ?_
  intro W base args ds gs before hval0 hW _ hk _ hL hsh _
  have hval : ∀ (j : Nat) t v, Tryd.f4.params[j]? = some t → args[j]? = some v → Value.okWide Tryd.prog W .any base t v := hval0
  have hW' := hW
  obtain ⟨p, q, hA0, hV, rfl, hfz, hnd⟩ := hW
  have hA : DataW.TrodAll enc Tryd.prog W 0 (fun _ => true) true Tryd.f4.params.toList args.toList ds p := hA0
  rw [Tryd.params4] at hA hval
  obtain ⟨v0, d0, rfl, rfl, h0⟩ := trodAll_one hA
  obtain ⟨rfl, rfl⟩ := trodVars_none hV
  obtain ⟨s, rfl, rfl, rfl, _⟩ := Go.ChangeMaps.open_string Tryd.underlying9 (hval 0 _ v0 rfl rfl) h0
  have hs : s.size ≤ 35184372000000 := by
    have h2 := of_decide_eq_true (hk _ rfl)
    simp only [List.append_nil, Rows.uptoBulkAll, Rows.uptoBulk] at h2
    have h3 : s.data.toList.length = s.size := by simp
    omega
  refine (lexQuotes_any s hs W (lex_of_laid hL hsh)).mono fun e W' ⟨he, hb⟩ => ?_
  subst he
  exact ⟨_, rfl, post_law (s := Rows.lexQuotesSpec) rfl hW' rfl rfl (by kernel_rfl) hb⟩

theorem lexQuotesUpto_holds : Rows.LexQuotesUptoSaid :=
  OpenClaim.holds_of_cond 4 Tryd.f4 rfl rfl rfl rfl rfl rfl rfl ⟨rfl, rfl, rfl, rfl, rfl⟩ rfl rfl rfl rfl rfl (by kernel_rfl) Tryd.func4 (by kernel_rfl)
    (of_decide_eq_true (by kernel_rfl)) (by unfold Func.isWrapper; first | (rw [if_pos (by decide +kernel)]; kernel_rfl) | (rw [if_neg (by decide +kernel)]; exact ⟨rfl, rfl⟩))
    (fun os started H enc _ F => by rw [OpenClaim.pre_eq_preRow]; exact lexQuotes_lifted os started H enc F)

theorem lexQuotesUpto_card : Rows.LexQuotesUptoCardSaid :=
  Claim7.holds_tied_plain_at .later [] _ _ _ _
    lexQuotesUpto_holds (fun _ h => by cases h) (by kernel_rfl) (fun _ h => by cases h) lexQuotesUpto_row_tie rfl ⟨rfl, rfl⟩ (by kernel_rfl) rfl
    (fun f fn hf hfn => by
      obtain rfl : f = 4 := Option.some.inj ((show Tryd.prog.funcNamed "guise/guiselaw1.LexQuotes" = some 4 by kernel_rfl).symm.trans hf) |>.symm
      obtain rfl : fn = Tryd.f4 := (Option.some.inj (Tryd.func4.symm.trans hfn)).symm
      exact ⟨by kernel_rfl, fun j t ht => by
        rw [Tryd.params4] at ht
        have hm : t ∈ [9] := by simpa using Array.mem_of_getElem? ht
        have hall : ([9].all fun u => !Tryd.prog.wantsStandIn u) = true := by kernel_rfl
        exact (show Tryd.prog.wantsStandIn t = false by simpa using List.all_eq_true.1 hall t hm)⟩)
    (by kernel_rfl)
#print axioms lexQuotesUpto_card
end Go.Proofs.YtpggcmlddmckcaaDoor
