/-
  Written by an AI agent.
-/
import Derived.Test.YtlhfickniegooaaDoorPk40
import Derived.Test.YtlhfickniegooaaDoorCards
import Derived.Test.YtlhfickniegooaaDoorTie
import Derived.SevenTiedAt
namespace Go.Proofs.YtlhfickniegooaaDoor
open Go.RowKit Go.ChangeShapes Go.WideShapes
set_option maxRecDepth 100000 in
theorem keyedPlays_lifted(os:Os)(started:os.Started)(H:Type)(enc:TypeId×Value->H):
  ReturnsInHanded {} Tryd.checked os 4 .any (fun w args=>(Rows.keyedPlaysSpec.pre enc Tryd.prog Tryd.f4 [] false w args/\laidMetH Tryd.prog laid1 w)/\sizedMet enc Tryd.prog Tryd.f4 (OpenSpec.ofChange Rows.keyedPlaysSpec) false w args)
   (Rows.keyedPlaysSpec.post enc Tryd.prog Tryd.f4 false true false false):=by
 refine returnsInHanded_of_change_and (C:=Tryd.checked) (X:=fun w _=>laidMetH Tryd.prog laid1 w) (fun _ _ _ hh h=>h.of_heap hh) ownKn started (by kernel_rfl) Tryd.func4
  (ChangeSpec.witness_shaped (enc:=enc) (C:=Tryd.checked) (os:=os) (X:=fun w _=>laidMetH Tryd.prog laid1 w) false (World.doorLaid Tryd.prog 400 os) #[.slice none 0 0] 8 rfl (World.shaped_of_RefB (by kernel_rfl) (by kernel_rfl)) (by kernel_rfl) (by kernel_rfl) (by kernel_rfl) (door_met os _)) ?_
 intro W base args ds gs before hval0 hW _ hwt hL _
 have hval: ∀(j:Nat) t v,Tryd.f4.params[j]? =some t->args[j]? =some v->Value.okWide Tryd.prog W .any base t v:=hval0
 have hW':=hW
 obtain⟨p,q,hA0,hV,rfl,hfz,hnd⟩:=hW
 have hA:DataW.TrodAll enc Tryd.prog W 0 (fun _=>true) true Tryd.f4.params.toList args.toList ds p:=hA0
 rw[Tryd.params4] at hA hval
 obtain⟨v0,d0,rfl,rfl,h0⟩:=trodAll_one hA
 obtain⟨rfl,rfl⟩:=trodVars_none hV
 have hwl0:light 46 d0:=fun n hn=>by
  have h1:(DataW.weightsEach Tryd.prog [46] [d0]).all (· <=reachBytes)=true:=hwt
  have:=List.all_eq_true.1 h1 n ((weights_each _ _).2 ⟨0,_,_,rfl,rfl,hn⟩)
  exact of_decide_eq_true this
 obtain⟨l,ra,rc,rfl,hpl⟩:=steps_arg (hval 0 _ v0 rfl rfl) h0 hwl0
 refine(plays_any (own_of_laid hL) hpl).mono fun e W' ⟨he,hb⟩=> ?_
 subst he
 exact⟨_,rfl,post_law rfl hW' rfl rfl (by kernel_rfl) hb⟩
theorem keyedPlays_holds:Rows.KeyedPlaysSaid:=
 OpenClaim.holds_of_wide 4 Tryd.f4 rfl rfl rfl rfl rfl rfl rfl ⟨rfl,rfl,rfl,rfl,rfl⟩ rfl rfl rfl rfl rfl (by kernel_rfl) Tryd.func4 (by kernel_rfl)
  (of_decide_eq_true (by kernel_rfl)) (by unfold Func.isWrapper;first | (rw[if_pos (by decide+kernel)];kernel_rfl) | (rw[if_neg (by decide+kernel)];exact⟨rfl,rfl⟩))
  (fun os started H enc _=>keyedPlays_lifted os started H enc)
theorem keyedPlays_card:Rows.KeyedPlaysCardSaid:=
 Claim7.holds_tied_plain_at .later [] [.data] true (true,"6401bd9b7d427c7eca91392c0da50431ad06c23224a34d3c2895f8ce55712e77") true
  keyedPlays_holds (fun _ h=>by cases h) (by kernel_rfl) (fun _ h=>by cases h) keyedPlays_row_tie rfl ⟨rfl,rfl⟩ (by kernel_rfl) rfl
  (fun f fn hf hfn=>by
   obtain rfl:f=4:=Option.some.inj ((show Tryd.prog.funcNamed "guise/guiselaw9.KeyedPlays"=some 4 by kernel_rfl).symm.trans hf) |>.symm
   obtain rfl:fn=Tryd.f4:=(Option.some.inj (Tryd.func4.symm.trans hfn)).symm
   exact⟨by kernel_rfl,fun j t ht=>by
    rw[Tryd.params4] at ht
    have hm:t∈[46]:=by simpa using Array.mem_of_getElem? ht
    have hall:([46].all fun u=> !Tryd.prog.wantsStandIn u)=true:=by kernel_rfl
    exact(show Tryd.prog.wantsStandIn t=false by simpa using List.all_eq_true.1 hall t hm)⟩)
  (by kernel_rfl)
#print axioms keyedPlays_card
end Go.Proofs.YtlhfickniegooaaDoor
