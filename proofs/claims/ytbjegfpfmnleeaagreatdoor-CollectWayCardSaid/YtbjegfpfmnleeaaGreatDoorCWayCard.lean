/-
  Written by an AI agent.
-/
import Derived.Test.YtbjegfpfmnleeaaGreatDoorQw34
import Derived.Test.YtbjegfpfmnleeaaGreatDoorQw35
import Derived.Test.YtbjegfpfmnleeaaGreatDoorCards
import Derived.Test.YtbjegfpfmnleeaaGreatDoorTie
import Derived.SevenTiedAt
namespace Go.Proofs.YtbjegfpfmnleeaaGreatDoor
open Go.RowKit Go.ChangeShapes Go.WideShapes
set_option maxRecDepth 100000 in
theorem collectWay_lifted(os:Os)(started:os.Started)(H:Type)(enc:TypeId×Value->H):
  ReturnsInHanded {} Tryz.checked os 5 .any (fun w args=>(Rows.collectWaySpec.pre enc Tryz.prog Tryz.f5 [] false w args/\laidMetH Tryz.prog laid4 w)/\sizedMet enc Tryz.prog Tryz.f5 (OpenSpec.ofChange Rows.collectWaySpec) false w args)
   (Rows.collectWaySpec.post enc Tryz.prog Tryz.f5 false true false false):=by
 refine returnsInHanded_of_change_and (C:=Tryz.checked) (X:=fun w _=>laidMetH Tryz.prog laid4 w) (fun _ _ _ hh h=>h.of_heap hh) ownKn started (by kernel_rfl) Tryz.func5
  (ChangeSpec.witness_shaped (enc:=enc) (C:=Tryz.checked) (os:=os) (X:=fun w _=>laidMetH Tryz.prog laid4 w) false (World.doorLaid Tryz.prog 400 os) #[.slice none 0 0,.slice none 0 0,.int .i64 0] 8 rfl (World.shaped_of_RefB (by kernel_rfl) (by kernel_rfl)) (by kernel_rfl) (by kernel_rfl) (by kernel_rfl) (door_met4 os _)) ?_
 intro W base args ds gs before hval0 hW _ hwt hL _
 have hval: ∀(j:Nat) t v,Tryz.f5.params[j]? =some t->args[j]? =some v->Value.okWide Tryz.prog W .any base t v:=hval0
 have hW':=hW
 obtain⟨p,q,hA0,hV,rfl,hfz,hnd⟩:=hW
 have hA:DataW.TrodAll enc Tryz.prog W 0 (fun _=>true) true Tryz.f5.params.toList args.toList ds p:=hA0
 rw[Tryz.params5] at hA hval
 obtain⟨v0,v1,v2,d0,d1,d2,p0,p1,p2,rfl,rfl,rfl,h0,h1,h2⟩:=trodAll_three hA
 obtain⟨rfl,rfl⟩:=trodVars_none hV
 have hwl: ∀(j:Nat) (t:TypeId) (d:DataW H),[22,24,3][j]? =some t->[d0,d1,d2][j]? =some d->light t d:=fun j t d ht hd n hn=>by
  have h1:(DataW.weightsEach Tryz.prog [22,24,3] [d0,d1,d2]).all (· <=reachBytes)=true:=hwt
  have:=List.all_eq_true.1 h1 n ((weights_each _ _).2 ⟨j,_,_,ht,hd,hn⟩)
  exact of_decide_eq_true this
 obtain⟨l,ra,rc,rfl,hpl⟩:=acts4_arg (hval 0 _ v0 rfl rfl) h0
 obtain⟨l1,ra1,rc1,rfl,hp1,_,hn1⟩:=ints_arg (hval 1 _ v1 rfl rfl) h1 (hwl 1 _ _ rfl rfl)
 obtain⟨z,rfl,rfl,rfl,wz⟩:=open_int Tryz.underlying3 (hval 2 _ v2 rfl rfl) h2
 have hown:=own_of_laid4 hL
 refine(collectWay_any hown (own_pos hown) hpl rc (ints_in hp1 hn1) rc1 (okInt_wf wz)).mono fun e W' ⟨he,hb⟩=> ?_
 subst he
 exact⟨_,rfl,post_law rfl hW' rfl rfl (by kernel_rfl) hb⟩
theorem collectWay_holds:Rows.CollectWaySaid:=
 OpenClaim.holds_of_wide 5 Tryz.f5 rfl rfl rfl rfl rfl rfl rfl ⟨rfl,rfl,rfl,rfl,rfl⟩ rfl rfl rfl rfl rfl (by kernel_rfl) Tryz.func5 (by kernel_rfl)
  (of_decide_eq_true (by kernel_rfl)) (by unfold Func.isWrapper;first | (rw[if_pos (by decide+kernel)];kernel_rfl) | (rw[if_neg (by decide+kernel)];exact⟨rfl,rfl⟩))
  (fun os started H enc _=>collectWay_lifted os started H enc)
theorem collectWay_card:Rows.CollectWayCardSaid:=
 Claim7.holds_tied_plain_at .later [] [.data,.data,.data,.data] true (true,"8905e66f49094f71418e302701b477834554a86a30ecaec436f0193c6c20f494") true
  collectWay_holds (fun _ h=>by cases h) (by kernel_rfl) (fun _ h=>by cases h) collectWay_row_tie rfl ⟨rfl,rfl⟩ (by kernel_rfl) rfl
  (fun f fn hf hfn=>by
   obtain rfl:f=5:=Option.some.inj ((show Tryz.prog.funcNamed "guise/guiselaw18.CollectWay"=some 5 by kernel_rfl).symm.trans hf) |>.symm
   obtain rfl:fn=Tryz.f5:=(Option.some.inj (Tryz.func5.symm.trans hfn)).symm
   exact⟨by kernel_rfl,fun j t ht=>by
    rw[Tryz.params5] at ht
    have hm:t∈[22,24,3]:=by simpa using Array.mem_of_getElem? ht
    have hall:([22,24,3].all fun u=> !Tryz.prog.wantsStandIn u)=true:=by kernel_rfl
    exact(show Tryz.prog.wantsStandIn t=false by simpa using List.all_eq_true.1 hall t hm)⟩)
  (by kernel_rfl)
#print axioms collectWay_card
end Go.Proofs.YtbjegfpfmnleeaaGreatDoor
