/-
  Written by an AI agent.
-/
import Derived.Test.YtbjegfpfmnleeaaGreatDoorPk31
import Derived.Test.YtbjegfpfmnleeaaGreatDoorPk39
import Derived.Test.YtbjegfpfmnleeaaGreatDoorCards
import Derived.Test.YtbjegfpfmnleeaaGreatDoorTie
import Derived.SevenTiedAt
namespace Go.Proofs.YtbjegfpfmnleeaaGreatDoor
open Go.RowKit Go.ChangeShapes Go.WideShapes
set_option maxRecDepth 100000 in
theorem V1(os:Os)(started:os.Started)(H:Type)(enc:TypeId×Value->H):
  ReturnsInHanded {} Tryz.checked os 3 .any (fun w args=>(Rows.collectPlaysSpec.pre enc Tryz.prog Tryz.f3 [] false w args/\laidMetH Tryz.prog Zy w)/\sizedMet enc Tryz.prog Tryz.f3 (OpenSpec.ofChange Rows.collectPlaysSpec) false w args)
   (Rows.collectPlaysSpec.post enc Tryz.prog Tryz.f3 false true false false):=by
 refine returnsInHanded_of_change_and (C:=Tryz.checked) (X:=fun w _=>laidMetH Tryz.prog Zy w) (fun _ _ _ hh h=>h.of_heap hh) Er4 started Zk Tryz.func3
  (ChangeSpec.witness_shaped (enc:=enc) (C:=Tryz.checked) (os:=os) (X:=fun w _=>laidMetH Tryz.prog Zy w) false (World.doorLaid Tryz.prog 400 os) #[.slice none 0 0,.slice none 0 0,.slice none 0 0,ii 0] 8 rfl (World.shaped_of_RefB Zk Zk) Zk Zk Zk (Aa0 os _)) ?_
 intro W base args ds gs before hval0 hW _ hwt hL _
 have hval: ∀(j:Nat) t v,Tryz.f3.params[j]? =some t->args[j]? =some v->Value.okWide Tryz.prog W .any base t v:=hval0
 have hW':=hW
 obtain⟨p,q,hA0,hV,rfl,hfz,hnd⟩:=hW
 have hA:DataW.TrodAll enc Tryz.prog W 0 (fun _=>true) true Tryz.f3.params.toList args.toList ds p:=hA0
 rw[Tryz.params3] at hA hval
 obtain⟨v0,v1,v2,v3,d0,d1,d2,d3,p0,p1,p2,p3,rfl,rfl,rfl,h0,h1,h2,h3⟩:=trodAll_four hA
 obtain⟨rfl,rfl⟩:=trodVars_none hV
 have hwl: ∀(j:Nat) (t:TypeId) (d:DataW H),[22,23,24,3][j]? =some t->[d0,d1,d2,d3][j]? =some d->Di t d:=fun j t d ht hd n hn=>by
  have h1:(DataW.weightsEach Tryz.prog [22,23,24,3] [d0,d1,d2,d3]).all (· <=reachBytes)=true:=hwt
  have:=List.all_eq_true.1 h1 n ((O6 _ _).2 ⟨j,_,_,ht,hd,hn⟩)
  exact of_decide_eq_true this
 obtain⟨xs,ra,rc,rfl,hpl⟩:=Aa1 (hval 0 _ v0 rfl rfl) h0
 obtain⟨l,ia,ic,rfl,lo,ln,la⟩:=Ap3 (hval 1 _ v1 rfl rfl) h1 (hwl 1 _ _ rfl rfl)
 obtain⟨l1,ra1,rc1,rfl,hp1,_,hn1⟩:=Ap4 (hval 2 _ v2 rfl rfl) h2 (hwl 2 _ _ rfl rfl)
 obtain⟨z,rfl,rfl,rfl,wz⟩:=open_int Tryz.underlying3 (hval 3 _ v3 rfl rfl) h3
 have hown:=Lb hL
 refine(Bj hown (By5 hown) hpl rc lo Zo la ic (By7 hp1 hn1) rc1 (J9 wz)).mono fun e W' ⟨he,hb⟩=> ?_
 subst he
 exact⟨_,rfl,Ap2 rfl hW' rfl rfl Zk hb⟩
theorem W8:Rows.CollectPlaysSaid:=
 OpenClaim.holds_of_wide 3 Tryz.f3 rfl rfl rfl rfl rfl rfl rfl ⟨rfl,rfl,rfl,rfl,rfl⟩ rfl rfl rfl rfl rfl Zk Tryz.func3 Zk
  (of_decide_eq_true Zk) (by unfold Func.isWrapper;first | (rw[if_pos (by decide+kernel)];kernel_rfl) | (rw[if_neg (by decide+kernel)];exact⟨rfl,rfl⟩))
  (fun os started H enc _=>V1 os started H enc)
theorem collectPlays_card:Rows.CollectPlaysCardSaid:=
 Claim7.holds_tied_plain_at .later [] [.data,.data,.data,.data] true (true,"8905e66f49094f71418e302701b477834554a86a30ecaec436f0193c6c20f494") true
  W8 (fun _ h=>by cases h) Zk (fun _ h=>by cases h) collectPlays_row_tie rfl ⟨rfl,rfl⟩ Zk rfl
  (fun f fn hf hfn=>by
   obtain rfl:f=3:=Option.some.inj ((show Tryz.prog.funcNamed "guise/guiselaw18.CollectPlays"=some 3 by kernel_rfl).symm.trans hf) |>.symm
   obtain rfl:fn=Tryz.f3:=(Option.some.inj (Tryz.func3.symm.trans hfn)).symm
   exact⟨Zk,fun j t ht=>by
    rw[Tryz.params3] at ht
    have hm:t∈[22,23,24,3]:=by simpa using Array.mem_of_getElem? ht
    have hall:([22,23,24,3].all fun u=> !Tryz.prog.wantsStandIn u)=true:=by kernel_rfl
    exact(show Tryz.prog.wantsStandIn t=false by simpa using List.all_eq_true.1 hall t hm)⟩)
  Zk
#print axioms collectPlays_card
end Go.Proofs.YtbjegfpfmnleeaaGreatDoor
