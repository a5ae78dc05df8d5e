/-
   Written by an AI agent.
-/
import Derived.Test.YtlhfickniegooaaDoorPk22
import Derived.Test.YtlhfickniegooaaDoorPk11
import Derived.Test.YtlhfickniegooaaDoorPk23
import Derived.Deep.CutBlock
import Derived.BigRegion
import Derived.StillTailTactics
import Derived.BigQuiet
import Derived.Test.YtlhfickniegooaaDoorPk10
namespace Go.Proofs.YtlhfickniegooaaDoor
open Go.RowKit Go.Sort
theorem Blk.new2(w:World)(o o':Obj)(t:TypeId)(cs:Array Value):Blk (((w.alloc o).alloc o').alloc (.cells cs t)) (w.heap.size+1+1) t cs:=by
 have:=Blk.new ((w.alloc o).alloc o') t cs
 simpa using this
theorem two_cells{w:World}{g:Nat}{t:TypeId}{u v:Value}(h:Blk w g t #[u,v])(x y:Value):(w.setCell ⟨g,0,none⟩ x).cell? ⟨g,0,none⟩=some x/\((w.setCell ⟨g,0,none⟩ x).setCell ⟨g,1,none⟩ y).cell? ⟨g,1,none⟩=some y:=by
 have h1:=(h.set_ 0 x).cell 0
 have h2:=((h.set_ 0 x).set_ 1 y).cell 1
 exact⟨by simpa using h1,by simpa using h2⟩
def ReqC(h:Hd)(k:Fo)(h':Hd)(k':Fo):Prop:= ∀(w:World) (S T:Nat->Prop) (pa:Option Addr) (pc:Nat) (ia:Option Addr) (ic:Nat) (pa':Option Addr) (pc':Nat) (ia':Option Addr) (ic':Nat),
 DatAt w S h k pa pc ia ic->DatAt w T h' k' pa' pc' ia' ic'->
 Calls Tryd.prog 67 #[.agg (h.cells pa pc ia k.len ic),.agg (h'.cells pa' pc' ia' k'.len ic')] w fun e w'=>e=.returned (.tuple #[.bool (reqD h k h' k').1,fault (reqD h k h' k').2])/\Below w.heap.size w w'
def Rest(h:Hd)(k:Fo)(h':Hd)(k':Fo)(pa:Option Addr)(pc:Nat)(ia:Option Addr)(ic:Nat)(pa':Option Addr)(pc':Nat)(ia':Option Addr)(ic':Nat)(w w0:World):Prop:=
 Blk w0 w.heap.size 31 (h.cells pa pc ia k.len ic)/\Blk w0 (w.heap.size+1) 31 (h'.cells pa' pc' ia' k'.len ic')/\Blk w0 (w.heap.size+1+1) 71 #[.string ⟨#[]⟩,.string ⟨#[]⟩]/\Below w.heap.size w w0
set_option maxRecDepth 100000 in
set_option maxHeartbeats 2000000 in
theorem req_one(h:Hd)(k:Fo)(h':Hd)(k':Fo)(ho:h.ok)(_hk:k.ok)(ho':h'.ok)(_hk':k'.ok)(ih: ∀i a b a' b',k.get i=some (a,b)->k'.get i=some (a',b')->ReqC a b a' b'):ReqC h k h' k':=by
 intro w S T pa pc ia ic pa' pc' ia' ic' hd hd'
 have hone:=rone_any h h' k.len k'.len pa pc ia ic pa' pc' ia' ic'
 unfold Hd.cells at hone ⊢
 have HONE:=Lib.hid hone
 clear hone
 go_enter Tryd.func67,Tryd.ntmps67
 go_upto_region 0 with fail
 go_cut [0,1,2,3,4,5] (fun _ _ t2 t3 _ t5 wx=>t2=.pointer (some ⟨w.heap.size,0,none⟩)/\t3=.pointer (some ⟨w.heap.size+1,0,none⟩)/\t5=.pointer (some ⟨w.heap.size+1+1,0,none⟩)/\Rest h k h' k' pa pc ia ic pa' pc' ia' ic' w wx)
 case first=>
  go_wp2_with fail
  go_meet
  case rel=>exact⟨rfl,rfl,rfl,((Blk.new _ _ _).alloc _).alloc _,(Blk.new1 _ _ _ _).alloc _,Blk.new2 _ _ _ _ _,bz⟩
 case rest=>
 obtain⟨rfl,rfl,rfl,hA,hB,hC,hbw⟩:=hcut
 obtain⟨w0,rfl⟩: ∃w0:World,w0=wc:=⟨_,rfl⟩
 obtain⟨c0,c1,c2,c3,c4,c5,c6,c7,c8,c9,c10⟩:=(CellsAt.of_blk hA).box
 obtain⟨d0,d1,d2,d3,d4,d5,d6,d7,d8,d9,d10⟩:=(CellsAt.of_blk hB).box
 go_upto_region 1 with fail
 go_cut [6] (fun t wx=>t=.bool (oneB h h')/\Below w0.heap.size w0 wx)
 case first=>
  go_wp2_with fail
  refine(HONE.out _).mono ?_
  rintro e w1 ⟨rfl,hb1⟩
  go_wp2_with fail
  go_meet
  case rel=>exact⟨rfl,hb1⟩
 case rest=>
 obtain⟨rfl,hb0⟩:=hcut
 obtain⟨w1,rfl⟩: ∃w1:World,w1=wc:=⟨_,rfl⟩
 have hA1:=hA.below hb0 hA.lt
 have hB1:=hB.below hb0 hB.lt
 have hC1:=hC.below hb0 hC.lt
 have hbw1:=bl_trans hbw hb0
 clear c0 c1 c2 c3 c4 c5 c6 c7 c8 c9 c10 d0 d1 d2 d3 d4 d5 d6 d7 d8 d9 d10 hA hB hC hb0 hbw HONE
 obtain⟨c0,c1,c2,c3,c4,c5,c6,c7,c8,c9,c10⟩:=(CellsAt.of_blk hA1).box
 obtain⟨d0,d1,d2,d3,d4,d5,d6,d7,d8,d9,d10⟩:=(CellsAt.of_blk hB1).box
 have e0:=hC1.cell 0
 have e1:=hC1.cell 1
 simp at e0 e1
 have hfr:=fun j=>hC1.frozen j
 by_cases ho1:oneB h h'=false
 ·as_aux_lemma=>
   have HR:Hid (Ending.returned (.tuple #[.bool false,.agg #[.string ⟨#[]⟩,.string ⟨#[]⟩]])=.returned (.tuple #[.bool (reqD h k h' k').1,fault (reqD h k h' k').2])):=by
    unfold Hid reqD;rw[if_pos ho1];rfl
   go_wp2_with fail
   exact bodyPost_ret (v:=.tuple #[.bool false,.agg #[.string ⟨#[]⟩,.string ⟨#[]⟩]]) (by simp[results,Tryd.results67,go_sem,(two_cells hC1 (.string ⟨#[]⟩) (.string ⟨#[]⟩)).1,(two_cells hC1 (.string ⟨#[]⟩) (.string ⟨#[]⟩)).2]) rfl ⟨HR.out,bz⟩
 have ho2:oneB h h'=true:=by revert ho1;cases oneB h h'<;>simp
 have hkk:h.kind=h'.kind:=by unfold oneB at ho2;exact(of_decide_eq_true ho2).1
 by_cases h12:h.kind=1\/h.kind=2
 ·as_aux_lemma=>
   have HR:Hid (Ending.returned (.tuple #[.bool (h.n==h'.n),.agg #[.string ⟨#[]⟩,.string ⟨#[]⟩]])=.returned (.tuple #[.bool (reqD h k h' k').1,fault (reqD h k h' k').2])):=by
    unfold Hid reqD;rw[if_neg ho1,if_neg (by omega)];unfold reqH
    rw[if_pos h12,show(h.n==h'.n)=decide (h.n=h'.n) by(rw[Bool.eq_iff_iff];simp)];rfl
   clear ho1 hkk
   rw[ho2]
   clear ho2
   rcases h12 with h1 | h1
   all_goals
    rw[h1] at c0
    clear h1
    go_wp2_with fail
    exact bodyPost_ret (v:=.tuple #[.bool (h.n==h'.n),.agg #[.string ⟨#[]⟩,.string ⟨#[]⟩]]) (by simp[results,Tryd.results67,go_sem,(two_cells hC1 (.string ⟨#[]⟩) (.string ⟨#[]⟩)).1,(two_cells hC1 (.string ⟨#[]⟩) (.string ⟨#[]⟩)).2]) rfl ⟨HR.out,bz⟩
 by_cases h4:h.kind=4
 ·as_aux_lemma=>
   have HR:Hid (Ending.returned (.tuple #[.bool (h.s.toList==h'.s.toList),.agg #[.string ⟨#[]⟩,.string ⟨#[]⟩]])=.returned (.tuple #[.bool (reqD h k h' k').1,fault (reqD h k h' k').2])):=by
    unfold Hid reqD;rw[if_neg ho1,if_neg (by omega)];unfold reqH
    rw[if_neg h12,if_pos h4,beq_str];rfl
   clear ho1 hkk h12
   rw[ho2]
   rw[h4] at c0
   clear ho2 h4
   go_wp2_with fail
   exact bodyPost_ret (v:=.tuple #[.bool (h.s.toList==h'.s.toList),.agg #[.string ⟨#[]⟩,.string ⟨#[]⟩]]) (by simp[results,Tryd.results67,go_sem,(two_cells hC1 (.string ⟨#[]⟩) (.string ⟨#[]⟩)).1,(two_cells hC1 (.string ⟨#[]⟩) (.string ⟨#[]⟩)).2]) rfl ⟨HR.out,bz⟩
 by_cases h3:h.kind=3
 ·as_aux_lemma=>
   have HR:Hid (Ending.returned (.tuple #[.bool (feqB h.f.toNat h'.f.toNat),.agg #[.string ⟨#[]⟩,.string ⟨#[]⟩]])=.returned (.tuple #[.bool (reqD h k h' k').1,fault (reqD h k h' k').2])):=by
    unfold Hid reqD;rw[if_neg ho1,if_neg (by omega)];unfold reqH
    rw[if_neg h12,if_neg h4,if_pos h3];rfl
   clear ho1 hkk h12 h4
   rw[ho2]
   rw[h3] at c0
   clear ho2 h3
   obtain⟨hf0,hf1⟩:=And.intro ho.f0 ho.f1
   obtain⟨hf2,hf3⟩:=And.intro ho'.f0 ho'.f1
   go_wp2_with fail
   refine(risNaN_any _ hf0 hf1 _).mono ?_
   rintro e w2 ⟨rfl,rfl⟩
   go_wp2_with fail
   refine(risNaN_any _ hf2 hf3 _).mono ?_
   rintro e w2 ⟨rfl,rfl⟩
   have hfe:feqB h.f.toNat h'.f.toNat=(!nanB h.f.toNat&& !nanB h'.f.toNat&&decide (placeF h.f.toNat=placeF h'.f.toNat)):=rfl
   have HFE:=Lib.hid hfe
   clear hfe
   cases hn1:nanB h.f.toNat
   ·cases hn2:nanB h'.f.toNat
    ·rw[hn1,hn2] at HFE
     have c3g:=(CellsAt.of_blk hA1).boxrg.2.2.2.1
     have d3g:=(CellsAt.of_blk hB1).boxrg.2.2.2.1
     have hr1:=rrank_below h.f hf0 hf1
     have hr2:=rrank_below h'.f hf2 hf3
     go_wp2_with fail
     refine wp_region_below_tail 17 (by kernel_rfl) (by kernel_rfl) ?_
     simp only[List.take_succ_cons,List.take_zero,List.drop_succ_cons,List.drop_zero]
     repeat (go_big_quiet_step (first | (go_at_call_of 79 (Value.int .u64 h.f);exact Calls.regrown_of (hr1 _)) | (go_at_call_of 79 (Value.int .u64 h'.f);exact Calls.regrown_of (hr2 _))))
     refine wpQuiet_nil ?_
     intro w2 hb2
     have hC2:=hC1.below hb2 hC1.lt
     have e0:=hC2.cell 0
     have e1:=hC2.cell 1
     simp at e0 e1
     have hfr:=fun j=>hC2.frozen j
     have hbw2:=bl_trans hbw1 hb2
     go_wp2_with fail
     have HR2:Hid (Ending.returned (.tuple #[.bool (placeF h.f.toNat==placeF h'.f.toNat),.agg #[.string ⟨#[]⟩,.string ⟨#[]⟩]])=.returned (.tuple #[.bool (reqD h k h' k').1,fault (reqD h k h' k').2])):=by
      unfold Hid;rw[<-HR.out,HFE.out,show(placeF h.f.toNat==placeF h'.f.toNat)=decide (placeF h.f.toNat=placeF h'.f.toNat) by(rw[Bool.eq_iff_iff];simp)];rfl
     have hCd:Blk w2.drew _ 71 #[.string ⟨#[]⟩,.string ⟨#[]⟩]:=hC2
     refine bodyPost_ret (v:=.tuple #[.bool (placeF h.f.toNat==placeF h'.f.toNat),.agg #[.string ⟨#[]⟩,.string ⟨#[]⟩]]) ?_ rfl ⟨HR2.out,bz⟩
     first | (simp[results,Tryd.results67,go_sem,(two_cells hC2 (.string ⟨#[]⟩) (.string ⟨#[]⟩)).1,(two_cells hC2 (.string ⟨#[]⟩) (.string ⟨#[]⟩)).2];done) | (simp[results,Tryd.results67,go_sem,(two_cells hCd (.string ⟨#[]⟩) (.string ⟨#[]⟩)).1,(two_cells hCd (.string ⟨#[]⟩) (.string ⟨#[]⟩)).2];done)
    ·rw[hn1,hn2] at HFE
     go_wp2_with fail
     refine wp_region_below_tail 17 (by kernel_rfl) (by kernel_rfl) ?_
     simp only[List.take_succ_cons,List.take_zero,List.drop_succ_cons,List.drop_zero]
     repeat (go_big_quiet_step (fail))
     refine wpQuiet_nil ?_
     intro w2 hb2
     have hC2:=hC1.below hb2 hC1.lt
     have e0:=hC2.cell 0
     have e1:=hC2.cell 1
     simp at e0 e1
     have hfr:=fun j=>hC2.frozen j
     have hbw2:=bl_trans hbw1 hb2
     go_wp2_with fail
     have HR2:Hid (Ending.returned (.tuple #[.bool false,.agg #[.string ⟨#[]⟩,.string ⟨#[]⟩]])=.returned (.tuple #[.bool (reqD h k h' k').1,fault (reqD h k h' k').2])):=by
      unfold Hid;rw[<-HR.out,HFE.out];rfl
     have hCd:Blk w2.drew _ 71 #[.string ⟨#[]⟩,.string ⟨#[]⟩]:=hC2
     refine bodyPost_ret (v:=.tuple #[.bool false,.agg #[.string ⟨#[]⟩,.string ⟨#[]⟩]]) ?_ rfl ⟨HR2.out,bz⟩
     first | (simp[results,Tryd.results67,go_sem,(two_cells hC2 (.string ⟨#[]⟩) (.string ⟨#[]⟩)).1,(two_cells hC2 (.string ⟨#[]⟩) (.string ⟨#[]⟩)).2];done) | (simp[results,Tryd.results67,go_sem,(two_cells hCd (.string ⟨#[]⟩) (.string ⟨#[]⟩)).1,(two_cells hCd (.string ⟨#[]⟩) (.string ⟨#[]⟩)).2];done)
   ·rw[hn1] at HFE
    go_wp2_with fail
    refine wp_region_below_tail 17 (by kernel_rfl) (by kernel_rfl) ?_
    simp only[List.take_succ_cons,List.take_zero,List.drop_succ_cons,List.drop_zero]
    repeat (go_big_quiet_step (fail))
    refine wpQuiet_nil ?_
    intro w2 hb2
    have hC2:=hC1.below hb2 hC1.lt
    have e0:=hC2.cell 0
    have e1:=hC2.cell 1
    simp at e0 e1
    have hfr:=fun j=>hC2.frozen j
    have hbw2:=bl_trans hbw1 hb2
    go_wp2_with fail
    have HR2:Hid (Ending.returned (.tuple #[.bool false,.agg #[.string ⟨#[]⟩,.string ⟨#[]⟩]])=.returned (.tuple #[.bool (reqD h k h' k').1,fault (reqD h k h' k').2])):=by
     unfold Hid;rw[<-HR.out,HFE.out];rfl
    have hCd:Blk w2.drew _ 71 #[.string ⟨#[]⟩,.string ⟨#[]⟩]:=hC2
    refine bodyPost_ret (v:=.tuple #[.bool false,.agg #[.string ⟨#[]⟩,.string ⟨#[]⟩]]) ?_ rfl ⟨HR2.out,bz⟩
    first | (simp[results,Tryd.results67,go_sem,(two_cells hC2 (.string ⟨#[]⟩) (.string ⟨#[]⟩)).1,(two_cells hC2 (.string ⟨#[]⟩) (.string ⟨#[]⟩)).2];done) | (simp[results,Tryd.results67,go_sem,(two_cells hCd (.string ⟨#[]⟩) (.string ⟨#[]⟩)).1,(two_cells hCd (.string ⟨#[]⟩) (.string ⟨#[]⟩)).2];done)
 by_cases h567:h.kind=5\/h.kind=6\/h.kind=7
 ·as_aux_lemma=>
   have HR:Hid (Ending.returned (.tuple #[.bool false,.agg #[.string ⟨#[99,111,109,112,97,114,101]⟩,.string h.type]])=.returned (.tuple #[.bool (reqD h k h' k').1,fault (reqD h k h' k').2])):=by
    unfold Hid reqD;rw[if_neg ho1,if_neg (by omega)];unfold reqH
    rw[if_neg h12,if_neg h4,if_neg h3,if_pos h567];rfl
   clear ho1 hkk h12 h4 h3
   rw[ho2]
   clear ho2
   rcases h567 with h1 | h1 | h1
   all_goals
    rw[h1] at c0
    clear h1
    go_wp2_with fail
    go_region
    go_wp2_with fail
    have hCd:Blk w1.drew _ 71 #[.string ⟨#[]⟩,.string ⟨#[]⟩]:=hC1
    refine bodyPost_ret (v:=.tuple #[.bool false,.agg #[.string ⟨#[99,111,109,112,97,114,101]⟩,.string h.type]]) ?_ rfl ⟨HR.out,bz⟩
    first | (simp[results,Tryd.results67,go_sem,(two_cells hC1 (.string ⟨#[99,111,109,112,97,114,101]⟩) (.string h.type)).1,(two_cells hC1 (.string ⟨#[99,111,109,112,97,114,101]⟩) (.string h.type)).2];done) | (simp[results,Tryd.results67,go_sem,(two_cells hCd (.string ⟨#[99,111,109,112,97,114,101]⟩) (.string h.type)).1,(two_cells hCd (.string ⟨#[99,111,109,112,97,114,101]⟩) (.string h.type)).2];done)
 by_cases h9:h.kind=9
 ·as_aux_lemma=>
   have HR:Hid (Ending.returned (.tuple #[.bool (decide (h.obj=h'.obj/\h.path=h'.path)),.agg #[.string ⟨#[]⟩,.string ⟨#[]⟩]])=.returned (.tuple #[.bool (reqD h k h' k').1,fault (reqD h k h' k').2])):=by
    unfold Hid reqD;rw[if_neg ho1,if_neg (by omega)];unfold reqH
    rw[if_neg h12,if_neg h4,if_neg h3,if_neg h567,if_pos h9];rfl
   clear ho1 hkk h12 h4 h3 h567
   rw[ho2]
   rw[h9] at c0
   clear ho2 h9
   obtain⟨b0,hb0⟩: ∃b,(decide (h.obj=h'.obj)&&decide (h.path.length=h'.path.length))=b:=⟨_,rfl⟩
   have HB0:=Lib.hid hb0
   clear hb0
   have hl1:=ho.path
   have hl2:=ho'.path
   have HP1:Hid (PathAt w1 S pa h.path):=(hd.below hbw1 (fun b _ h=>h)).path
   have HP2:Hid (PathAt w1 T pa' h'.path):=(hd'.below hbw1 (fun b _ h=>h)).path
   go_upto_region 19 with fail
   go_cut [9] (fun t wx=>t=.bool b0/\w1=wx)
   case first=>
    by_cases ho3:h.obj=h'.obj
    ·have ho4:(h.obj==h'.obj)=true:=by simpa using ho3
     have HQ:Hid (b0=(decide (h.path.length=h'.path.length))):=Lib.hid (by rw[<-HB0.out,decide_eq_true ho3];rfl)
     clear ho3
     go_wp2_with fail
     go_meet
     case rel=>exact⟨by rw[HQ.out];refine congrArg Value.bool (Bool.eq_iff_iff.2 ?_);simp;try omega,rfl⟩
    ·have ho4:(h.obj==h'.obj)=false:=by simpa using ho3
     have HQ:Hid (b0=false):=Lib.hid (by rw[<-HB0.out,decide_eq_false ho3];rfl)
     clear ho3
     go_wp2_with fail
     go_meet
     case rel=>exact⟨by rw[HQ.out],rfl⟩
   case rest=>
   obtain⟨rfl,rfl⟩:=hcut
   have HA:=Lib.hid hA1
   have HB:=Lib.hid hB1
   have HC:=Lib.hid hC1
   clear c0 c1 c2 c3 c4 c5 c6 c7 c8 c9 c10 d0 d1 d2 d3 d4 d5 d6 d7 d8 d9 d10 e0 e1 hfr hA1 hB1 hC1
   go_upto_block 1 with fail
   go_cut [9] (fun t wx=>t=.bool (decide (h.obj=h'.obj/\h.path=h'.path))/\Below w1.heap.size w1 wx)
   case first=>
    go_wp2_with fail
    go_loopg [9,10] h.path.length (fun g t i wr=> ∃(j:Nat) (b:Bool),j<=h.path.length/\t=.bool b/\i=.int .i64 j/\g=h.path.length-j/\Below w1.heap.size w1 wr/\Hid (b=true->h.path.length=h'.path.length)/\Hid (decide (h.obj=h'.obj/\h.path=h'.path)=(b&&decide (h.path.drop j=h'.path.drop j))))
    case atStart=>
     refine⟨0,b0,by omega,rfl,rfl,by omega,Below.refl _ _, ?_, ?_⟩
     ·intro hb
      have:=HB0.out
      rw[hb,Bool.and_eq_true] at this
      exact of_decide_eq_true this.2
     ·unfold Hid
      rw[<-HB0.out]
      by_cases h1:h.path=h'.path
      ·simp[h1]
      ·simp[h1]
    case round=>
    obtain⟨j,b,hj,rfl,rfl,rfl,hbr,HLN,HN⟩:=hrel
    have hA1:=HA.out.below hbr HA.out.lt
    have hB1:=HB.out.below hbr HB.out.lt
    obtain⟨c0,c1,c2,c3,c4,c5,c6,c7,c8,c9,c10⟩:=(CellsAt.of_blk hA1).box
    obtain⟨d0,d1,d2,d3,d4,d5,d6,d7,d8,d9,d10⟩:=(CellsAt.of_blk hB1).box
    clear hA1 hB1
    by_cases hlt:j<h.path.length
    ·cases b
     ·go_wp2_with fail
      go_meet
      case rel=>exact⟨by rw[HN.out];rfl,hbr⟩
     ·have hll:=HLN.out rfl
      obtain⟨x,hx⟩: ∃x,h.path[j]? =some x:=⟨_,List.getElem?_eq_getElem hlt⟩
      obtain⟨y,hy⟩: ∃y,h'.path[j]? =some y:=⟨_,List.getElem?_eq_getElem (by omega)⟩
      obtain⟨pb,po,rfl,_,hc1⟩:=(HP1.out.keep (fun b _ hlt=>hbr.block b hlt) (S':=S) (fun _ h _=>h)).get hx
      obtain⟨qb,qo,rfl,_,hc2⟩:=(HP2.out.keep (fun b _ hlt=>hbr.block b hlt) (S':=T) (fun _ h _=>h)).get hy
      have HS:Hid (decide (h.path.drop j=h'.path.drop j)=((x==y)&&decide (h.path.drop (j+1)=h'.path.drop (j+1)))):=Lib.hid (drop_dec hx hy)
      have hj0:(j:Int)<(h.path.length:Int):=by omega
      have hj2:(j:Int)<(h'.path.length:Int):=by omega
      have HLL:=Lib.hid hll
      clear hx hy hll
      go_wp2_with fail
      go_quiet (fail)
      go_wp2_with fail
      go_roundg (h.path.length-(j+1))
      case measure=>omega
      case rel=>exact⟨j+1,_,by omega,rfl,by go_num,rfl,bz,fun _=>HLL.out,by unfold Hid;rw[HN.out,HS.out];rfl⟩
    ·have hjl:(h.path.length:Int)<=(j:Int):=by omega
     go_wp2_with fail
     go_meet
     case rel=>
      refine⟨?_,hbr⟩
      rw[HN.out]
      cases b
      ·rfl
      ·have hll:=HLN.out rfl
       rw[List.drop_of_length_le (by omega),List.drop_of_length_le (by omega)];simp
   case rest=>
   obtain⟨rfl,hbr⟩:=hcut
   obtain⟨w2,rfl⟩: ∃w2:World,w2=wc:=⟨_,rfl⟩
   have hC2:=HC.out.below hbr HC.out.lt
   have hbw2:=bl_trans hbw1 hbr
   have e0:=hC2.cell 0
   have e1:=hC2.cell 1
   simp at e0 e1
   have hfr:=fun j=>hC2.frozen j
   obtain⟨b1,hb1⟩: ∃b,decide (h.obj=h'.obj/\h.path=h'.path)=b:=⟨_,rfl⟩
   rw[hb1] at HR ⊢
   clear hb1 hbr
   go_wp2_with fail
   exact bodyPost_ret (v:=.tuple #[.bool b1,.agg #[.string ⟨#[]⟩,.string ⟨#[]⟩]]) (by simp[results,Tryd.results67,go_sem,(two_cells hC2 (.string ⟨#[]⟩) (.string ⟨#[]⟩)).1,(two_cells hC2 (.string ⟨#[]⟩) (.string ⟨#[]⟩)).2]) rfl ⟨HR.out,bz⟩
 by_cases h8:h.kind=8
 ·as_aux_lemma=>
   by_cases hl:k.len=k'.len
   ·have HR0:Hid (reqD h k h' k'=reqF k k'):=by unfold Hid reqD;rw[if_neg ho1,if_pos h8,if_neg (by simp[hl])]
    have hne:((k.len:Int) != (k'.len:Int))=false:=by simp[hl]
    have HL:=Lib.hid hl
    rw[ho2]
    rw[h8] at c0
    clear ho1 hkk h12 h4 h3 h567 h9 ho2 h8 hl
    go_upto_region 26 with fail
    go_cut [124] (fun t wx=>t=.bool false/\w1=wx)
    case first=>
     go_wp2_with fail
     go_meet
     case rel=>exact⟨rfl,rfl⟩
    case rest=>
    obtain⟨rfl,rfl⟩:=hcut
    have HA:=Lib.hid hA1
    have HB:=Lib.hid hB1
    have HC:=Lib.hid hC1
    have hkm:k.len<=9223372036854775807:=Nat.le_trans hd.icLe hd.icMax.1
    have HD1:=Lib.hid hd
    have HD2:=Lib.hid hd'
    have HIH:=Lib.hid ih
    clear c0 c1 c2 c3 c4 c5 c6 c7 c8 c9 c10 d0 d1 d2 d3 d4 d5 d6 d7 d8 d9 d10 e0 e1 hfr hA1 hB1 hC1 hd hd' ih hne
    go_wp2_with fail
    go_loopg [11] k.len (fun g i wr=> ∃j:Nat,j<=k.len/\i=.int .i64 j/\g=k.len-j/\Below w.heap.size w wr/\Blk wr w.heap.size 31 (h.cells pa pc ia k.len ic)/\Blk wr (w.heap.size+1) 31 (h'.cells pa' pc' ia' k'.len ic')/\Blk wr (w.heap.size+1+1) 71 #[.string ⟨#[]⟩,.string ⟨#[]⟩]/\Hid (reqF k k'=reqF (k.drop j) (k'.drop j)))
    case atStart=>exact⟨0,by omega,rfl,by omega,hbw1,HA.out,HB.out,HC.out,by unfold Hid;simp⟩
    case round=>
    obtain⟨j,hj,rfl,rfl,hbr,hA,hB,hC,HN⟩:=hrel
    by_cases hlt:j<k.len
    ·obtain⟨c0,c1,c2,c3,c4,c5,c6,c7,c8,c9,c10⟩:=(CellsAt.of_blk hA).box
     obtain⟨d0,d1,d2,d3,d4,d5,d6,d7,d8,d9,d10⟩:=(CellsAt.of_blk hB).box
     have hltA:=hA.lt
     have hltB:=hB.lt
     obtain⟨h1,k1,hg1⟩:=Fo.get_lt k j hlt
     obtain⟨h2,k2,hg2⟩:=Fo.get_lt k' j (by have:=HL.out;omega)
     have hk1:SlAt _ S ia k:=(HD1.out.below hbr (fun b _ h=>h)).kids
     have hk2:SlAt _ T ia' k':=(HD2.out.below hbr (fun b _ h=>h)).kids
     obtain⟨b1,o1,rfl,_,pa1,pc1,ia1,ic1,hcs1,hda1⟩:=hk1.get hg1
     obtain⟨b2,o2,rfl,_,pa2,pc2,ia2,ic2,hcs2,hda2⟩:=hk2.get hg2
     obtain⟨m0,m1,m2,m3,m4,m5,m6,m7,m8,m9,m10⟩:=hcs1.eleven
     obtain⟨n0,n1,n2,n3,n4,n5,n6,n7,n8,n9,n10⟩:=hcs2.eleven
     have HM1:=Lib.hid hcs1
     have HM2:=Lib.hid hcs2
     have hlt1:=cell_lt m0
     have hlt2:=cell_lt n0
     have hI:=fun W (hW:Below wr.heap.size wr W)=>HIH.out j h1 k1 h2 k2 hg1 hg2 W S T pa1 pc1 ia1 ic1 pa2 pc2 ia2 ic2 (hda1.below hW (fun b _ h=>h)) (hda2.below hW (fun b _ h=>h))
     have HDr:Hid (reqF (k.drop j) (k'.drop j)=if(reqD h1 k1 h2 k2).1=true then reqF (k.drop (j+1)) (k'.drop (j+1)) else(false,(reqD h1 k1 h2 k2).2)):=Lib.hid (by rw[Fo.drop_get k j h1 k1 hg1,Fo.drop_get k' j h2 k2 hg2,reqF_cons])
     obtain⟨q1,hq1⟩: ∃q,(reqD h1 k1 h2 k2).1=q:=⟨_,rfl⟩
     obtain⟨q2,hq2⟩: ∃q,(reqD h1 k1 h2 k2).2=q:=⟨_,rfl⟩
     obtain⟨x,y,hxy⟩: ∃x y,fault q2=.agg #[.string x,.string y]:=by cases q2<;>exact⟨_,_,rfl⟩
     rw[hq1,hq2,hxy] at hI
     rw[hq1,hq2] at HDr
     unfold Hd.cells at hI
     have HI:=Lib.hid hI
     have HXY:=Lib.hid hxy
     have hj0:(j:Int)<(k.len:Int):=by omega
     have hj2:(j:Int)<(k'.len:Int):=by have:=HL.out;omega
     have HLT:=Lib.hid hlt
     have HDt:Hid (q1=true->reqF (k.drop j) (k'.drop j)=reqF (k.drop (j+1)) (k'.drop (j+1))):=Lib.hid (fun h=>by rw[HDr.out,h];rfl)
     clear hI hg1 hg2 hk1 hk2 hcs1 hcs2 hda1 hda2 hq1 hq2 hxy
     go_wp2_with fail
     go_upto_region 31 with fail
     go_cut [12,13] (fun t12 t13 wx=>t12=.bool q1/\∃g,t13=.pointer (some ⟨g,0,none⟩)/\Blk wx g 71 #[.string x,.string y]/\wr.heap.size<=g/\Below wr.heap.size wr wx)
     case first=>
      clear c0 c1 c2 c3 c4 c5 c6 c7 c8 c9 c10 d0 d1 d2 d3 d4 d5 d6 d7 d8 d9 d10 m0 m1 m2 m3 m4 m5 m6 m7 m8 m9 m10 n0 n1 n2 n3 n4 n5 n6 n7 n8 n9 n10
      obtain⟨c0,c1,c2,c3,c4,c5,c6,c7,c8,c9,c10⟩:=(CellsAt.of_blk hA).boxrg
      obtain⟨d0,d1,d2,d3,d4,d5,d6,d7,d8,d9,d10⟩:=(CellsAt.of_blk hB).boxrg
      obtain⟨m0,m1,m2,m3,m4,m5,m6,m7,m8,m9,m10⟩:=HM1.out.rg
      obtain⟨n0,n1,n2,n3,n4,n5,n6,n7,n8,n9,n10⟩:=HM2.out.rg
      refine wp_region_alloc_tail 14 1 (t:=71) (cs:=#[.string ⟨#[]⟩,.string ⟨#[]⟩]) (by kernel_rfl) rfl (fun _=>rfl) (fun _ _=>by first | rfl | simp[go_sem]) (by kernel_rfl) ?_
      simp only[List.take_succ_cons,List.take_zero,List.drop_succ_cons,List.drop_zero,List.cons_append,List.nil_append]
      repeat
       apply wpRel_step _ rfl (by simp)
       ·intro os0
        go_big_quiet_step ((go_at_call 67;exact Calls.regrown2_of (HI.out _ (below_regrown _ _ _))))
        exact wpQuiet_nil rfl
      refine wpRel_nil ?_
      intro g hgw w2 hb2 hG
      have g0:=hG.cell 0
      have g1:=hG.cell 1
      simp at g0 g1
      have hfg:=fun j=>hG.frozen j
      go_wp2_with fail
      go_meet
      case rel=>exact⟨rfl,g,rfl,by simpa using(hG.set_ 0 (.string x)).set_ 1 (.string y),hgw,bz⟩
     case rest=>
     obtain⟨rfl,g,rfl,hG,hgw,hb2⟩:=hcut
     obtain⟨w2,rfl⟩: ∃w2:World,w2=wc:=⟨_,rfl⟩
     have hA2:=hA.below hb2 hA.lt
     have hB2:=hB.below hb2 hB.lt
     have hC2:=hC.below hb2 hC.lt
     have hbw2:=bl_trans hbr hb2
     have hlC:=hC.lt
     clear c0 c1 c2 c3 c4 c5 c6 c7 c8 c9 c10 d0 d1 d2 d3 d4 d5 d6 d7 d8 d9 d10 m0 m1 m2 m3 m4 m5 m6 m7 m8 m9 m10 n0 n1 n2 n3 n4 n5 n6 n7 n8 n9 n10 HI hA hB hC hb2
     cases q1
     ·have g0:=hG.cell 0
      have g1:=hG.cell 1
      have e0:=hC2.cell 0
      have e1:=hC2.cell 1
      simp at g0 g1 e0 e1
      have hfr:=fun j=>hC2.frozen j
      have hgne:g≠w.heap.size+1+1:=by omega
      have HR:Hid (Ending.returned (.tuple #[.bool false,.agg #[.string x,.string y]])=.returned (.tuple #[.bool (reqD h k h' k').1,fault (reqD h k h' k').2])):=by
       unfold Hid
       rw[HR0.out,HN.out,HDr.out,if_neg (by simp),HXY.out]
      go_wp2_with fail
      go_region
      go_wp2_with fail
      have hCd:Blk w2.drew _ 71 #[.string ⟨#[]⟩,.string ⟨#[]⟩]:=hC2
      refine bodyPost_ret (v:=.tuple #[.bool false,.agg #[.string x,.string y]]) ?_ rfl ⟨HR.out,bz⟩
      first | (simp[results,Tryd.results67,go_sem,(two_cells hC2 (.string x) (.string y)).1,(two_cells hC2 (.string x) (.string y)).2];done) | (simp[results,Tryd.results67,go_sem,(two_cells hCd (.string x) (.string y)).1,(two_cells hCd (.string x) (.string y)).2];done)
     ·go_wp2_with fail
      go_roundg (k.len-(j+1))
      case measure=>omega
      case rel=>exact⟨j+1,by have:=HLT.out;omega,by go_num,rfl,hbw2,hA2,hB2,hC2,by unfold Hid;rw[HN.out,HDt.out (by trivial)]⟩
    ·have hjl:j=k.len:=by omega
     have HR:Hid (Ending.returned (.tuple #[.bool true,.agg #[.string ⟨#[]⟩,.string ⟨#[]⟩]])=.returned (.tuple #[.bool (reqD h k h' k').1,fault (reqD h k h' k').2])):=by
      unfold Hid
      rw[HR0.out,HN.out,Fo.drop_len k _ (by omega)]
      rfl
     subst hjl
     obtain⟨c0,c1,c2,c3,c4,c5,c6,c7,c8,c9,c10⟩:=(CellsAt.of_blk hA).box
     have e0:=hC.cell 0
     have e1:=hC.cell 1
     simp at e0 e1
     have hfr:=fun j=>hC.frozen j
     go_wp2_with fail
     have hCd:Blk wr.drew _ 71 #[.string ⟨#[]⟩,.string ⟨#[]⟩]:=hC
     refine bodyPost_ret (v:=.tuple #[.bool true,.agg #[.string ⟨#[]⟩,.string ⟨#[]⟩]]) ?_ rfl ⟨HR.out,bz⟩
     first | (simp[results,Tryd.results67,go_sem,(two_cells hC (.string ⟨#[]⟩) (.string ⟨#[]⟩)).1,(two_cells hC (.string ⟨#[]⟩) (.string ⟨#[]⟩)).2];done) | (simp[results,Tryd.results67,go_sem,(two_cells hCd (.string ⟨#[]⟩) (.string ⟨#[]⟩)).1,(two_cells hCd (.string ⟨#[]⟩) (.string ⟨#[]⟩)).2];done)
   ·have HR:Hid (Ending.returned (.tuple #[.bool false,.agg #[.string ⟨#[]⟩,.string ⟨#[]⟩]])=.returned (.tuple #[.bool (reqD h k h' k').1,fault (reqD h k h' k').2])):=by
     unfold Hid reqD;rw[if_neg ho1,if_pos h8,if_pos hl];rfl
    have hne:((k.len:Int) != (k'.len:Int))=true:=by simp;omega
    rw[ho2]
    rw[h8] at c0
    clear ho1 hkk h12 h4 h3 h567 h9 ho2 h8 hl
    go_wp2_with fail
    have hCd:Blk w1.drew _ 71 #[.string ⟨#[]⟩,.string ⟨#[]⟩]:=hC1
    refine bodyPost_ret (v:=.tuple #[.bool false,.agg #[.string ⟨#[]⟩,.string ⟨#[]⟩]]) ?_ rfl ⟨HR.out,bz⟩
    first | (simp[results,Tryd.results67,go_sem,(two_cells hC1 (.string ⟨#[]⟩) (.string ⟨#[]⟩)).1,(two_cells hC1 (.string ⟨#[]⟩) (.string ⟨#[]⟩)).2];done) | (simp[results,Tryd.results67,go_sem,(two_cells hCd (.string ⟨#[]⟩) (.string ⟨#[]⟩)).1,(two_cells hCd (.string ⟨#[]⟩) (.string ⟨#[]⟩)).2];done)
 ·as_aux_lemma=>
   have HR:Hid (Ending.returned (.tuple #[.bool true,.agg #[.string ⟨#[]⟩,.string ⟨#[]⟩]])=.returned (.tuple #[.bool (reqD h k h' k').1,fault (reqD h k h' k').2])):=by
    unfold Hid reqD;rw[if_neg ho1,if_neg (by omega)];unfold reqH
    rw[if_neg h12,if_neg h4,if_neg h3,if_neg h567,if_neg h9];rfl
   clear ho1 hkk
   rw[ho2]
   clear ho2
   have hh:h.kind<0\/h.kind=0\/9<h.kind:=by omega
   clear h12 h4 h3 h567 h9 h8
   rcases hh with h1 | h1 | h1
   ·go_wp2_with fail
    exact bodyPost_ret (v:=.tuple #[.bool true,.agg #[.string ⟨#[]⟩,.string ⟨#[]⟩]]) (by simp[results,Tryd.results67,go_sem,(two_cells hC1 (.string ⟨#[]⟩) (.string ⟨#[]⟩)).1,(two_cells hC1 (.string ⟨#[]⟩) (.string ⟨#[]⟩)).2]) rfl ⟨HR.out,bz⟩
   ·rw[h1] at c0
    clear h1
    go_wp2_with fail
    exact bodyPost_ret (v:=.tuple #[.bool true,.agg #[.string ⟨#[]⟩,.string ⟨#[]⟩]]) (by simp[results,Tryd.results67,go_sem,(two_cells hC1 (.string ⟨#[]⟩) (.string ⟨#[]⟩)).1,(two_cells hC1 (.string ⟨#[]⟩) (.string ⟨#[]⟩)).2]) rfl ⟨HR.out,bz⟩
   ·go_wp2_with fail
    exact bodyPost_ret (v:=.tuple #[.bool true,.agg #[.string ⟨#[]⟩,.string ⟨#[]⟩]]) (by simp[results,Tryd.results67,go_sem,(two_cells hC1 (.string ⟨#[]⟩) (.string ⟨#[]⟩)).1,(two_cells hC1 (.string ⟨#[]⟩) (.string ⟨#[]⟩)).2]) rfl ⟨HR.out,bz⟩
theorem req_all: ∀(f:Fo),f.ok->∀(g:Fo) (i:Nat) (a:Hd) (b:Fo) (a':Hd) (b':Fo),g.ok->f.get i=some (a,b)->g.get i=some (a',b')->ReqC a b a' b'
 | .nil,_,g,i,a,b,a',b',_,e,_=>by simp[Fo.get] at e
 | .cons h k r,o,g,0,a,b,a',b',og,e,e'=>by
  simp only[Fo.get,Option.some.injEq,Prod.mk.injEq] at e
  obtain⟨rfl,rfl⟩:=e
  obtain⟨o1,o2,_⟩:=Fo.ok_get g 0 a' b' og e'
  exact req_one _ _ _ _ o.1 o.2.1 o1 o2 (fun i c d c' d' e e'=>req_all k o.2.1 b' i c d c' d' o2 e e')
 | .cons h k r,o,.nil,i+1,a,b,a',b',og,e,e'=>by simp[Fo.get] at e'
 | .cons h k r,o,.cons h2 k2 r2,i+1,a,b,a',b',og,e,e'=>req_all r o.2.2.1 r2 i a b a' b' og.2.2.1 e e'
theorem req_any(h:Hd)(k:Fo)(h':Hd)(k':Fo)(ho:h.ok)(hk:k.ok)(ho':h'.ok)(hk':k'.ok):ReqC h k h' k':=
 req_one h k h' k' ho hk ho' hk' (fun i a b a' b' e e'=>req_all k hk k' i a b a' b' hk' e e')
end Go.Proofs.YtlhfickniegooaaDoor

namespace Go.Proofs.YtlhfickniegooaaDoor
open Go.RowKit Go.Sort
def keyFault(o:Option ByteArray):Value:=match o with | none=>.agg #[.string ⟨#[]⟩,.string ⟨#[]⟩] | some m=>.agg #[.string ⟨#[107,101,121]⟩,.string m]
theorem fault_none:fault none=.agg #[.string ⟨#[]⟩,.string ⟨#[]⟩]:=rfl
theorem fault_some(m:ByteArray):fault (some m)=.agg #[.string ⟨#[99,111,109,112,97,114,101]⟩,.string m]:=rfl
set_option maxRecDepth 100000 in
set_option maxHeartbeats 2000000 in
theorem rKey_any(h:Hd)(k:Fo)(ho:h.ok)(hk:k.ok)(w:World)(S:Nat->Prop)(pa:Option Addr)(pc:Nat)(ia:Option Addr)(ic:Nat)(hd:DatAt w S h k pa pc ia ic):
  Calls Tryd.prog 70 #[.agg (h.cells pa pc ia k.len ic)] w fun e w'=>e=.returned (keyFault (reqD h k h k).2)/\Below w.heap.size w w':=by
 have hE: ∀w',Below w.heap.size w w'->Calls Tryd.prog 67 #[.agg (h.cells pa pc ia k.len ic),.agg (h.cells pa pc ia k.len ic)] w' fun e w''=>e=.returned (.tuple #[.bool (reqD h k h k).1,fault (reqD h k h k).2])/\Below w'.heap.size w' w'':=fun w' hb=>req_any h k h k ho hk ho hk w' S S pa pc ia ic pa pc ia ic (hd.below hb (fun b _ h=>h)) (hd.below hb (fun b _ h=>h))
 obtain⟨b,hb⟩: ∃b,(reqD h k h k).1=b:=⟨_,rfl⟩
 obtain⟨o,ho2⟩: ∃o,(reqD h k h k).2=o:=⟨_,rfl⟩
 rw[hb,ho2] at hE
 rw[ho2]
 clear hb ho2
 unfold Hd.cells at hE ⊢
 have HK:Hid (∀m,o=some m->keyFault o=.agg #[.string ⟨#[107,101,121]⟩,.string m]):=fun m e=>by rw[e];rfl
 cases o with
 | none=>
  rw[fault_none] at hE
  have HE:=Lib.hid hE
  clear hE
  go_enter Tryd.func70,Tryd.ntmps70
  go_upto_region 0 with fail
  go_cut [0,1,2] (fun _ t1 t2 wx=>t1=.pointer (some ⟨w.heap.size,0,none⟩)/\t2=.pointer (some ⟨w.heap.size+1,0,none⟩)/\Blk wx w.heap.size 31 (h.cells pa pc ia k.len ic)/\Blk wx (w.heap.size+1) 71 #[.string ⟨#[]⟩,.string ⟨#[]⟩]/\Below w.heap.size w wx)
  case first=>
   go_wp2_with fail
   go_meet
   case rel=>exact⟨rfl,rfl,(Blk.new _ _ _).alloc _,Blk.new1 _ _ _ _,bz⟩
  case rest=>
  obtain⟨rfl,rfl,hA,hC,hbw⟩:=hcut
  obtain⟨w0,rfl⟩: ∃w0:World,w0=wc:=⟨_,rfl⟩
  obtain⟨c0,c1,c2,c3,c4,c5,c6,c7,c8,c9,c10⟩:=(CellsAt.of_blk hA).box
  go_upto_region 1 with fail
  go_cut [4] (fun t wx=> ∃g,t=.pointer (some ⟨g,0,none⟩)/\Blk wx g 71 #[.string ⟨#[]⟩,.string ⟨#[]⟩]/\w0.heap.size<=g/\Below w0.heap.size w0 wx)
  case first=>
   go_wp2_with fail
   refine(HE.out _ hbw).mono ?_
   rintro e w1 ⟨rfl,hb1⟩
   have hs1:=hb1.size
   go_wp2_with fail
   go_meet
   case rel=>exact⟨_,rfl,Blk.new _ _ _,hs1,bz⟩
  case rest=>
  obtain⟨g,rfl,hG,hgw,hb1⟩:=hcut
  obtain⟨w1,rfl⟩: ∃w1:World,w1=wc:=⟨_,rfl⟩
  have hlC:=hC.lt
  have hC1:=hC.below hb1 hlC
  have hgne:g≠w.heap.size+1:=by omega
  have hbw1:=bl_trans hbw hb1
  clear c0 c1 c2 c3 c4 c5 c6 c7 c8 c9 c10 hA hC hbw hb1
  have g0:=hG.cell 0
  have g1:=hG.cell 1
  have e0:=hC1.cell 0
  have e1:=hC1.cell 1
  simp at g0 g1 e0 e1
  have hfr:=fun j=>hC1.frozen j
  have hfg:=fun j=>hG.frozen j
  have HR:Hid (Ending.returned (.agg #[.string ⟨#[]⟩,.string ⟨#[]⟩])=.returned (keyFault none)):=rfl
  go_wp2_with fail
  exact bodyPost_ret (v:=.agg #[.string ⟨#[]⟩,.string ⟨#[]⟩]) (by simp[results,Tryd.results70,go_sem,(two_cells hC1 (.string ⟨#[]⟩) (.string ⟨#[]⟩)).1,(two_cells hC1 (.string ⟨#[]⟩) (.string ⟨#[]⟩)).2]) rfl ⟨HR.out,bz⟩
 | some m=>
  rw[fault_some] at hE
  have HE:=Lib.hid hE
  clear hE
  go_enter Tryd.func70,Tryd.ntmps70
  go_upto_region 0 with fail
  go_cut [0,1,2] (fun _ t1 t2 wx=>t1=.pointer (some ⟨w.heap.size,0,none⟩)/\t2=.pointer (some ⟨w.heap.size+1,0,none⟩)/\Blk wx w.heap.size 31 (h.cells pa pc ia k.len ic)/\Blk wx (w.heap.size+1) 71 #[.string ⟨#[]⟩,.string ⟨#[]⟩]/\Below w.heap.size w wx)
  case first=>
   go_wp2_with fail
   go_meet
   case rel=>exact⟨rfl,rfl,(Blk.new _ _ _).alloc _,Blk.new1 _ _ _ _,bz⟩
  case rest=>
  obtain⟨rfl,rfl,hA,hC,hbw⟩:=hcut
  obtain⟨w0,rfl⟩: ∃w0:World,w0=wc:=⟨_,rfl⟩
  obtain⟨c0,c1,c2,c3,c4,c5,c6,c7,c8,c9,c10⟩:=(CellsAt.of_blk hA).box
  go_upto_region 1 with fail
  go_cut [4] (fun t wx=> ∃g,t=.pointer (some ⟨g,0,none⟩)/\Blk wx g 71 #[.string ⟨#[99,111,109,112,97,114,101]⟩,.string m]/\w0.heap.size<=g/\Below w0.heap.size w0 wx)
  case first=>
   go_wp2_with fail
   refine(HE.out _ hbw).mono ?_
   rintro e w1 ⟨rfl,hb1⟩
   have hs1:=hb1.size
   go_wp2_with fail
   go_meet
   case rel=>exact⟨_,rfl,Blk.new _ _ _,hs1,bz⟩
  case rest=>
  obtain⟨g,rfl,hG,hgw,hb1⟩:=hcut
  obtain⟨w1,rfl⟩: ∃w1:World,w1=wc:=⟨_,rfl⟩
  have hlC:=hC.lt
  have hC1:=hC.below hb1 hlC
  have hgne:g≠w.heap.size+1:=by omega
  have hgw2:w.heap.size<=g:=by omega
  have hbw1:=bl_trans hbw hb1
  clear c0 c1 c2 c3 c4 c5 c6 c7 c8 c9 c10 hA hC hbw hb1
  have g0:=hG.cell 0
  have g1:=hG.cell 1
  simp at g0 g1
  have hfg:=fun j=>hG.frozen j
  go_upto_region 3 with fail
  go_cut [4] (fun t wx=>t=.pointer (some ⟨g,0,none⟩)/\Blk wx g 71 #[.string ⟨#[107,101,121]⟩,.string m]/\Blk wx (w.heap.size+1) 71 #[.string ⟨#[]⟩,.string ⟨#[]⟩]/\Below w.heap.size w wx)
  case first=>
   have hG2:=hG.set_ 0 (.string ⟨#[107,101,121]⟩)
   have hC2:=hC1.far (p:=⟨g,0,none⟩) (by simpa using Ne.symm hgne) (.string ⟨#[107,101,121]⟩)
   have hb2:Below w.heap.size w (w1.setCell ⟨g,0,none⟩ (.string ⟨#[107,101,121]⟩)):=hbw1.setCell hgw2 _
   go_wp2_with fail
   go_meet
   case rel=>exact⟨rfl,by simpa using hG2,hC2,hb2⟩
  case rest=>
  obtain⟨rfl,hG2,hC2,hbw2⟩:=hcut
  obtain⟨w2,rfl⟩: ∃w2:World,w2=wc:=⟨_,rfl⟩
  clear g0 g1 hfg hG hC1 hbw1
  have g0:=hG2.cell 0
  have g1:=hG2.cell 1
  have e0:=hC2.cell 0
  have e1:=hC2.cell 1
  simp at g0 g1 e0 e1
  have hfr:=fun j=>hC2.frozen j
  have hfg:=fun j=>hG2.frozen j
  have HR:Hid (Ending.returned (.agg #[.string ⟨#[107,101,121]⟩,.string m])=.returned (keyFault (some m))):=rfl
  go_wp2_with fail
  exact bodyPost_ret (v:=.agg #[.string ⟨#[107,101,121]⟩,.string m]) (by simp[results,Tryd.results70,go_sem,(two_cells hC2 (.string ⟨#[107,101,121]⟩) (.string m)).1,(two_cells hC2 (.string ⟨#[107,101,121]⟩) (.string m)).2]) rfl ⟨HR.out,bz⟩
end Go.Proofs.YtlhfickniegooaaDoor

namespace Go.Proofs.YtlhfickniegooaaDoor
open Go.RowKit Go.Sort
def SizeC(h:Hd)(k:Fo):Prop:= ∀(w:World) (S:Nat->Prop) (pa:Option Addr) (pc:Nat) (ia:Option Addr) (ic:Nat),DatAt w S h k pa pc ia ic->
 Calls Tryd.prog 68 #[.agg (h.cells pa pc ia k.len ic)] w fun e w'=>e=.returned (.int .i64 (sizeD h k))/\Below w.heap.size w w'
theorem sizeF_drop(k:Fo)(j:Nat)(h':Hd)(k':Fo)(n:Int)(e:k.get j=some (h',k'))(hn:n<=100):sizeF (k.drop j) n=sizeF (k.drop (j+1)) (n+sizeD h' k'):=by
 rw[Fo.drop_get k j h' k' e,sizeF_cons,if_neg (by omega)]
set_option maxRecDepth 100000 in
set_option maxHeartbeats 2000000 in
theorem size_one(h:Hd)(k:Fo)(_ho:h.ok)(_hk:k.ok)(ih: ∀i h' k',k.get i=some (h',k')->SizeC h' k'):SizeC h k:=by
 intro w S pa pc ia ic hd
 obtain⟨hA,hbw⟩:Blk (w.alloc (.cells (h.cells pa pc ia k.len ic) 31)) w.heap.size 31 (h.cells pa pc ia k.len ic)/\Below w.heap.size w (w.alloc (.cells (h.cells pa pc ia k.len ic) 31)):=⟨Blk.new _ _ _,bl_alloc (Below.refl _ _) _⟩
 by_cases h8:h.kind=8
 ·rcases Nat.lt_or_ge 100 k.len with h1 | h1
  ·have HS:Hid (sizeD h k=101):=Lib.hid (by unfold sizeD;rw[if_neg (by omega),if_pos h1])
   have h2:(100:Int)<(k.len:Int):=by omega
   have HB:=Lib.hid hbw
   clear hbw hA
   unfold Hd.cells at*
   rw[h8] at*
   go_enter Tryd.func68,Tryd.ntmps68
   go_wp2_with fail
   go_ret
   exact⟨ret_int HS.out.symm,HB.out⟩
  have h2:(k.len:Int)<=100:=by omega
  have HS:Hid (sizeD h k=if 100<sizeF k 1 then 101 else sizeF k 1):=Lib.hid (by unfold sizeD;rw[if_neg (by omega),if_neg (by omega)])
  clear hbw hA
  have H8:=Lib.hid h8
  clear h8
  unfold Hd.cells
  go_enter Tryd.func68,Tryd.ntmps68
  go_upto_region 0 with fail
  go_cut [0,1,2] (fun _ t1 _ wx=>t1=.pointer (some ⟨w.heap.size,0,none⟩)/\Blk wx w.heap.size 31 (h.cells pa pc ia k.len ic)/\Below w.heap.size w wx)
  case first=>
   go_wp2_with fail
   go_meet
   case rel=>exact⟨rfl,Blk.new _ _ _,bz⟩
  case rest=>
  obtain⟨rfl,hA,hbw⟩:=hcut
  obtain⟨w0,rfl⟩: ∃w0:World,w0=wc:=⟨_,rfl⟩
  obtain⟨c0,c1,c2,c3,c4,c5,c6,c7,c8,c9,c10⟩:=(CellsAt.of_blk hA).box
  rw[H8.out] at c0
  go_upto_block 0 with fail
  go_cut [3] (fun t wx=>t=.int .i64 (sizeF k 1)/\Below w.heap.size w wx)
  case first=>
   have HD:=Lib.hid hd
   have HIH:=Lib.hid ih
   have HA:=Lib.hid hA
   clear hd ih hA c0 c1 c2 c3 c4 c5 c6 c7 c8 c9 c10
   go_wp2_with fail
   go_loopg [3,4] k.len (fun g n i wr=> ∃(j:Nat) (x:Int),j<=k.len/\n=.int .i64 x/\i=.int .i64 j/\g=k.len-j/\Below w.heap.size w wr/\Blk wr w.heap.size 31 (h.cells pa pc ia k.len ic)/\1<=x/\x<=201/\Hid (sizeF k 1=sizeF (k.drop j) x))
   case atStart=>exact⟨0,1,by omega,rfl,rfl,by omega,hbw,HA.out,by omega,by omega,by unfold Hid;simp⟩
   case round=>
   obtain⟨j,x,hj,rfl,rfl,rfl,hbr,hAr,hx1,hx2,HN⟩:=hrel
   obtain⟨c0,c1,c2,c3,c4,c5,c6,c7,c8,c9,c10⟩:=(CellsAt.of_blk hAr).box
   by_cases hlt:j<k.len
   ·by_cases hx:x<=100
    ·obtain⟨h',k',hget⟩:=Fo.get_lt k j hlt
     have hks:SlAt _ S ia k:=(HD.out.below hbr (fun b _ h=>h)).kids
     obtain⟨b,o,rfl,hSb,pa',pc',ia',ic',hcs,hda⟩:=hks.get hget
     obtain⟨d0,d1,d2,d3,d4,d5,d6,d7,d8,d9,d10⟩:=hcs.eleven
     have hih:=HIH.out j h' k' hget wr S pa' pc' ia' ic' hda
     unfold Hd.cells at hih
     have HI:=Lib.hid hih
     have HDr:=Lib.hid (sizeF_drop k j h' k' x hget hx)
     have hsz:=sizeD_range h' k' (sizeF_pos k')
     clear hih hget hcs hda hks
     go_wp2_with fail
     refine HI.out.mono ?_
     rintro e w4 ⟨rfl,hb4⟩
     have hbr4:Below w.heap.size w w4:=bl_trans hbr hb4
     have hA4:=hAr.below hb4 hAr.lt
     clear HI d0 d1 d2 d3 d4 d5 d6 d7 d8 d9 d10 hb4 c0 c1 c2 c3 c4 c5 c6 c7 c8 c9 c10 hbr hAr
     go_wp2_with fail
     go_roundg (k.len-(j+1))
     case measure=>omega
     case rel=>exact⟨j+1,_,by omega,rfl,by go_num,rfl,hbr4,hA4,by omega,by omega,by unfold Hid;rw[HN.out,HDr.out]⟩
    ·have hxx:100<x:=by omega
     go_wp2_with fail
     go_meet
     case rel=>exact⟨by rw[HN.out,sizeF_big _ _ hxx],hbr⟩
   ·have hjk:j=k.len:=by omega
    subst hjk
    go_wp2_with fail
    go_meet
    case rel=>exact⟨by rw[HN.out,Fo.drop_len k _ (Nat.le_refl _)];rfl,hbr⟩
  case rest=>
  obtain⟨rfl,hbw2⟩:=hcut
  obtain⟨w2,rfl⟩: ∃w2:World,w2=wc:=⟨_,rfl⟩
  clear c0 c1 c2 c3 c4 c5 c6 c7 c8 c9 c10
  by_cases hx:100<sizeF k 1
  ·go_wp2_with fail
   go_ret
   exact⟨ret_int (by rw[HS.out,if_pos (by omega)]),hbw2⟩
  ·go_wp2_with fail
   go_ret
   exact⟨ret_int (by rw[HS.out,if_neg (by omega)]),hbw2⟩
 ·have HS:Hid (sizeD h k=1):=Lib.hid (by unfold sizeD;rw[if_pos h8])
  have HB:=Lib.hid hbw
  clear hbw hA
  unfold Hd.cells at*
  go_enter Tryd.func68,Tryd.ntmps68
  go_wp2_with fail
  go_ret
  exact⟨ret_int HS.out.symm,HB.out⟩
theorem size_all: ∀(f:Fo),f.ok->∀i h k,f.get i=some (h,k)->SizeC h k
 | .nil,_,i,h,k,e=>by simp[Fo.get] at e
 | .cons h' k' r,o,0,h,k,e=>by
  simp only[Fo.get,Option.some.injEq,Prod.mk.injEq] at e
  obtain⟨rfl,rfl⟩:=e
  exact size_one _ _ o.1 o.2.1 (size_all k' o.2.1)
 | .cons h' k' r,o,i+1,h,k,e=>size_all r o.2.2.1 i h k e
theorem size_any(h:Hd)(k:Fo)(ho:h.ok)(hk:k.ok):SizeC h k:=size_one h k ho hk (size_all k hk)
end Go.Proofs.YtlhfickniegooaaDoor
