/-
   Written by an AI agent.
-/
import Derived.Test.YtlhfickniegooaaDoorPk18
import Derived.Test.YtlhfickniegooaaDoorProg
import Derived.Test.YtlhfickniegooaaDoorPk04
import Derived.Test.YtlhfickniegooaaDoorPk05
import Derived.Test.YtlhfickniegooaaDoorPk21
import Derived.Test.YtlhfickniegooaaDoorPk28
namespace Go.Proofs.YtlhfickniegooaaDoor
open Go.RowKit
variable {df:List Deferred}
set_option maxRecDepth 100000
section
variable {P:Program} {md:Region.Mode} {ops:Array Oper} {C:World->Prop}
def backZ(md:Region.Mode)(ops:Array Oper)(n:Nat):Bool:=(List.range ops.size).all fun t=>decide (t<=n)||(List.range t).any fun u=>decide (n<=u)&&Region.waitsFor md ops t u
theorem waits_n{n:Nat}{done:Array Bool}(hs:Region.sinkB md ops n=true)(inv:HeadInv md ops n done)(hn:n<ops.size)(hr:n∈Region.ready md ops done): ∀d i,n-i<=d->i<n->done.getD i true=true:=by
 obtain⟨_,on,hon,hall⟩:=mem_ready.1 hr
 intro d
 induction d with
 | zero=>intro i h1 h2;omega
 | succ d ih=>
  intro i h1 h2
  cases hi:done.getD i true with
  | true=>rfl
  | false=>
   obtain⟨j,hj,hj2⟩:=List.any_eq_true.1 (List.all_eq_true.1 hs i (List.mem_range.2 h2))
   simp only[Bool.and_eq_true,decide_eq_true_eq] at hj2
   obtain⟨oj,hoj,e,he,hb,heq⟩:=Region.waitsFor_spec hj2.2
   have hlt:=List.mem_range.1 hj
   have hfalse:done.getD i false=true:=by
    by_cases hjn:j=n
    ·subst hjn
     rw[hon] at hoj
     injection hoj with hoj
     subst hoj
     rw[<-heq]
     exact hall e he hb
    ·have hjt:=ih j (by omega) (by omega)
     have hjs:j<done.size:=by rw[inv.size];omega
     have:done.getD j false=true:=by simp[hjs] at hjt ⊢;exact hjt
     rw[<-heq]
     exact inv.closed j oj hoj this e he hb
   rw[getD_both hi] at hfalse
   cases hfalse
theorem waits_back{n i:Nat}{done:Array Bool}(hs:Region.sinkB md ops n=true)(hk:backZ md ops n=true)(hn:n<ops.size)(inv:HeadInv md ops n done)(hi:i<n)(hun:done.getD i true=false)(t:Nat)(ht:n<=t):t∉Region.ready md ops done:=fun hr=>by
 by_cases e:t=n
 ·subst e
  rw[waits_n hs inv hn hr (t-i) i (Nat.le_refl _) hi] at hun
  cases hun
 ·obtain⟨_,ot,hot,hall⟩:=mem_ready.1 hr
  have htl:t<ops.size:=(Array.getElem?_eq_some_iff.1 hot).1
  have h1:=List.all_eq_true.1 hk t (List.mem_range.2 htl)
  simp only[Bool.or_eq_true,decide_eq_true_eq] at h1
  rcases h1 with h1 | h1
  ·omega
  ·obtain⟨u,hu,hu2⟩:=List.any_eq_true.1 h1
   simp only[Bool.and_eq_true,decide_eq_true_eq] at hu2
   obtain⟨o',ho',e',he,hb,hon⟩:=Region.waitsFor_spec hu2.2
   rw[hot] at ho'
   injection ho' with ho'
   subst ho'
   have h2:=hall e' he hb
   have hul:=List.mem_range.1 hu
   rw[hon,getD_both (inv.tail u hu2.1 (by omega))] at h2
   cases h2
theorem headC_first2{Q:Exit->Act->World->Prop}{n i:Nat}{o:Oper}{v:Value}{L:Array Bool->Act->World->Prop}(hQ: ∀c a w,Q (.panic c) (a.put o.dst v) w->Q (.panic c) a w)(ho:ops[i]? =some o)(hsel: ∀(j:Nat) (o:Oper) cs b,ops[j]? =some o->o.op≠.select cs b)
    (hs:Region.sinkB md ops n=true) (hk:backZ md ops n=true) (hn:n<ops.size) (hin:i<n) (hL: ∀done a w,L done a w->∀j∈Region.ready md ops done,n<=j) (f:Nat):
    ∀ (done : Array Bool) (a : Act) (w : World), HeadInv md ops n done →
      (∀j oj,ops[j]? =some oj->j≠i->done.getD j true=false->(∀e∈oj.after,Region.binds md e=true->e.on≠i)->o.apart ops oj=true)->
      i∈Region.ready md ops done->Stays P ops C o v a->headC P md ops C Q n L f (done.setIfInBounds i true) (a.put o.dst v) w->headC P md ops C Q n L (f+1) done a w:=by
  induction f with
  | zero=>
    intro done a w inv _ hr hy H
    refine⟨H.cls,fun e=>(by rw[e] at hr;cases hr),fun j hj=> ?_⟩
    have hjn:j<n:=Nat.lt_of_not_le fun hle=>waits_back hs hk hn inv hin (mem_ready.1 hr).1 j hle hj
    by_cases e:j=i
    · subst e;exact⟨hjn,hy.wpOp ho H.cls H⟩
    · have:=hL _ _ _ H.2 j (ready_mono hj e);omega
  | succ f ih=>
    intro done a w inv hap hr hy H
    have hun:=(mem_ready.1 hr).1
    refine⟨H.cls,fun e=>(by rw[e] at hr;cases hr),fun j hj=> ?_⟩
    have hjn:j<n:=Nat.lt_of_not_le fun hle=>waits_back hs hk hn inv hin hun j hle hj
    refine⟨hjn, ?_⟩
    by_cases e:j=i
    · subst e;exact hy.wpOp ho H.cls H
    obtain⟨hj1,oj,hoj,hj2⟩:=mem_ready.1 hj
    have hfree: ∀x∈oj.after,Region.binds md x=true->x.on≠i:=fun x hx hb hxi=>by
      have:=hj2 x hx hb
      rw[hxi,getD_both hun] at this
      cases this
    refine wpOp_mono (fun a' w' h3=> ?_) (wpOp_put2 hoj (hap j oj hoj e hj1 hfree) (fun cs b=>hsel i o cs b ho) (fun cs b=>hsel j oj cs b hoj) hQ hy (H.2.2 j (ready_mono hj e)).2)
    refine ih (done.setIfInBounds j true) a' w' (inv.set hj hjn) (fun k ok hk hki hku hkf=>hap k ok hk hki ?_ hkf) (ready_mono hr (Ne.symm e)) h3.1 (by rw[Array.setIfInBounds_comm _ _ e];exact h3.2)
    by_cases hjk:j=k
    · subst hjk;exact hj1
    · rwa [getD_set_ne true hjk] at hku
def endZ(md:Region.Mode)(ops:Array Oper):Pl->Nat->Array Bool->Bool
 | .fin,0,done=>(Region.ready md ops done).isEmpty
 | .e1 j p,f+1,done=>decide (Region.ready md ops done=[j])&&endZ md ops p f (done.setIfInBounds j true)
 | .e2 j p k _ q,f+1,done=>decide (Region.ready md ops done=[j,k])&&endZ md ops p f (done.setIfInBounds j true)&&endZ md ops q f (done.setIfInBounds k true)
 | _,_,_=>false
theorem wpAny_end{Q:Exit->Act->World->Prop}: ∀(p:Pl) (f:Nat) (done:Array Bool) (a:Act) (w:World),endZ md ops p f done=true->effT P ops (fun _=>True) (Q .normal) p a w->wpAny P md ops Q f done a w
 | .fin,0,done,a,w,hB,h=>⟨by simpa[endZ] using hB,h.2⟩
 | .fin,f+1,done,a,w,hB,h=>by simp[endZ] at hB
 | .rd i p,f,done,a,w,hB,h=>by cases f<;>simp[endZ] at hB
 | .e1 j p,0,done,a,w,hB,h=>by simp[endZ] at hB
 | .e1 j p,f+1,done,a,w,hB,h=>by
  simp only[endZ,Bool.and_eq_true,decide_eq_true_eq] at hB
  refine⟨fun e=>(by rw[hB.1] at e;cases e),fun i hi=> ?_⟩
  rw[hB.1] at hi
  have hij:i=j:=by simpa using hi
  subst hij
  exact opWp_wpOp (fun b u hb=>wpAny_end p f _ b u hB.2 hb) h.2
 | .e2 j p k g q,0,done,a,w,hB,h=>by simp[endZ] at hB
 | .e2 j p k g q,f+1,done,a,w,hB,h=>by
  simp only[endZ,Bool.and_eq_true,decide_eq_true_eq] at hB
  refine⟨fun e=>(by rw[hB.1.1] at e;cases e),fun i hi=> ?_⟩
  rw[hB.1.1] at hi
  have hij:i=j\/i=k:=by simpa using hi
  rcases hij with rfl | rfl
  ·exact opWp_wpOp (fun b u hb=>wpAny_end p f _ b u hB.1.2 hb) h.2.1
  ·exact opWp_wpOp (fun b u hb=>wpAny_end q f _ b u hB.2 hb) h.2.2
def headZ(md:Region.Mode)(ops:Array Oper)(n g:Nat)(z:Pl):Pl->Nat->Array Bool->Bool
 | .fin,0,done=>endZ md ops z g done&&(Region.ready md ops done).all (fun j=>decide (n<=j))
 | .rd i p,f+1,done=>(Region.ready md ops done).contains i&&decide (i<n)&&Region.free md ops done i&&headZ md ops n g z p f (done.setIfInBounds i true)
 | .e1 j p,f+1,done=>decide (Region.ready md ops done=[j])&&decide (j<n)&&headZ md ops n g z p f (done.setIfInBounds j true)
 | _,_,_=>false
theorem headC_head{Q:Exit->Act->World->Prop}{n g:Nat}{z:Pl}{T:Act->World->Prop}(hQ: ∀c a b w,Q (.panic c) a w->Q (.panic c) b w)(hsel:Region.noSelect ops=true)(hs:Region.sinkB md ops n=true)(hk:backZ md ops n=true)(hn:n<ops.size): ∀(p:Pl) (f:Nat) (done:Array Bool) (a:Act) (w:World),HeadInv md ops n done->headZ md ops n g z p f done=true->effT P ops C T p a w->
   headC P md ops C Q n (fun d a' w'=>(endZ md ops z g d=true/\(Region.ready md ops d).all (fun j=>decide (n<=j))=true)/\T a' w') f done a w:=by
 intro p
 induction p with
 | fin=>
  intro f done a w inv hB h
  cases f with
  | zero=>
   simp only[headZ,Bool.and_eq_true] at hB
   exact⟨h.1,hB,h.2⟩
  | succ f=>simp[headZ] at hB
 | rd i p ih=>
  intro f done a w inv hB h
  cases f with
  | zero=>simp[headZ] at hB
  | succ f=>
   simp only[headZ,Bool.and_eq_true,decide_eq_true_eq] at hB
   obtain⟨⟨⟨hr,hin⟩,hf⟩,hB2⟩:=hB
   have hr2:i∈Region.ready md ops done:=by simpa using hr
   obtain⟨_,o,v,hio,hy,hK⟩:=h
   exact headC_first2 (fun c a w=>hQ c _ _ w) hio (Region.noSelect_spec hsel) hs hk hn hin (fun d a' w' hd j hj=>by simpa using List.all_eq_true.1 hd.1.2 j hj) f done a w inv (Region.free_spec hio hf) hr2 hy
    (ih f _ _ w (inv.set hr2 hin) hB2 hK)
 | e1 j p ih=>
  intro f done a w inv hB h
  cases f with
  | zero=>simp[headZ] at hB
  | succ f=>
   simp only[headZ,Bool.and_eq_true,decide_eq_true_eq] at hB
   obtain⟨⟨hr,hjn⟩,hB2⟩:=hB
   refine⟨h.1,by rw[hr];simp,fun k hk2=> ?_⟩
   rw[hr] at hk2
   have hij:k=j:=by simpa using hk2
   subst hij
   exact⟨hjn,opWp_wpOp (fun b u hb=>ih f _ b u (inv.set (by rw[hr];simp) hjn) hB2 hb) h.2⟩
 | e2 j p k g' q ih ih2=>
  intro f done a w inv hB h
  cases f<;>simp[headZ] at hB
end
def endZk(ops:List Oper)(p z:Pl)(n:Nat):Bool:=
 (Region.noSelect ops.toArray&&decide (n<ops.length)&&Region.sinkB .any ops.toArray n&&backZ .any ops.toArray n&&headZ .any ops.toArray n (ops.length-n) z p n (Array.replicate ops.length false))
theorem rg_end{P:Program}{id:Nat}{Q:Exit->Act->World->Prop}{a:Act}{w:World}{l:List Oper}(C:World->Prop)(p z:Pl)(n:Nat)(hm:P.follows .mixedOrders=true)(hB:endZk l p z n=true)
  (h:effT P l.toArray C (effT P l.toArray (fun _=>True) (Q .normal) z) p a {w with drawn:=w.drawn+1}):rg P Q a w (.region id l.toArray true):=by
 unfold endZk at hB
 simp only[Bool.and_eq_true,decide_eq_true_eq] at hB
 obtain⟨⟨⟨⟨hsel,hn⟩,hs⟩,hk⟩,hplan⟩:=hB
 have hn2:n<l.toArray.size:=by simpa using hn
 have inv:HeadInv .any l.toArray n (Array.replicate l.length false):=
  ⟨by simp,fun j oj _ hl=>(by rw[getD_replicate_false] at hl;cases hl),fun t _ ht=>getD_in (by simpa using ht) (getD_replicate_false _ _)⟩
 have H:=headC_head (P:=P) (md:=.any) (C:=C) (Q:=NoPanic Q) (z:=z) (T:=effT P l.toArray (fun _=>True) (Q .normal) z) (g:=l.length-n) (fun c a b w h=>h) hsel hs hk hn2 p n _ a _ inv hplan h
 refine⟨hm,NoPanic Q,NoPanic.imp, ?_⟩
 have:=headC_any (Q:=NoPanic Q) (g:=l.length-n) (fun done a' w' hL=>wpAny_end (P:=P) (md:=.any) (Q:=NoPanic Q) z (l.length-n) done a' w' hL.1.1 hL.2) _ _ a _ H
 rw[show n+(l.length-n)=l.toArray.size by simp;omega] at this
 exact this
def evCZ(P:Program)(n k:Nat)(p z:Pl)(ds:List Nat)(C:World->Prop)(g:List Giv)(l0:List (Nat×Value))(w:World)(K:List (Nat×Value)->World->Prop):Code->Prop
 | .region _ ⟨ops⟩ true=>match dstIn ds ops,P.follows .mixedOrders,endZk ops p z k with
  | true,true,true=>evT P n ⟨ops⟩ C (fun l2 w2 g3=>evT P n ⟨ops⟩ (fun _=>True) (fun l3 w3 _=>K l3 w3) z g3 l2 w2) p g l0 (w.drewN 1)
  | _,_,_=>False
 | _=>False
theorem regZ{P:Program}{n:Nat}{a:Act}{w:World}{l l0:List (Nat×Value)}{c:Code}{N:Act->World->Prop}{Q:Exit->Act->World->Prop}{T:Prop}(k:Nat)(p z:Pl)(C:World->Prop)(keep ds:List Nat)(g:List Giv)(hs:Sl n a l df)(h0:AllL l l0)(hT:T)
  (he:T=evCZ P n k p z ds C g l0 w (fun l1 w'=> ∀a',Sl n a' (outL keep l1 (dropL ds l)) df->N a' w') c):rg P (Exit.then N Q) a w c:=by
 rw[he] at hT
 unfold evCZ at hT
 split at hT
 ·rename_i id ops
  split at hT
  ·rename_i hd hm hB
   have hno: ∀p∈dropL ds l,∀o∈ops,o.dst≠some p.1:=fun p hp o ho e=>by
    obtain⟨_,hp2⟩:=List.mem_filter.1 hp
    exact dstIn_spec hd p.1 (by simpa using hp2) (List.mem_map.2 ⟨o,ho,e⟩)
   refine rg_end C p z k hm hB ?_
   have hFr: ∀(o:Oper) (b:Act) (v:Value),o∈(⟨ops⟩:Array Oper)->(∀p∈dropL ds l,slot b p.1=p.2)->(∀p∈dropL ds l,slot (b.put o.dst v) p.1=p.2):=fun o b v ho hb p hp=>(put_slot b _ v p.1 (hno p hp o (by simpa using ho))).trans (hb p hp)
   refine evT_wp (df:=df) (Fr:=fun b=> ∀p∈dropL ds l,slot b p.1=p.2) hFr ?_ p g l0 _ a hs.size hs.defers (hs.to h0).agr (fun p hp=>hs.known p (List.mem_filter.1 hp).1) hT
   intro a2 l2 w2 g3 r1 r2 r3 r4 r5
   refine evT_wp (df:=df) (Fr:=fun b=> ∀p∈dropL ds l,slot b p.1=p.2) hFr ?_ z g3 l2 w2 a2 r1 r2 r3 r4 r5
   intro a' l' w' g' q1 q2 q3 q4 q5
   exact q5 a' (outL_sl q3 keep ⟨q1,q2,fun p hp=>q4 p hp⟩)
  ·exact hT.elim
 ·exact hT.elim
end Go.Proofs.YtlhfickniegooaaDoor

namespace Go.Proofs.YtlhfickniegooaaDoor
open Go.RowKit Go.Sort
set_option maxRecDepth 100000
variable {a:Act} {w:World} {df:List Deferred} {N:Act->World->Prop} {Q:Exit->Act->World->Prop} {l:List (Nat×Value)}
noncomputable def r_ow (n:Nat):Code:=((Tryd.f41.body.bind (findR n)).getD .skip)
noncomputable def owL0:Code:=(.seq (.seq (r_ow 16) (.cond (.tmp 67) .skip (.exit 6))) (.seq (.block 7 (.seq (r_ow 18) (r_ow 19))) (r_ow 17)))
noncomputable def owL1:Code:=(.seq (.seq (r_ow 10) (.cond (.tmp 46) .skip (.exit 4))) (.seq (.block 5 (r_ow 12)) (r_ow 11)))
noncomputable def owL2:Code:=(.seq (.seq (r_ow 6) (.cond (.tmp 28) .skip (.exit 2))) (.seq (.block 3 (r_ow 8)) (r_ow 7)))
noncomputable def owL3:Code:=(.seq (.seq (r_ow 2) (.cond (.tmp 14) .skip (.exit 0))) (.seq (.block 1 (r_ow 4)) (r_ow 3)))
noncomputable def owBody:Code:=(.seq (r_ow 0) (.seq (.seq (r_ow 1) (.block 0 (.loop owL3))) (.seq (.seq (r_ow 5) (.block 2 (.loop owL2))) (.seq (.seq (r_ow 9) (.block 4 (.loop owL1))) (.seq (r_ow 13) (.seq (r_ow 14) (.seq (.seq (r_ow 15) (.block 6 (.loop owL0))) (r_ow 20))))))))
theorem ow_body:Tryd.f41.body=some owBody:=by kernel_rfl
theorem ow_r0{d:Dt}{m:Dm}(hs:Sl 97 a l df)(e1:Lk l 1 (.agg (d.cs m)))
  (hN: ∀a',Sl 97 a' ((3,pT w.heap.size)::dropL [3] l) df->N a' (w.alloc (.cells (d.cs m) 31))):Rg N Q a w (r_ow 0):=
 reg (l0:=[(1,.agg (d.cs m))]) [3] [3] [.raw] hs ⟨e1,trivial⟩ hN (by kernel_rfl)
theorem ow_r1(hs:Sl 97 a l df)
  (hN: ∀a',Sl 97 a' ((4,ii 0)::dropL [4] l) df->N a' w):Rg N Q a w (r_ow 1):=
 reg (l0:=[]) [4] [4] [] hs trivial hN (by kernel_rfl)
theorem ow_r2{i g3 il ic:Nat}{ia:Option Addr}{b14:Bool}(hs:Sl 97 a l df)(e4:Lk l 4 (ii (i:Int)))(e3:Lk l 3 (pT g3))(l0:Lp 29 (pF g3 10) (.slice ia il ic) w)(h1:decide ((i:Int)<(il:Int))=b14)
  (hN: ∀a',Sl 97 a' ((14,.bool b14)::dropL [10,11,12,13,14] l) df->N a' w):Rg N Q a w (r_ow 2):=
 reg (l0:=[(4,ii (i:Int)),(3,pT g3)]) [14] [10,11,12,13,14] [.val (.slice ia il ic),.bit b14] hs ⟨e4,e3,trivial⟩ (aI l0.run (aI h1 hN)) (by kernel_rfl)
theorem ow_r3{i:Nat}(hs:Sl 97 a l df)(e4:Lk l 4 (ii (i:Int)))(h0: -9223372036854775808<=(i:Int)+1/\(i:Int)+1<=9223372036854775807)
  (hN: ∀a',Sl 97 a' ((4,ii ((i:Int)+1))::dropL [4,15,16] l) df->N a' w):Rg N Q a w (r_ow 3):=
 reg (l0:=[(4,ii (i:Int))]) [4] [4,15,16] [.ari] hs ⟨e4,trivial⟩ (aI h0 hN) (by kernel_rfl)
theorem ow_r4{gw g3 il ic i g21 o21:Nat}{ia:Option Addr}{dx:Dt}{mx:Dm}{C0:World->Prop}(hs:Sl 97 a l df)(e0:Lk l 0 (pT gw))(e3:Lk l 3 (pT g3))(e4:Lk l 4 (ii (i:Int)))(l0:Lp 29 (pF g3 10) (.slice ia il ic) w)(i1:Ix 29 (.slice ia il ic) (ii (i:Int)) (pF g21 o21))(l2:Lp 31 (pF g21 o21) (.agg (dx.cs mx)) w)(k3:Cl 41 #[pT gw,.agg (dx.cs mx)] w (.tuple #[]) C0)
  (hN: ∀a' (w1:World),C0 w1->Sl 97 a' (dropL (List.range' 17 7) l) df->N a' w1):Rg N Q a w (r_ow 4):=
 reg (l0:=[(0,pT gw),(3,pT g3),(4,ii (i:Int))]) [] (List.range' 17 7) [.val (.slice ia il ic),.val (pF g21 o21),.val (.agg (dx.cs mx)),.ret (.tuple #[]) C0] hs ⟨e0,e3,e4,trivial⟩ (aI l0.run (aI (i1 w) (aI l2.run (aI k3 (fun(w1:World) (hc0:C0 w1)=>(fun a'=>hN a' w1 hc0)))))) (by kernel_rfl)
theorem ow_r5(hs:Sl 97 a l df)
  (hN: ∀a',Sl 97 a' ((5,ii 0)::dropL [5] l) df->N a' w):Rg N Q a w (r_ow 5):=
 reg (l0:=[]) [5] [5] [] hs trivial hN (by kernel_rfl)
theorem ow_r6{i g3 il ic:Nat}{ia:Option Addr}{b28:Bool}(hs:Sl 97 a l df)(e5:Lk l 5 (ii (i:Int)))(e3:Lk l 3 (pT g3))(l0:Lp 29 (pF g3 10) (.slice ia il ic) w)(h1:decide ((i:Int)<(il:Int))=b28)
  (hN: ∀a',Sl 97 a' ((28,.bool b28)::dropL [24,25,26,27,28] l) df->N a' w):Rg N Q a w (r_ow 6):=
 reg (l0:=[(5,ii (i:Int)),(3,pT g3)]) [28] [24,25,26,27,28] [.val (.slice ia il ic),.bit b28] hs ⟨e5,e3,trivial⟩ (aI l0.run (aI h1 hN)) (by kernel_rfl)
theorem ow_r7{i:Nat}(hs:Sl 97 a l df)(e5:Lk l 5 (ii (i:Int)))(h0: -9223372036854775808<=(i:Int)+1/\(i:Int)+1<=9223372036854775807)
  (hN: ∀a',Sl 97 a' ((5,ii ((i:Int)+1))::dropL [5,29,30] l) df->N a' w):Rg N Q a w (r_ow 7):=
 reg (l0:=[(5,ii (i:Int))]) [5] [5,29,30] [.ari] hs ⟨e5,trivial⟩ (aI h0 hN) (by kernel_rfl)
theorem ow_r8{g3 il ic i gw on oc g40 o40:Nat}{ia od:Option Addr}(hs:Sl 97 a l df)(e3:Lk l 3 (pT g3))(e5:Lk l 5 (ii (i:Int)))(e0:Lk l 0 (pT gw))(l0:Lp 29 (pF g3 10) (.slice ia il ic) w)(l1:Lp 29 (pF gw 8) (.slice od on oc) w)(i2:Ix 29 (.slice ia il ic) (ii (i:Int)) (pF g40 o40))(s3:So 31 g40 o40 (.agg #[ii (-7),.string (⟨#[]⟩),ii (on:Int),.int .u64 0,.string (⟨#[]⟩),ii 0,ii 0,ii 0,ii 0,.slice none 0 0,.slice none 0 0]) (w.drewN 1) [ii (-7),.string (⟨#[]⟩),ii (on:Int),.int .u64 0,.string (⟨#[]⟩),ii 0,ii 0,ii 0,ii 0,.slice none 0 0,.slice none 0 0])
  (hN: ∀a',Sl 97 a' (dropL (List.range' 31 10) l) df->N a' ((w.drewN 1).setCells g40 o40 [ii (-7),.string (⟨#[]⟩),ii (on:Int),.int .u64 0,.string (⟨#[]⟩),ii 0,ii 0,ii 0,ii 0,.slice none 0 0,.slice none 0 0])):Rg N Q a w (r_ow 8):=
 regT (l0:=[(3,pT g3),(5,ii (i:Int)),(0,pT gw)]) 10 [] (List.range' 31 10) [.val (.slice ia il ic),.val (.slice od on oc),.val (.agg #[ii (-7),.string (⟨#[]⟩),ii (on:Int),.int .u64 0,.string (⟨#[]⟩),ii 0,ii 0,ii 0,ii 0,.slice none 0 0,.slice none 0 0]),.val (pF g40 o40)] [.sto] hs ⟨e3,e5,e0,trivial⟩ (aI l0 (aI l1 (aI (fun(w':World)=>(by kernel_rfl:(Instr.build 31 #[(0,ii (-7)),(2,ii (on:Int))]).run Tryd.prog w'=.ok (.agg #[ii (-7),.string (⟨#[]⟩),ii (on:Int),.int .u64 0,.string (⟨#[]⟩),ii 0,ii 0,ii 0,ii 0,.slice none 0 0,.slice none 0 0]) w')) (aI i2 (aI s3 hN))))) (by kernel_rfl)
theorem ow_r9(hs:Sl 97 a l df)
  (hN: ∀a',Sl 97 a' ((6,ii 0)::dropL [6] l) df->N a' w):Rg N Q a w (r_ow 9):=
 reg (l0:=[]) [6] [6] [] hs trivial hN (by kernel_rfl)
theorem ow_r10{i g3 pl pc:Nat}{pa:Option Addr}{b46:Bool}(hs:Sl 97 a l df)(e6:Lk l 6 (ii (i:Int)))(e3:Lk l 3 (pT g3))(l0:Lp 22 (pF g3 (5+4)) (.slice pa pl pc) w)(h1:decide ((i:Int)<(pl:Int))=b46)
  (hN: ∀a',Sl 97 a' ((46,.bool b46)::dropL [41,42,43,44,45,46] l) df->N a' w):Rg N Q a w (r_ow 10):=
 reg (l0:=[(6,ii (i:Int)),(3,pT g3)]) [46] [41,42,43,44,45,46] [.val (.slice pa pl pc),.bit b46] hs ⟨e6,e3,trivial⟩ (aI l0.run (aI h1 hN)) (by kernel_rfl)
theorem ow_r11{i:Nat}(hs:Sl 97 a l df)(e6:Lk l 6 (ii (i:Int)))(h0: -9223372036854775808<=(i:Int)+1/\(i:Int)+1<=9223372036854775807)
  (hN: ∀a',Sl 97 a' ((6,ii ((i:Int)+1))::dropL [6,47,48] l) df->N a' w):Rg N Q a w (r_ow 11):=
 reg (l0:=[(6,ii (i:Int))]) [6] [6,47,48] [.ari] hs ⟨e6,trivial⟩ (aI h0 hN) (by kernel_rfl)
theorem ow_r12{g3 pl pc i gw on oc g59 o59:Nat}{pa od:Option Addr}(hs:Sl 97 a l df)(e3:Lk l 3 (pT g3))(e6:Lk l 6 (ii (i:Int)))(e0:Lk l 0 (pT gw))(l0:Lp 22 (pF g3 (5+4)) (.slice pa pl pc) w)(l1:Lp 29 (pF gw 8) (.slice od on oc) w)(h2: -9223372036854775808<=(-7:Int)-(on:Int)/\(-7:Int)-(on:Int)<=9223372036854775807)(i3:Ix 22 (.slice pa pl pc) (ii (i:Int)) (pF g59 o59))(s4:So 3 g59 o59 (ii ((-7:Int)-(on:Int))) (w.drewN 1) [ii ((-7:Int)-(on:Int))])
  (hN: ∀a',Sl 97 a' (dropL (List.range' 49 11) l) df->N a' ((w.drewN 1).setCells g59 o59 [ii ((-7:Int)-(on:Int))])):Rg N Q a w (r_ow 12):=
 regT (l0:=[(3,pT g3),(6,ii (i:Int)),(0,pT gw)]) 11 [] (List.range' 49 11) [.val (.slice pa pl pc),.val (.slice od on oc),.ari,.val (pF g59 o59)] [.sto] hs ⟨e3,e6,e0,trivial⟩ (aI l0 (aI l1 (aI h2 (aI i3 (aI s4 hN))))) (by kernel_rfl)
theorem ow_r13{gw on oc:Nat}{od:Option Addr}(hs:Sl 97 a l df)(e0:Lk l 0 (pT gw))(l0:Lp 29 (pF gw 8) (.slice od on oc) w)
  (hN: ∀a',Sl 97 a' ((7,ii (on:Int))::dropL [7,60,61,62,63,64] l) df->N a' w):Rg N Q a w (r_ow 13):=
 reg (l0:=[(0,pT gw)]) [7] [7,60,61,62,63,64] [.val (.slice od on oc)] hs ⟨e0,trivial⟩ (aI l0.run hN) (by kernel_rfl)
theorem ow_r14{g3:Nat}{d:Dt}{m:Dm}(hs:Sl 97 a l df)(e3:Lk l 3 (pT g3))(l0:Lp 31 (pT g3) (.agg (d.cs m)) w)(s1:So 31 w.heap.size 0 (.agg (d.cs m)) (w.alloc (.cells zA 31)) (d.cs m).toList)
  (hN: ∀a',Sl 97 a' ((8,pT w.heap.size)::dropL [8,65] l) df->N a' ((w.alloc (.cells zA 31)).setCells w.heap.size 0 (d.cs m).toList)):Rg N Q a w (r_ow 14):=
 reg (l0:=[(3,pT g3)]) [8] [8,65] [.val (.agg (d.cs m)),.raw,.sto] hs ⟨e3,trivial⟩ (aI l0.run (aI s1 hN)) (by kernel_rfl)
theorem ow_r15(hs:Sl 97 a l df)
  (hN: ∀a',Sl 97 a' ((9,ii 0)::dropL [9] l) df->N a' w):Rg N Q a w (r_ow 15):=
 reg (l0:=[]) [9] [9] [] hs trivial hN (by kernel_rfl)
theorem ow_r16{i:Nat}{b67:Bool}(hs:Sl 97 a l df)(e9:Lk l 9 (ii (i:Int)))(h0:decide ((i:Int)<6)=b67)
  (hN: ∀a',Sl 97 a' ((67,.bool b67)::dropL [66,67] l) df->N a' w):Rg N Q a w (r_ow 16):=
 reg (l0:=[(9,ii (i:Int))]) [67] [66,67] [.bit b67] hs ⟨e9,trivial⟩ (aI h0 hN) (by kernel_rfl)
theorem ow_r17{i:Nat}(hs:Sl 97 a l df)(e9:Lk l 9 (ii (i:Int)))(h0: -9223372036854775808<=(i:Int)+1/\(i:Int)+1<=9223372036854775807)
  (hN: ∀a',Sl 97 a' ((9,ii ((i:Int)+1))::dropL [9,68,69] l) df->N a' w):Rg N Q a w (r_ow 17):=
 reg (l0:=[(9,ii (i:Int))]) [9] [9,68,69] [.ari] hs ⟨e9,trivial⟩ (aI h0 hN) (by kernel_rfl)
theorem ow_r18{g8 xn xc n7:Nat}{xd:Option Addr}{C0:World->S3->World->Prop}(hs:Sl 97 a l df)(e8:Lk l 8 (pT g8))(e7:Lk l 7 (ii (n7:Int)))(l0:Lp 29 (pF g8 10) (.slice xd xn xc) w)(k1: ∀ty,∃v w',(Builtin.append_ #[29,29] ty #[.slice xd xn xc,.slice (some ⟨w.heap.size,0,none⟩) 1 1]).run Tryd.prog (w.alloc (.cells #[ii (-7),.string (⟨#[]⟩),ii (n7:Int),.int .u64 0,.string (⟨#[]⟩),ii 0,ii 0,ii 0,ii 0,.slice none 0 0,.slice none 0 0] 31))=.ok v.v w'/\C0 (w.alloc (.cells #[ii (-7),.string (⟨#[]⟩),ii (n7:Int),.int .u64 0,.string (⟨#[]⟩),ii 0,ii 0,ii 0,ii 0,.slice none 0 0,.slice none 0 0] 31)) v w')(s2: ∀(x75:S3) (w1:World),C0 (w.alloc (.cells #[ii (-7),.string (⟨#[]⟩),ii (n7:Int),.int .u64 0,.string (⟨#[]⟩),ii 0,ii 0,ii 0,ii 0,.slice none 0 0,.slice none 0 0] 31)) x75 w1->So 29 g8 10 (.slice x75.d x75.n x75.c) w1 [.slice x75.d x75.n x75.c])
  (hN: ∀a' (x75:S3) (w1:World),C0 (w.alloc (.cells #[ii (-7),.string (⟨#[]⟩),ii (n7:Int),.int .u64 0,.string (⟨#[]⟩),ii 0,ii 0,ii 0,ii 0,.slice none 0 0,.slice none 0 0] 31)) x75 w1->Sl 97 a' (dropL (List.range' 70 7) l) df->N a' (w1.setCells g8 10 [.slice x75.d x75.n x75.c])):Rg N Q a w (r_ow 18):=
 reg (l0:=[(8,pT g8),(7,ii (n7:Int))]) [] (List.range' 70 7) [.val (.slice xd xn xc),.raw,.raw,.apxw S3 S3.v C0,.sto] hs ⟨e8,e7,trivial⟩ (aI l0.run (aI k1 (fun(x75:S3) (w1:World) (hc0:C0 (w.alloc (.cells #[ii (-7),.string (⟨#[]⟩),ii (n7:Int),.int .u64 0,.string (⟨#[]⟩),ii 0,ii 0,ii 0,ii 0,.slice none 0 0,.slice none 0 0] 31)) x75 w1)=>(aI (s2 x75 w1 hc0) (fun a'=>hN a' x75 w1 hc0))))) (by kernel_rfl)
theorem ow_r19{g8 yn yc n7:Nat}{yd:Option Addr}{C0:World->S3->World->Prop}(hs:Sl 97 a l df)(e8:Lk l 8 (pT g8))(e7:Lk l 7 (ii (n7:Int)))(l0:Lp 22 (pF g8 (5+4)) (.slice yd yn yc) w)(h1: -9223372036854775808<=(-7:Int)-(n7:Int)/\(-7:Int)-(n7:Int)<=9223372036854775807)(k2: ∀ty,∃v w',(Builtin.append_ #[22,22] ty #[.slice yd yn yc,.slice (some ⟨w.heap.size,0,none⟩) 1 1]).run Tryd.prog (w.alloc (.cells #[ii ((-7:Int)-(n7:Int))] 3))=.ok v.v w'/\C0 (w.alloc (.cells #[ii ((-7:Int)-(n7:Int))] 3)) v w')(s3: ∀(x83:S3) (w1:World),C0 (w.alloc (.cells #[ii ((-7:Int)-(n7:Int))] 3)) x83 w1->So 22 g8 (5+4) (.slice x83.d x83.n x83.c) w1 [.slice x83.d x83.n x83.c])
  (hN: ∀a' (x83:S3) (w1:World),C0 (w.alloc (.cells #[ii ((-7:Int)-(n7:Int))] 3)) x83 w1->Sl 97 a' (dropL (List.range' 77 9) l) df->N a' (w1.setCells g8 (5+4) [.slice x83.d x83.n x83.c])):Rg N Q a w (r_ow 19):=
 reg (l0:=[(8,pT g8),(7,ii (n7:Int))]) [] (List.range' 77 9) [.val (.slice yd yn yc),.ari,.raw,.apxw S3 S3.v C0,.sto] hs ⟨e8,e7,trivial⟩ (aI l0.run (aI h1 (aI k2 (fun(x83:S3) (w1:World) (hc0:C0 (w.alloc (.cells #[ii ((-7:Int)-(n7:Int))] 3)) x83 w1)=>(aI (s3 x83 w1 hc0) (fun a'=>hN a' x83 w1 hc0)))))) (by kernel_rfl)
theorem ow_r20{C:World->Prop}{gw on oc g8 gx:Nat}{od:Option Addr}{d:Dt}{m:Dm}{C0:World->Nat->World->Prop}(hs:Sl 97 a l df)(e0:Lk l 0 (pT gw))(e8:Lk l 8 (pT g8))(c0:C (w.drewN 1))(l1: ∀u,C u->Lp 29 (pF gw 8) (.slice od on oc) u)(l2: ∀u,C u->Lp 31 (pT g8) (.agg (d.cs m)) u)(c3:C ((w.drewN 1).alloc (.cells zA 31)))(k4: ∀ty,∃(v:Nat) (w':World),(Builtin.append_ #[29,29] ty #[.slice od on oc,.slice (some ⟨(w.drewN 1).heap.size,0,none⟩) 1 1]).run Tryd.prog ((w.drewN 1).alloc (.cells zA 31))=.ok (.slice (some ⟨gx,0,none⟩) (on+1) v) w'/\C0 ((w.drewN 1).alloc (.cells zA 31)) v w')(i5: ∀(x93:Nat) (w1:World),C0 ((w.drewN 1).alloc (.cells zA 31)) x93 w1->Ix 29 (.slice (some ⟨gx,0,none⟩) (on+1) x93) (ii (on:Int)) (pF gx (on*11)))(s6: ∀(x93:Nat) (w1:World),C0 ((w.drewN 1).alloc (.cells zA 31)) x93 w1->So 31 gx (on*11) (.agg (d.cs m)) w1 (d.cs m).toList)(s7: ∀(x93:Nat) (w1:World),C0 ((w.drewN 1).alloc (.cells zA 31)) x93 w1->So 29 gw 8 (.slice (some ⟨gx,0,none⟩) (on+1) x93) (w1.setCells gx (on*11) (d.cs m).toList) [.slice (some ⟨gx,0,none⟩) (on+1) x93])(s8: ∀(x93:Nat) (w1:World),C0 ((w.drewN 1).alloc (.cells zA 31)) x93 w1->So 29 gw 8 (.slice (some ⟨gx,0,none⟩) (on+1) x93) w1 [.slice (some ⟨gx,0,none⟩) (on+1) x93])(s9: ∀(x93:Nat) (w1:World),C0 ((w.drewN 1).alloc (.cells zA 31)) x93 w1->So 31 gx (on*11) (.agg (d.cs m)) (w1.setCells gw 8 [.slice (some ⟨gx,0,none⟩) (on+1) x93]) (d.cs m).toList)
  (hN0: ∀a' (x93:Nat) (w1:World),C0 ((w.drewN 1).alloc (.cells zA 31)) x93 w1->Sl 97 a' (dropL (List.range' 86 11) l) df->N a' ((w1.setCells gx (on*11) (d.cs m).toList).setCells gw 8 [.slice (some ⟨gx,0,none⟩) (on+1) x93]))
  (hN1: ∀a' (x93:Nat) (w1:World),C0 ((w.drewN 1).alloc (.cells zA 31)) x93 w1->Sl 97 a' (dropL (List.range' 86 11) l) df->N a' ((w1.setCells gw 8 [.slice (some ⟨gx,0,none⟩) (on+1) x93]).setCells gx (on*11) (d.cs m).toList)):Rg N Q a w (r_ow 20):=
 regZ (l0:=[(0,pT gw),(8,pT g8)]) 7 (.rd 0 (.rd 1 (.rd 2 (.rd 3 (.rd 4 (.rd 5 (.e1 6 .fin))))))) (.e1 7 (.e2 8 (.e2 9 (.e1 10 (.e1 11 (.e1 12 .fin))) 10 [.sto,.sto] (.e2 9 (.e1 11 (.e1 12 .fin)) 11 [.sto,.sto] (.e2 9 (.e1 12 .fin) 12 [.sto,.sto] (.e1 9 .fin)))) 10 [.val (pF gx (on*11)),.sto,.sto] (.e2 8 (.e2 9 (.e1 11 (.e1 12 .fin)) 11 [.sto,.sto] (.e2 9 (.e1 12 .fin) 12 [.sto,.sto] (.e1 9 .fin))) 11 [.val (pF gx (on*11)),.sto,.sto] (.e2 8 (.e2 9 (.e1 12 .fin) 12 [.sto,.sto] (.e1 9 .fin)) 12 [.sto,.val (pF gx (on*11)),.sto] (.e1 8 (.e1 9 .fin)))))) C [] (List.range' 86 11) [.val (.slice od on oc),.val (.agg (d.cs m)),.raw,.apxw Nat (fun c=>.slice (some ⟨gx,0,none⟩) (on+1) c) C0,.val (pF gx (on*11)),.sto,.sto] hs ⟨e0,e8,trivial⟩ (aI c0 (aI c0 (aI c0 (aI c0 (aI (fun u hu=>(l1 u hu).run) (aI c0 (aI (fun u hu=>(l2 u hu).run) (aI c0 (aI c0 (aI c3 (aI trivial (aI k4 (fun(x93:Nat) (w1:World) (hc0:C0 ((w.drewN 1).alloc (.cells zA 31)) x93 w1)=>(aI trivial (aI (aI (i5 x93 w1 hc0 w1) (aI trivial (aI (aI (s6 x93 w1 hc0) (aI trivial (aI trivial (aI trivial (aI (s7 x93 w1 hc0) (aI trivial (fun a'=>hN0 a' x93 w1 hc0))))))) (aI trivial (aI (aI (s6 x93 w1 hc0) (aI trivial (aI trivial (aI (s7 x93 w1 hc0) (aI trivial (fun a'=>hN0 a' x93 w1 hc0)))))) (aI trivial (aI (aI (s6 x93 w1 hc0) (aI trivial (aI (s7 x93 w1 hc0) (aI trivial (fun a'=>hN0 a' x93 w1 hc0))))) (aI (s8 x93 w1 hc0) (aI trivial (aI (s9 x93 w1 hc0) (aI trivial (fun a'=>hN1 a' x93 w1 hc0)))))))))))) (aI trivial (aI (aI (i5 x93 w1 hc0 w1) (aI trivial (aI (aI (s6 x93 w1 hc0) (aI trivial (aI trivial (aI (s7 x93 w1 hc0) (aI trivial (fun a'=>hN0 a' x93 w1 hc0)))))) (aI trivial (aI (aI (s6 x93 w1 hc0) (aI trivial (aI (s7 x93 w1 hc0) (aI trivial (fun a'=>hN0 a' x93 w1 hc0))))) (aI (s8 x93 w1 hc0) (aI trivial (aI (s9 x93 w1 hc0) (aI trivial (fun a'=>hN1 a' x93 w1 hc0)))))))))) (aI trivial (aI (aI (i5 x93 w1 hc0 w1) (aI trivial (aI (aI (s6 x93 w1 hc0) (aI trivial (aI (s7 x93 w1 hc0) (aI trivial (fun a'=>hN0 a' x93 w1 hc0))))) (aI (s8 x93 w1 hc0) (aI trivial (aI (s9 x93 w1 hc0) (aI trivial (fun a'=>hN1 a' x93 w1 hc0)))))))) (aI (s8 x93 w1 hc0) (aI trivial (aI (i5 x93 w1 hc0 (w1.setCells gw 8 [.slice (some ⟨gx,0,none⟩) (on+1) x93])) (aI trivial (aI (s9 x93 w1 hc0) (aI trivial (fun a'=>hN1 a' x93 w1 hc0)))))))))))))))))))))))))) (by kernel_rfl)
noncomputable def r_kp9 (n:Nat):Code:=((Tryd.f17.body.bind (findR n)).getD .skip)
noncomputable def kp9L0:Code:=(.seq (.seq (r_kp9 10) (.cond (.tmp 68) .skip (.exit 4))) (.seq (.block 5 (.seq (r_kp9 12) (.cond (.tmp 85) (.seq (r_kp9 13) .ret) .skip))) (r_kp9 11)))
noncomputable def kp9L1:Code:=(.seq (.seq (r_kp9 5) (.cond (.tmp 25) .skip (.exit 2))) (.seq (.block 3 (.seq (r_kp9 7) (.cond (.tmp 56) (.seq (r_kp9 8) .ret) .skip))) (r_kp9 6)))
noncomputable def kp9L2:Code:=(.seq (.seq (r_kp9 2) (.cond (.tmp 12) .skip (.exit 0))) (.seq (.block 1 (.seq (.seq (r_kp9 4) (.block 2 (.loop kp9L1))) (.seq (r_kp9 9) (.block 4 (.loop kp9L0))))) (r_kp9 3)))
noncomputable def kp9Body:Code:=(.seq (r_kp9 0) (.seq (.seq (r_kp9 1) (.block 0 (.loop kp9L2))) (.seq (r_kp9 14) .ret)))
theorem kp9_body:Tryd.f17.body=some kp9Body:=by kernel_rfl
theorem kp9_r0(hs:Sl 86 a l df)
  (hN: ∀a',Sl 86 a' ((2,.bool false)::dropL [2] l) df->N a' w):Rg N Q a w (r_kp9 0):=
 reg (l0:=[]) [2] [2] [] hs trivial hN (by kernel_rfl)
theorem kp9_r1(hs:Sl 86 a l df)
  (hN: ∀a',Sl 86 a' ((3,ii 0)::dropL [3] l) df->N a' w):Rg N Q a w (r_kp9 1):=
 reg (l0:=[]) [3] [3] [] hs trivial hN (by kernel_rfl)
theorem kp9_r2{n gw on oc:Nat}{od:Option Addr}{b12:Bool}(hs:Sl 86 a l df)(e3:Lk l 3 (ii (n:Int)))(e0:Lk l 0 (pT gw))(l0:Lp 29 (pF gw 8) (.slice od on oc) w)(h1:decide ((n:Int)<(on:Int))=b12)
  (hN: ∀a',Sl 86 a' ((12,.bool b12)::dropL (List.range' 6 7) l) df->N a' w):Rg N Q a w (r_kp9 2):=
 reg (l0:=[(3,ii (n:Int)),(0,pT gw)]) [12] (List.range' 6 7) [.val (.slice od on oc),.bit b12] hs ⟨e3,e0,trivial⟩ (aI l0.run (aI h1 hN)) (by kernel_rfl)
theorem kp9_r3{n:Nat}(hs:Sl 86 a l df)(e3:Lk l 3 (ii (n:Int)))(h0: -9223372036854775808<=(n:Int)+1/\(n:Int)+1<=9223372036854775807)
  (hN: ∀a',Sl 86 a' ((3,ii ((n:Int)+1))::dropL [3,13,14] l) df->N a' w):Rg N Q a w (r_kp9 3):=
 reg (l0:=[(3,ii (n:Int))]) [3] [3,13,14] [.ari] hs ⟨e3,trivial⟩ (aI h0 hN) (by kernel_rfl)
theorem kp9_r4(hs:Sl 86 a l df)
  (hN: ∀a',Sl 86 a' ((4,ii 0)::dropL [4] l) df->N a' w):Rg N Q a w (r_kp9 4):=
 reg (l0:=[]) [4] [4] [] hs trivial hN (by kernel_rfl)
theorem kp9_r5{i gw on oc n g21 o21 el ec:Nat}{od ei:Option Addr}{b25:Bool}(hs:Sl 86 a l df)(e4:Lk l 4 (ii (i:Int)))(e0:Lk l 0 (pT gw))(e3:Lk l 3 (ii (n:Int)))(l0:Lp 29 (pF gw 8) (.slice od on oc) w)(i1:Ix 29 (.slice od on oc) (ii (n:Int)) (pF g21 o21))(l2:Lp 29 (pF g21 (o21+10)) (.slice ei el ec) w)(h3:decide ((i:Int)<(el:Int))=b25)
  (hN: ∀a',Sl 86 a' ((25,.bool b25)::dropL (List.range' 15 11) l) df->N a' w):Rg N Q a w (r_kp9 5):=
 reg (l0:=[(4,ii (i:Int)),(0,pT gw),(3,ii (n:Int))]) [25] (List.range' 15 11) [.val (.slice od on oc),.val (pF g21 o21),.val (.slice ei el ec),.bit b25] hs ⟨e4,e0,e3,trivial⟩ (aI l0.run (aI (i1 w) (aI l2.run (aI h3 hN)))) (by kernel_rfl)
theorem kp9_r6{i:Nat}(hs:Sl 86 a l df)(e4:Lk l 4 (ii (i:Int)))(h0: -9223372036854775808<=(i:Int)+1/\(i:Int)+1<=9223372036854775807)
  (hN: ∀a',Sl 86 a' ((4,ii ((i:Int)+1))::dropL [4,26,27] l) df->N a' w):Rg N Q a w (r_kp9 6):=
 reg (l0:=[(4,ii (i:Int))]) [4] [4,26,27] [.ari] hs ⟨e4,trivial⟩ (aI h0 hN) (by kernel_rfl)
theorem kp9_r7_f{gw on oc n g33 o33 el ec i g37 o37:Nat}{od ei:Option Addr}{k1 k2:Int}{b55:Bool}(hs:Sl 86 a l df)(e0:Lk l 0 (pT gw))(e3:Lk l 3 (ii (n:Int)))(e4:Lk l 4 (ii (i:Int)))(l0:Lp 29 (pF gw 8) (.slice od on oc) w)(i1:Ix 29 (.slice od on oc) (ii (n:Int)) (pF g33 o33))(l2:Lp 29 (pF g33 (o33+10)) (.slice ei el ec) w)(i3:Ix 29 (.slice ei el ec) (ii (i:Int)) (pF g37 o37))(l4:Lp 3 (pF g37 (o37+0)) (ii k1) w)(h5:decide (k1≠(-7))=false)(l6:Lp 3 (pF g37 (o37+2)) (ii k2) w)(h7:decide (k2≠(n:Int))=b55)
  (hN: ∀a',Sl 86 a' ((56,.bool b55)::dropL (List.range' 28 29) l) df->N a' w):Rg N Q a w (r_kp9 7):=
 reg (l0:=[(0,pT gw),(3,ii (n:Int)),(4,ii (i:Int))]) [56] (List.range' 28 29) [.val (.slice od on oc),.val (pF g33 o33),.val (.slice ei el ec),.val (pF g37 o37),.val (ii k1),.bit false,.val (.slice od on oc),.val (pF g33 o33),.val (.slice ei el ec),.val (pF g37 o37),.val (ii k2),.bit b55] hs ⟨e0,e3,e4,trivial⟩ (aI l0.run (aI (i1 w) (aI l2.run (aI (i3 w) (aI l4.run (aI h5 (aI l0.run (aI (i1 w) (aI l2.run (aI (i3 w) (aI l6.run (aI h7 hN)))))))))))) (by kernel_rfl)
theorem kp9_r9(hs:Sl 86 a l df)
  (hN: ∀a',Sl 86 a' ((5,ii 0)::dropL [5] l) df->N a' w):Rg N Q a w (r_kp9 9):=
 reg (l0:=[]) [5] [5] [] hs trivial hN (by kernel_rfl)
theorem kp9_r10{i gw on oc n g63 o63 pl pc:Nat}{od pi:Option Addr}{b68:Bool}(hs:Sl 86 a l df)(e5:Lk l 5 (ii (i:Int)))(e0:Lk l 0 (pT gw))(e3:Lk l 3 (ii (n:Int)))(l0:Lp 29 (pF gw 8) (.slice od on oc) w)(i1:Ix 29 (.slice od on oc) (ii (n:Int)) (pF g63 o63))(l2:Lp 22 (pF g63 (o63+5+4)) (.slice pi pl pc) w)(h3:decide ((i:Int)<(pl:Int))=b68)
  (hN: ∀a',Sl 86 a' ((68,.bool b68)::dropL (List.range' 57 12) l) df->N a' w):Rg N Q a w (r_kp9 10):=
 reg (l0:=[(5,ii (i:Int)),(0,pT gw),(3,ii (n:Int))]) [68] (List.range' 57 12) [.val (.slice od on oc),.val (pF g63 o63),.val (.slice pi pl pc),.bit b68] hs ⟨e5,e0,e3,trivial⟩ (aI l0.run (aI (i1 w) (aI l2.run (aI h3 hN)))) (by kernel_rfl)
theorem kp9_r11{i:Nat}(hs:Sl 86 a l df)(e5:Lk l 5 (ii (i:Int)))(h0: -9223372036854775808<=(i:Int)+1/\(i:Int)+1<=9223372036854775807)
  (hN: ∀a',Sl 86 a' ((5,ii ((i:Int)+1))::dropL [5,69,70] l) df->N a' w):Rg N Q a w (r_kp9 11):=
 reg (l0:=[(5,ii (i:Int))]) [5] [5,69,70] [.ari] hs ⟨e5,trivial⟩ (aI h0 hN) (by kernel_rfl)
theorem kp9_r12{gw on oc n g76 o76 pl pc i g81 o81:Nat}{od pi:Option Addr}{k1:Int}{b85:Bool}(hs:Sl 86 a l df)(e0:Lk l 0 (pT gw))(e3:Lk l 3 (ii (n:Int)))(e5:Lk l 5 (ii (i:Int)))(l0:Lp 29 (pF gw 8) (.slice od on oc) w)(i1:Ix 29 (.slice od on oc) (ii (n:Int)) (pF g76 o76))(l2:Lp 22 (pF g76 (o76+5+4)) (.slice pi pl pc) w)(i3:Ix 22 (.slice pi pl pc) (ii (i:Int)) (pF g81 o81))(l4:Lp 3 (pF g81 o81) (ii k1) w)(h5: -9223372036854775808<=(-7:Int)-(n:Int)/\(-7:Int)-(n:Int)<=9223372036854775807)(h6:decide (k1≠((-7:Int)-(n:Int)))=b85)
  (hN: ∀a',Sl 86 a' ((85,.bool b85)::dropL (List.range' 71 15) l) df->N a' w):Rg N Q a w (r_kp9 12):=
 reg (l0:=[(0,pT gw),(3,ii (n:Int)),(5,ii (i:Int))]) [85] (List.range' 71 15) [.val (.slice od on oc),.val (pF g76 o76),.val (.slice pi pl pc),.val (pF g81 o81),.val (ii k1),.ari,.bit b85] hs ⟨e0,e3,e5,trivial⟩ (aI l0.run (aI (i1 w) (aI l2.run (aI (i3 w) (aI l4.run (aI h5 (aI h6 hN))))))) (by kernel_rfl)
theorem kp9_r14(hs:Sl 86 a l df)
  (hN: ∀a',Sl 86 a' ((2,.bool true)::dropL [2] l) df->N a' w):Rg N Q a w (r_kp9 14):=
 reg (l0:=[]) [2] [2] [] hs trivial hN (by kernel_rfl)
end Go.Proofs.YtlhfickniegooaaDoor

namespace Go.Proofs.YtlhfickniegooaaDoor
open Go.RowKit Go.Sort
set_option maxRecDepth 100000
abbrev wdT:TypeId:=53
abbrev dtT:TypeId:=31
def MarkI(w:World)(Z:Nat->Prop)(ia:Option Addr)(il n:Nat):Prop:=il=0\/∃b,ia=some ⟨b,0,none⟩/\Z b/\Cel w b/\∀i,i<il->w.cell? ⟨b,i*11,none⟩=some (.int .i64 (-7))/\w.cell? ⟨b,i*11+2,none⟩=some (.int .i64 (n:Int))
def MarkP(w:World)(Z:Nat->Prop)(pa:Option Addr)(pl n:Nat):Prop:=pl=0\/∃b,pa=some ⟨b,0,none⟩/\Z b/\Cel w b/\∀i,i<pl->w.cell? ⟨b,i,none⟩=some (.int .i64 ((-7:Int)-(n:Int)))
theorem MarkI.keep{w w':World}{Z T:Nat->Prop}{ia:Option Addr}{il n:Nat}(h:MarkI w Z ia il n)(hk: ∀b,Z b->b<w.heap.size->w'.heap[b]? =w.heap[b]?)(hT: ∀b,Z b->b<w.heap.size->T b):MarkI w' T ia il n:=by
 rcases h with h | ⟨b,e,hz,hl,hc⟩
 ·exact .inl h
 ·have hlt:=hl.lt
  exact .inr ⟨b,e,hT b hz hlt,hl.keep (hk b hz hlt),fun i hi=>⟨(cell_same (hk b hz hlt)).trans (hc i hi).1,(cell_same (hk b hz hlt)).trans (hc i hi).2⟩⟩
theorem MarkP.keep{w w':World}{Z T:Nat->Prop}{pa:Option Addr}{pl n:Nat}(h:MarkP w Z pa pl n)(hk: ∀b,Z b->b<w.heap.size->w'.heap[b]? =w.heap[b]?)(hT: ∀b,Z b->b<w.heap.size->T b):MarkP w' T pa pl n:=by
 rcases h with h | ⟨b,e,hz,hl,hc⟩
 ·exact .inl h
 ·have hlt:=hl.lt
  exact .inr ⟨b,e,hT b hz hlt,hl.keep (hk b hz hlt),fun i hi=>(cell_same (hk b hz hlt)).trans (hc i hi)⟩
def wcs(hs:List Value)(s:S3):Array Value:=⟨hs++[s.v]⟩
def ElAt(w:World)(Z:Nat->Prop)(n:Nat)(c:Array Value):Prop:=c.size=11/\∃pa pl pc ia il ic,(pl<=9000000000000000000/\il<=9000000000000000000)/\c[9]? =some (.slice pa pl pc)/\c[10]? =some (.slice ia il ic)/\MarkP w Z pa pl n/\MarkI w Z ia il n
theorem ElAt.keep{w w':World}{Z T:Nat->Prop}{n:Nat}{c:Array Value}(h:ElAt w Z n c)(hk: ∀b,Z b->b<w.heap.size->w'.heap[b]? =w.heap[b]?)(hT: ∀b,Z b->b<w.heap.size->T b):ElAt w' T n c:=by
 obtain⟨h0,pa,pl,pc,ia,il,ic,hb,h1,h2,h3,h4⟩:=h
 exact⟨h0,pa,pl,pc,ia,il,ic,hb,h1,h2,h3.keep hk hT,h4.keep hk hT⟩
structure OutS (w:World) (gw:Nat) (hs:List Value) (n:Nat) (Z:Nat->Prop) (s:S3) (E:List (Array Value)):Prop where
 blk:Blk w gw wdT (wcs hs s)
 len:hs.length=8
 num:s.n=n/\E.length=n
 row:w.ownsRow 0 dtT 11 s.v n (E.flatMap Array.toList)
 zrow: ∀g,s.v.ownBlock=some g->Z g/\g≠gw
 zgw:Z gw
 el: ∀i c,E[i]? =some c->ElAt w (fun b=>Z b/\b≠gw/\s.v.ownBlock≠some b) i c
def OutAt(w:World)(gw:Nat)(hs:List Value)(n:Nat)(Z:Nat->Prop):Prop:= ∃s E,OutS w gw hs n Z s E
theorem own_lt{w:World}{B sz n:Nat}{t:TypeId}{v:Value}{xs:List Value}(h:w.ownsRow B t sz v n xs){g:Nat}(hg:v.ownBlock=some g):g<w.heap.size:=(row_block h hg).2
theorem OutS.keep{w w':World}{gw:Nat}{hs:List Value}{n:Nat}{Z T:Nat->Prop}{s:S3}{E:List (Array Value)}(h:OutS w gw hs n Z s E)(hk: ∀b,Z b->b<w.heap.size->w'.heap[b]? =w.heap[b]?)(hT: ∀b,Z b->b<w.heap.size->T b):OutS w' gw hs n T s E where
 blk:=(hk gw h.zgw h.blk.lt).trans h.blk
 len:=h.len
 num:=h.num
 row:=row_keep h.row fun g hg=>hk g (h.zrow g hg).1 (own_lt h.row hg)
 zrow:=fun g hg=>⟨hT g (h.zrow g hg).1 (own_lt h.row hg),(h.zrow g hg).2⟩
 zgw:=hT gw h.zgw h.blk.lt
 el:=fun i c hc=>(h.el i c hc).keep (fun b hb hl=>hk b hb.1 hl) (fun b hb hl=>⟨hT b hb.1 hl,hb.2⟩)
theorem OutAt.keep{w w':World}{gw:Nat}{hs:List Value}{n:Nat}{Z T:Nat->Prop}(h:OutAt w gw hs n Z)(hk: ∀b,Z b->b<w.heap.size->w'.heap[b]? =w.heap[b]?)(hT: ∀b,Z b->b<w.heap.size->T b):OutAt w' gw hs n T:=let⟨s,E,h⟩:=h;⟨s,E,h.keep hk hT⟩
theorem OutAt.old{w w':World}{gw:Nat}{hs:List Value}{n:Nat}{Z:Nat->Prop}(h:OutAt w gw hs n Z)(hb:Below w.heap.size w w'):OutAt w' gw hs n Z:=h.keep (fun b _ hl=>hb.block b hl) (fun _ h _=>h)
theorem OutAt.low{w:World}{gw:Nat}{hs:List Value}{n:Nat}{Z:Nat->Prop}(h:OutAt w gw hs n Z):OutAt w gw hs n (fun b=>Z b/\b<w.heap.size):=h.keep (fun _ _ _=>rfl) (fun _ h hl=>⟨h,hl⟩)
theorem OutAt.ext{n0:Nat}{w w':World}{gw:Nat}{hs:List Value}{n:Nat}{Z:Nat->Prop}(h:OutAt w gw hs n Z)(e:Ext n0 w w'):OutAt w' gw hs n Z:=by
 obtain⟨s,E,h⟩:=h
 refine⟨s,E,h.blk.ext e,h.len,h.num,row_ext h.row e,h.zrow,h.zgw,fun i c hc=> ?_⟩
 obtain⟨h0,pa,pl,pc,ia,il,ic,hbd,h1,h2,h3,h4⟩:=h.el i c hc
 refine⟨h0,pa,pl,pc,ia,il,ic,hbd,h1,h2, ?_, ?_⟩
 ·rcases h3 with h3 | ⟨b,e1,hz,hl,hc⟩
  ·exact .inl h3
  ·exact .inr ⟨b,e1,hz,hl.ext e,fun i hi=>cell_ext e (hc i hi)⟩
 ·rcases h4 with h4 | ⟨b,e1,hz,hl,hc⟩
  ·exact .inl h4
  ·exact .inr ⟨b,e1,hz,hl.ext e,fun i hi=>⟨cell_ext e (hc i hi).1,cell_ext e (hc i hi).2⟩⟩
theorem OutAt.cel{w:World}{gw:Nat}{hs:List Value}{n:Nat}{Z:Nat->Prop}(h:OutAt w gw hs n Z):OutAt w gw hs n (fun b=>Z b/\Cel w b):=by
 obtain⟨s,E,h⟩:=h
 have hrow: ∀g,s.v.ownBlock=some g->Cel w g:=fun g hg=>by
  rcases h.row.2 with⟨e,_⟩ | ⟨g',cap,cur,e,_,hh,_⟩
  ·rw[e] at hg
   cases hg
  ·rw[e] at hg
   injection hg with hg
   have hg:g'=g:=hg
   subst hg
   exact⟨_,_,hh⟩
 refine⟨s,E,h.blk,h.len,h.num,h.row,fun g hg=>⟨⟨(h.zrow g hg).1,hrow g hg⟩,(h.zrow g hg).2⟩,⟨h.zgw,_,_,h.blk⟩,fun i c hc=> ?_⟩
 obtain⟨h0,pa,pl,pc,ia,il,ic,hbd,h1,h2,h3,h4⟩:=h.el i c hc
 refine⟨h0,pa,pl,pc,ia,il,ic,hbd,h1,h2, ?_, ?_⟩
 ·rcases h3 with h3 | ⟨b,e1,hz,hl,hc⟩
  ·exact .inl h3
  ·exact .inr ⟨b,e1,⟨⟨hz.1,hl⟩,hz.2⟩,hl,hc⟩
 ·rcases h4 with h4 | ⟨b,e1,hz,hl,hc⟩
  ·exact .inl h4
  ·exact .inr ⟨b,e1,⟨⟨hz.1,hl⟩,hz.2⟩,hl,hc⟩
end Go.Proofs.YtlhfickniegooaaDoor
