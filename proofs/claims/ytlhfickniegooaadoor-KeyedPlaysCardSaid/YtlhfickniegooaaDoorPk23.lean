/-
   Written by an AI agent.
-/
import Derived.Test.YtlhfickniegooaaDoorPk04
namespace Go.Proofs.YtlhfickniegooaaDoor
open Go.RowKit Go.Sort
section
variable {P:Program} {ops:Array Oper} {md:Region.Mode}
def YieldsR(P:Program)(ops:Array Oper)(w0:World)(o:Oper)(v:Value)(a:Act):Prop:=
 (Region.wanted o (yielded ops a.tmps)=true/\∀w,Below w0.heap.size w0 w->o.quietAt P a (fun u=>Below w.heap.size w u) w v)\/
 (Region.wanted o (yielded ops a.tmps)=false/\v=undef)
theorem YieldsR.of_same{w0:World}{o:Oper}{v:Value}{a b:Act}(hy:YieldsR P ops w0 o v a)(he:execOp b.eval o=execOp a.eval o)
  (hw:Region.wanted o (yielded ops b.tmps)=Region.wanted o (yielded ops a.tmps)):YieldsR P ops w0 o v b:=by
 unfold YieldsR Oper.quietAt at*
 rw[he,hw]
 exact hy
theorem YieldsR.put{w0:World}{o x:Oper}{v:Value}{a:Act}(hs: ∀cs b,o.op≠.select cs b)(hap: ∀d,x.dst=some d->d∉o.looksAt ops)(u:Value)(hy:YieldsR P ops w0 o v a):YieldsR P ops w0 o v (a.put x.dst u):=
 hy.of_same (execOp_put o hs a x.dst u hap) (wanted_put o a x.dst u hap)
theorem YieldsR.unput{w0:World}{o x:Oper}{v:Value}{a:Act}(hs: ∀cs b,o.op≠.select cs b)(hap: ∀d,x.dst=some d->d∉o.looksAt ops)(u:Value)(hy:YieldsR P ops w0 o v (a.put x.dst u)):YieldsR P ops w0 o v a:=
 hy.of_same (execOp_put o hs a x.dst u hap).symm (wanted_put o a x.dst u hap).symm
def runA(P:Program)(md:Region.Mode)(ops:Array Oper)(w0:World)(n m:Nat)(dm:Option Tmp)(V:Nat->Value)(L:Option Nat->Array Bool->Act->Prop):Nat->Option Nat->Array Bool->Act->Prop
  | 0,og,done,a=>L og done a
  | f+1,og,done,a=> ¬Region.ready md ops done=[]/\∀i,i∈Region.ready md ops done->i<n/\
    ((i = m ∧ ∀ g, w0.heap.size ≤ g → runA P md ops w0 n m dm V L f (some g) (done.setIfInBounds i true) (a.put dm (.pointer (some ⟨g, 0, none⟩)))) ∨
     (i≠m/\∃o,ops[i]? =some o/\YieldsR P ops w0 o (V i) a/\runA P md ops w0 n m dm V L f og (done.setIfInBounds i true) (a.put o.dst (V i))))
theorem upon_of_quiet{w:World}{o:Oper}{a:Act}{v:Value}{K:Act->World->Prop}{Q:Exit->Act->World->Prop}(h:o.quietAt P a (fun u=>Below w.heap.size w u) w v)(hk: ∀u,Below w.heap.size w u->K (a.put o.dst v) u):o.wp P a w K Q:=by
 unfold Oper.quietAt at h
 unfold Oper.wp
 generalize (execOp a.eval o).run P w=r at*
 cases r with
 | ok n w'=>
  cases n<;>simp only[Oper.quietUpon] at h<;>simp only[Oper.upon]
  case value u=>
   obtain⟨e1,e2⟩:=h
   rw[e1,e2]
   exact hk _ (Below.refl _ _)
  case skip=>
   obtain⟨e1,e2⟩:=h
   rw[e1,<-e2]
   exact hk _ (Below.refl _ _)
  case enter f args=>
   obtain⟨e1,hc⟩:=h
   rw[e1]
   exact hc.mono fun e w'' ⟨he,hw''⟩=>by subst he;exact hk _ hw''
 | halt x w'=>simp only[Oper.quietUpon] at h
theorem runA_any{w0:World}{n m g0:Nat}{om:Oper}{t:TypeId}{cs:Array Value}{V:Nat->Value}{L:Option Nat->Array Bool->Act->Prop}{Q:Exit->Act->World->Prop}
  (hom:ops[m]? =some om) (hwm: ∀y,Region.wanted om y=true)
  (hrun: ∀(a:Act) (w:World),(execOp a.eval om).run P w=.ok (.value (.pointer (some ⟨w.heap.size,0,none⟩))) (w.alloc (.cells cs t)))
  (hL: ∀og done a w,Below w0.heap.size w0 w->(∀g,og=some g->Blk w g t cs)->L og done a->wpAny P md ops Q g0 done a w) (f:Nat):
  ∀(og:Option Nat) (done:Array Bool) (a:Act) (w:World),Below w0.heap.size w0 w->(∀g,og=some g->Blk w g t cs)->runA P md ops w0 n m om.dst V L f og done a->wpAny P md ops Q (f+g0) done a w:=by
 induction f with
 | zero=>intro og done a w hw hg h;rw[Nat.zero_add];exact hL og done a w hw hg h
 | succ f ih=>
  intro og done a w hw hg h
  rw[Nat.add_right_comm]
  refine⟨fun e=>absurd e h.1,fun i hi=> ?_⟩
  rcases(h.2 i hi).2 with⟨rfl,hA⟩ | ⟨hne,o,ho,hy,hK⟩
  ·unfold wpOp
   simp only[hom,hwm,if_true]
   refine .inl ?_
   unfold Oper.wp
   rw[hrun a w]
   simp only[Oper.upon]
   exact ih _ _ _ _ (bl_alloc hw _) (fun g e=>by cases e;exact Blk.new _ _ _) (hA _ hw.size)
  ·unfold wpOp
   simp only[ho]
   rcases hy with⟨h1,h2⟩ | ⟨h1,h2⟩
   ·rw[if_pos h1]
    exact .inl (upon_of_quiet (h2 w hw) fun u hu=>ih _ _ _ _ (bl_trans hw hu) (fun g e=>(hg g e).below hu (hg g e).lt) hK)
   ·rw[if_neg (by rw[h1];exact Bool.false_ne_true)]
    rw[h2] at hK
    exact ih _ _ _ _ hw hg hK
theorem runA_first{w0:World}{n m i:Nat}{o om:Oper}{V:Nat->Value}{L:Option Nat->Array Bool->Act->Prop}(hom:ops[m]? =some om)(ho:ops[i]? =some o)(him:i≠m)(hsel: ∀(j:Nat) (o:Oper) cs b,ops[j]? =some o->o.op≠.select cs b)
    (hs:Region.sinkB md ops n=true) (hc:Region.chainB md ops n=true) (hn:n<ops.size) (hin:i<n) (hL: ∀og done a,L og done a->∀j∈Region.ready md ops done,n<=j) (f:Nat):
    ∀ (og : Option Nat) (done : Array Bool) (a : Act), HeadInv md ops n done →
      (∀j oj,ops[j]? =some oj->j≠i->done.getD j true=false->(∀e∈oj.after,Region.binds md e=true->e.on≠i)->o.apart ops oj=true)->
      i∈Region.ready md ops done->YieldsR P ops w0 o (V i) a->runA P md ops w0 n m om.dst V L f og (done.setIfInBounds i true) (a.put o.dst (V i))->runA P md ops w0 n m om.dst V L (f+1) og done a:=by
  induction f with
  | zero=>
    intro og done a inv _ hr hy H
    refine⟨fun e=>(by rw[e] at hr;cases hr),fun j hj=> ?_⟩
    have hjn:j<n:=Nat.lt_of_not_le fun hle=>tail_waits hs hc hn inv _ i rfl hin (mem_ready.1 hr).1 j hle hj
    by_cases e:j=i
    · subst e;exact⟨hjn,.inr ⟨him,o,ho,hy,H⟩⟩
    · have:=hL _ _ _ H j (ready_mono hj e);omega
  | succ f ih=>
    intro og done a inv hap hr hy H
    have hun:=(mem_ready.1 hr).1
    refine⟨fun e=>(by rw[e] at hr;cases hr),fun j hj=> ?_⟩
    have hjn:j<n:=Nat.lt_of_not_le fun hle=>tail_waits hs hc hn inv _ i rfl hin hun j hle hj
    refine⟨hjn, ?_⟩
    by_cases e:j=i
    · subst e;exact .inr ⟨him,o,ho,hy,H⟩
    obtain⟨hj1,oj,hoj,hj2⟩:=mem_ready.1 hj
    have hfree: ∀x∈oj.after,Region.binds md x=true->x.on≠i:=fun x hx hb hxi=>by
      have:=hj2 x hx hb
      rw[hxi,getD_both hun] at this
      cases this
    obtain⟨p1,p2,p3⟩:=Oper.apart_spec (hap j oj hoj e hj1 hfree)
    have hap2: ∀k ok,ops[k]? =some ok->k≠i->(done.setIfInBounds j true).getD k true=false->(∀x∈ok.after,Region.binds md x=true->x.on≠i)->o.apart ops ok=true:=fun k ok hk hki hku hkf=>by
      refine hap k ok hk hki ?_ hkf
      by_cases hjk:j=k
      · subst hjk;exact hj1
      · rwa [getD_set_ne true hjk] at hku
    rcases(H.2 j (ready_mono hj e)).2 with⟨rfl,hA⟩ | ⟨hjm,o',ho',hy',hK⟩
    · have:oj=om:=Option.some.inj (hoj.symm.trans hom)
      subst this
      refine .inl ⟨rfl,fun g hg=> ?_⟩
      refine ih (some g) (done.setIfInBounds j true) _ (inv.set hj hjn) hap2 (ready_mono hr (Ne.symm e)) (hy.put (fun cs b=>hsel i o cs b ho) p3 _) ?_
      rw[Array.setIfInBounds_comm _ _ e,<-Act.put_comm a (V i) _ p2]
      exact hA g hg
    · have:o'=oj:=Option.some.inj (ho'.symm.trans hoj)
      subst this
      refine .inr ⟨hjm,o',ho',hy'.unput (fun cs b=>hsel j o' cs b ho') p1 (V i), ?_⟩
      refine ih og (done.setIfInBounds j true) _ (inv.set hj hjn) hap2 (ready_mono hr (Ne.symm e)) (hy.put (fun cs b=>hsel i o cs b ho) p3 _) ?_
      rw[Array.setIfInBounds_comm _ _ e,<-Act.put_comm a (V i) (V j) p2]
      exact hK
theorem runA_alloc{w0:World}{n m:Nat}{om:Oper}{V:Nat->Value}{L:Option Nat->Array Bool->Act->Prop}(hom:ops[m]? =some om)(hsel: ∀(j:Nat) (o:Oper) cs b,ops[j]? =some o->o.op≠.select cs b)
    (hs:Region.sinkB md ops n=true) (hc:Region.chainB md ops n=true) (hn:n<ops.size) (hmn:m<n) (hL: ∀og done a,L og done a->∀j∈Region.ready md ops done,n<=j) (f:Nat):
    ∀ (done : Array Bool) (a : Act), HeadInv md ops n done →
      (∀j oj,ops[j]? =some oj->j≠m->done.getD j true=false->(∀e∈oj.after,Region.binds md e=true->e.on≠m)->om.apart ops oj=true)->
      m∈Region.ready md ops done->(∀g,w0.heap.size<=g->runA P md ops w0 n m om.dst V L f (some g) (done.setIfInBounds m true) (a.put om.dst (.pointer (some ⟨g,0,none⟩))))->runA P md ops w0 n m om.dst V L (f+1) none done a:=by
  induction f with
  | zero=>
    intro done a inv _ hr H
    refine⟨fun e=>(by rw[e] at hr;cases hr),fun j hj=> ?_⟩
    have hjn:j<n:=Nat.lt_of_not_le fun hle=>tail_waits hs hc hn inv _ m rfl hmn (mem_ready.1 hr).1 j hle hj
    by_cases e:j=m
    · subst e;exact⟨hjn,.inl ⟨rfl,H⟩⟩
    · have:=hL _ _ _ (H _ (Nat.le_refl _)) j (ready_mono hj e);omega
  | succ f ih=>
    intro done a inv hap hr H
    have hun:=(mem_ready.1 hr).1
    refine⟨fun e=>(by rw[e] at hr;cases hr),fun j hj=> ?_⟩
    have hjn:j<n:=Nat.lt_of_not_le fun hle=>tail_waits hs hc hn inv _ m rfl hmn hun j hle hj
    refine⟨hjn, ?_⟩
    by_cases e:j=m
    · subst e;exact .inl ⟨rfl,H⟩
    obtain⟨hj1,oj,hoj,hj2⟩:=mem_ready.1 hj
    have hfree: ∀x∈oj.after,Region.binds md x=true->x.on≠m:=fun x hx hb hxi=>by
      have:=hj2 x hx hb
      rw[hxi,getD_both hun] at this
      cases this
    obtain⟨p1,p2,_⟩:=Oper.apart_spec (hap j oj hoj e hj1 hfree)
    have hap2: ∀k ok,ops[k]? =some ok->k≠m->(done.setIfInBounds j true).getD k true=false->(∀x∈ok.after,Region.binds md x=true->x.on≠m)->om.apart ops ok=true:=fun k ok hk hki hku hkf=>by
      refine hap k ok hk hki ?_ hkf
      by_cases hjk:j=k
      · subst hjk;exact hj1
      · rwa [getD_set_ne true hjk] at hku
    have hG: ∀g,w0.heap.size<=g->YieldsR P ops w0 oj (V j) (a.put om.dst (.pointer (some ⟨g,0,none⟩)))/\runA P md ops w0 n m om.dst V L f (some g) ((done.setIfInBounds m true).setIfInBounds j true) ((a.put om.dst (.pointer (some ⟨g,0,none⟩))).put oj.dst (V j)):=by
      intro g hg
      rcases((H g hg).2 j (ready_mono hj e)).2 with⟨h1,_⟩ | ⟨_,o',ho',hy',hK⟩
      · exact absurd h1 e
      · have:o'=oj:=Option.some.inj (ho'.symm.trans hoj)
        subst this
        exact⟨hy',hK⟩
    refine .inr ⟨e,oj,hoj,(hG _ (Nat.le_refl _)).1.unput (fun cs b=>hsel j oj cs b hoj) p1 _, ?_⟩
    refine ih (done.setIfInBounds j true) _ (inv.set hj hjn) hap2 (ready_mono hr (Ne.symm e)) fun g hg=> ?_
    rw[Array.setIfInBounds_comm _ _ e,<-Act.put_comm a _ (V j) p2]
    exact(hG g hg).2
def wpRel(P:Program)(ops:Array Oper)(w0:World)(Q:Act->Prop):List Oper->Act->Prop
 | [],a=>Q a
 | o::rest,a=> ∃v,YieldsR P ops w0 o v a/\wpRel P ops w0 Q rest (a.put o.dst v)
def wpV(P:Program)(ops:Array Oper)(w0:World)(V:Nat->Value)(Q:Act->Prop):List Nat->Act->Prop
 | [],a=>Q a
 | i::is,a=> ∃o,ops[i]? =some o/\YieldsR P ops w0 o (V i) a/\wpV P ops w0 V Q is (a.put o.dst (V i))
theorem wpV_congr{w0:World}{V V':Nat->Value}{Q:Act->Prop}: ∀(is:List Nat) (a:Act),(∀i∈is,V i=V' i)->wpV P ops w0 V Q is a->wpV P ops w0 V' Q is a
 | [],_,_,h=>h
 | i::is,a,hv,⟨o,h1,h2,h3⟩=>by
  have e:V i=V' i:=hv i (by simp)
  rw[e] at h2 h3
  exact⟨o,h1,h2,wpV_congr is _ (fun j hj=>hv j (by simp[hj])) h3⟩
theorem wpV_of_rel{w0:World}{Q:Act->Prop}: ∀(is:List Nat) (l:List Oper) (a:Act),is.map (fun i=>ops[i]?)=l.map some->is.Nodup->wpRel P ops w0 Q l a->∃V,wpV P ops w0 V Q is a
 | [],[],_,_,_,h=>⟨fun _=>undef,h⟩
 | [],_::_,_,hl,_,_=>by simp at hl
 | _::_,[],_,hl,_,_=>by simp at hl
 | i::is,o::l,a,hl,hnd,⟨v,hy,hK⟩=>by
  simp only[List.map_cons,List.cons.injEq] at hl
  rw[List.nodup_cons] at hnd
  obtain⟨V,hV⟩:=wpV_of_rel is l _ hl.2 hnd.2 hK
  refine⟨fun j=>if j=i then v else V j,o,hl.1, ?_, ?_⟩
  ·have e:(fun j=>if j=i then v else V j) i=v:=if_pos rfl
   rw[e];exact hy
  ·have e:(fun j=>if j=i then v else V j) i=v:=if_pos rfl
   rw[e]
   refine wpV_congr is _ (fun j hj=> ?_) hV
   show V j=if j=i then v else V j
   rw[if_neg (fun e:j=i=>hnd.1 (by rw[<-e];exact hj))]
theorem wpV_append{w0:World}{V:Nat->Value}{Q:Act->Prop}: ∀(is js:List Nat) (a:Act),wpV P ops w0 V Q (is++js) a->wpV P ops w0 V (wpV P ops w0 V Q js) is a
 | [],_,_,h=>h
 | _::is,js,_,⟨o,h1,h2,h3⟩=>⟨o,h1,h2,wpV_append is js _ h3⟩
def lexB2(md:Region.Mode)(ops:Array Oper)(n m g:Nat)(om:Oper):List Nat->Array Bool->Bool
 | [],done=>Region.seqB md ops g n done
 | i::is,done=>(Region.ready md ops done).contains i&&decide (i<n)&&decide (i≠m)&&Region.free md ops done i&&((ops[i]?).map fun o=>om.apart ops o).getD false&&lexB2 md ops n m g om is (done.setIfInBounds i true)
def lexA(md:Region.Mode)(ops:Array Oper)(n m g:Nat)(om:Oper)(js:List Nat):List Nat->Array Bool->Bool
 | [],done=>(Region.ready md ops done).contains m&&decide (m<n)&&Region.free md ops done m&&lexB2 md ops n m g om js (done.setIfInBounds m true)
 | i::is,done=>(Region.ready md ops done).contains i&&decide (i<n)&&decide (i≠m)&&Region.free md ops done i&&lexA md ops n m g om js is (done.setIfInBounds i true)
theorem runA_text2{w0:World}{n m g:Nat}{om:Oper}{V:Nat->Value}{L:Nat->Act->Prop}(hom:ops[m]? =some om)(hsel:Region.noSelect ops=true)(hs:Region.sinkB md ops n=true)(hc:Region.chainB md ops n=true)(hn:n<ops.size)(b:Nat)(is:List Nat):
    ∀ (done : Array Bool) (a : Act), HeadInv md ops n done → lexB2 md ops n m g om is done = true → wpV P ops w0 V (fun a' => L b (a'.put om.dst (.pointer (some ⟨b, 0, none⟩)))) is a →
      runA P md ops w0 n m om.dst V (fun og d a'=> ∃b,og=some b/\Region.seqB md ops g n d=true/\L b a') is.length (some b) done (a.put om.dst (.pointer (some ⟨b,0,none⟩))):=by
  induction is with
  | nil=>intro done a _ hB h;exact⟨b,rfl,hB,h⟩
  | cons i is ih=>
    intro done a inv hB ⟨o,h0,hy,hK⟩
    simp only[lexB2,Bool.and_eq_true,decide_eq_true_eq,h0,Option.map_some,Option.getD_some] at hB
    obtain⟨⟨⟨⟨⟨hr,hin⟩,him⟩,hf⟩,hap⟩,hB2⟩:=hB
    have hr2:i∈Region.ready md ops done:=by simpa using hr
    obtain⟨p1,p2,_⟩:=Oper.apart_spec hap
    refine runA_first hom h0 him (Region.noSelect_spec hsel) hs hc hn hin (fun og d a' ⟨_,hd⟩=>seqB_ready hd.2.1) is.length (some b) done _ inv (Region.free_spec h0 hf) hr2 (hy.put (fun cs b=>Region.noSelect_spec hsel i o cs b h0) p1 _) ?_
    rw[Act.put_comm a _ _ p2]
    exact ih _ _ (inv.set hr2 hin) hB2 hK
theorem runA_text{w0:World}{n m g:Nat}{om:Oper}{V:Nat->Value}{L:Nat->Act->Prop}(hom:ops[m]? =some om)(hsel:Region.noSelect ops=true)(hs:Region.sinkB md ops n=true)(hc:Region.chainB md ops n=true)(hn:n<ops.size)(js is:List Nat):
    ∀ (done : Array Bool) (a : Act), HeadInv md ops n done → lexA md ops n m g om js is done = true →
      wpV P ops w0 V (wpV P ops w0 V (fun a'=> ∀b,w0.heap.size<=b->L b (a'.put om.dst (.pointer (some ⟨b,0,none⟩)))) js) is a->
      runA P md ops w0 n m om.dst V (fun og d a'=> ∃b,og=some b/\Region.seqB md ops g n d=true/\L b a') (is.length+(js.length+1)) none done a:=by
  induction is with
  | nil=>
    intro done a inv hB h
    simp only[lexA,Bool.and_eq_true,decide_eq_true_eq] at hB
    obtain⟨⟨⟨hr,hmn⟩,hf⟩,hB2⟩:=hB
    have hr2:m∈Region.ready md ops done:=by simpa using hr
    rw[List.length_nil,Nat.zero_add]
    refine runA_alloc hom (Region.noSelect_spec hsel) hs hc hn hmn (fun og d a' ⟨_,hd⟩=>seqB_ready hd.2.1) js.length done a inv (Region.free_spec hom hf) hr2 fun b hb=> ?_
    refine runA_text2 hom hsel hs hc hn b js _ _ (inv.set hr2 hmn) hB2 ?_
    have hmono: ∀(is:List Nat) (a:Act),wpV P ops w0 V (fun a'=> ∀b,w0.heap.size<=b->L b (a'.put om.dst (.pointer (some ⟨b,0,none⟩)))) is a->wpV P ops w0 V (fun a'=>L b (a'.put om.dst (.pointer (some ⟨b,0,none⟩)))) is a:=by
      intro is
      induction is with
      | nil=>intro a h;exact h b hb
      | cons i is ih=>intro a ⟨o,h1,h2,h3⟩;exact⟨o,h1,h2,ih _ h3⟩
    exact hmono js a h
  | cons i is ih=>
    intro done a inv hB ⟨o,h0,hy,hK⟩
    simp only[lexA,Bool.and_eq_true,decide_eq_true_eq] at hB
    obtain⟨⟨⟨⟨hr,hin⟩,him⟩,hf⟩,hB2⟩:=hB
    have hr2:i∈Region.ready md ops done:=by simpa using hr
    rw[List.length_cons,Nat.add_right_comm]
    exact runA_first hom h0 him (Region.noSelect_spec hsel) hs hc hn hin (fun og d a' ⟨_,hd⟩=>seqB_ready hd.2.1) _ none done a inv (Region.free_spec h0 hf) hr2 hy (ih _ _ (inv.set hr2 hin) hB2 hK)
theorem wpRel_nil{w0:World}{Q:Act->Prop}{a:Act}(h:Q a):wpRel P ops w0 Q [] a:=h
theorem wpRel_step{w0:World}{Q:Act->Prop}{a af:Act}{o:Oper}{rest:List Oper}(k:Nat)(hd:o.dst=some k)(hk:k<a.tmps.size)
  (h: ∀os0:Array Obj,wpQuiet P ops (fun u=> ∃p:Regrown,u=grow (redrawn w0 p.d) (os0++p.os)) (fun b=>b=af) [o] a) (hr:wpRel P ops w0 Q rest af):wpRel P ops w0 Q (o::rest) a:=by
 have hput: ∀v,a.put o.dst v=af->v=af.tmps.getD k undef:=by
  intro v e
  rw[<-e,hd]
  simp[Act.put,hk]
 by_cases hw:Region.wanted o (yielded ops a.tmps)=true
 ·have h1:=h #[]
  unfold wpQuiet at h1
  rw[if_pos hw] at h1
  obtain⟨v,_,hv⟩:=h1
  have hv:a.put o.dst v=af:=hv
  refine⟨v,.inl ⟨hw,fun w hb=> ?_⟩,by rw[hv];exact hr⟩
  obtain⟨p,rfl⟩:=regrown_of_below hb
  have h2:=h p.os
  unfold wpQuiet at h2
  rw[if_pos hw] at h2
  obtain⟨v2,hq,hv2⟩:=h2
  have hv2:a.put o.dst v2=af:=hv2
  obtain rfl:v2=v:=(hput _ hv2).trans (hput _ hv).symm
  have h3:=hq (grow (redrawn w0 p.d) p.os) ⟨⟨p.d,#[]⟩,by simp⟩
  unfold Oper.quietAt at h3 ⊢
  generalize (execOp a.eval o).run P (grow (redrawn w0 p.d) p.os)=r at h3 ⊢
  have hcls: ∀u,(∃q:Regrown,u=grow (redrawn w0 q.d) (p.os++q.os))->Below (grow (redrawn w0 p.d) p.os).heap.size (grow (redrawn w0 p.d) p.os) u:=by
   rintro u ⟨q,rfl⟩
   refine⟨rfl,rfl,rfl,by simp[grow,redrawn],fun k hk=> ?_⟩
   simp[grow,redrawn] at hk ⊢
   rw[<-Array.append_assoc,Array.getElem?_append_left (by simpa using hk)]
  cases r with
  | ok n w'=>
   cases n<;>simp only[Oper.quietUpon] at h3 ⊢
   case enter f args=>exact⟨h3.1,h3.2.mono fun e u ⟨he,hu⟩=>⟨he,hcls u hu⟩⟩
   all_goals exact h3
  | halt x w'=>simp only[Oper.quietUpon] at h3
 ·have h1:=h #[]
  unfold wpQuiet at h1
  rw[if_neg hw] at h1
  have hv:a.put o.dst undef=af:=h1
  exact⟨undef,.inr ⟨by simpa using hw,rfl⟩,by rw[hv];exact hr⟩
end
theorem Calls.regrown2_of{P:Program}{f:FuncId}{args:Array Value}{w:World}{d:Nat}{os0 os:Array Obj}{v:Value}
  (h:Calls P f args (grow (redrawn w d) (os0++os)) fun e w'=>e=.returned v/\Below (grow (redrawn w d) (os0++os)).heap.size (grow (redrawn w d) (os0++os)) w'):Calls P f args (grow (redrawn w d) (os0++os)) fun e u=>e=.returned v/\∃p:Regrown,u=grow (redrawn w p.d) (os0++p.os):=
 h.mono fun e u ⟨he,hb⟩=>by
  refine⟨he, ?_⟩
  have h1:Below (grow (redrawn w d) os0).heap.size (grow (redrawn w d) os0) u:=by
   refine⟨hb.os,hb.tape,hb.output,Nat.le_trans (by simp[grow,redrawn]) hb.size,fun k hk=> ?_⟩
   rw[hb.block k (Nat.lt_of_lt_of_le hk (by simp[grow,redrawn]))]
   simp[grow,redrawn] at hk ⊢
   rw[<-Array.append_assoc,Array.getElem?_append_left (by simpa using hk)]
  obtain⟨p,hp⟩:=regrown_of_below h1
  refine⟨⟨p.d,p.os⟩, ?_⟩
  rw[hp]
  simp[grow,redrawn,Array.append_assoc]
theorem wp_region_alloc_tail{P:Program}{id:Nat}{Q:Exit->Act->World->Prop}{a:Act}{w:World}{l:List Oper}(m k:Nat){om:Oper}{t:TypeId}{cs:Array Value}(hm:P.follows .mixedOrders=true)(hom:l[m]? =some om)(hwm: ∀y,Region.wanted om y=true)
  (hrun: ∀(a:Act) (w:World),(execOp a.eval om).run P w=.ok (.value (.pointer (some ⟨w.heap.size,0,none⟩))) (w.alloc (.cells cs t)))
  (hB:(Region.noSelect l.toArray&&decide (m+1+k<l.length)&&Region.sinkB .any l.toArray (m+1+k)&&Region.chainB .any l.toArray (m+1+k)&&lexA .any l.toArray (m+1+k) m (l.length-(m+1+k)) om (List.range' (m+1) k) (List.range m) (Array.replicate l.length false))=true)
  (h:wpRel P l.toArray w (fun a'=> ∀b,w.heap.size<=b->∀w',Below w.heap.size w w'->Blk w' b t cs->wpList P l.toArray Q (l.drop (m+1+k)) (a'.put om.dst (.pointer (some ⟨b,0,none⟩))) w') (l.take m++(l.drop (m+1)).take k) a):(Code.region id l.toArray true).wp P Q a w:=by
 simp only[Bool.and_eq_true,decide_eq_true_eq] at hB
 obtain⟨⟨⟨⟨hsel,hn⟩,hs⟩,hc⟩,hlex⟩:=hB
 have hom2:l.toArray[m]? =some om:=by simpa using hom
 have hn2:m+1+k<l.toArray.size:=by simpa using hn
 have inv:HeadInv .any l.toArray (m+1+k) (Array.replicate l.length false):=
  ⟨by simp,fun j oj _ hl=>(by rw[getD_replicate_false] at hl;cases hl),fun t _ ht=>getD_in (by simpa using ht) (getD_replicate_false _ _)⟩
 have hmap:(List.range m++List.range' (m+1) k).map (fun i=>l.toArray[i]?)=(l.take m++(l.drop (m+1)).take k).map some:=by
  rw[List.map_append,List.map_append]
  congr 1
  ·apply List.ext_getElem?
   intro i
   by_cases hi:i<m
   ·have hil:i<l.length:=by omega
    simp[hi,hil]
   ·simp[hi]
    omega
  ·apply List.ext_getElem?
   intro i
   by_cases hi:i<k
   ·have hil:m+1+i<l.length:=by omega
    simp[hi,hil]
   ·simp[hi]
    omega
 have hnd:(List.range m++List.range' (m+1) k).Nodup:=by
  rw[List.nodup_append]
  refine⟨List.nodup_range,List.nodup_range',fun x hx y hy=> ?_⟩
  rw[List.mem_range] at hx
  rw[List.mem_range'_1] at hy
  omega
 obtain⟨V,hV⟩:=wpV_of_rel _ _ a hmap hnd h
 have H:=runA_text (P:=P) (w0:=w) (md:=.any) (V:=V) (L:=fun b a'=> ∀w',Below w.heap.size w w'->Blk w' b t cs->wpList P l.toArray Q (l.drop (m+1+k)) a' w') (g:=l.length-(m+1+k)) hom2 hsel hs hc hn2 _ _ _ a inv hlex (wpV_append _ _ _ hV)
 refine wp_region_any hm ?_
 have hdl:(l.drop (m+1+k)).length=l.length-(m+1+k):=by simp
 have:=runA_any (w0:=w) (V:=V) (L:=fun og d a'=> ∃b,og=some b/\Region.seqB .any l.toArray (l.length-(m+1+k)) (m+1+k) d=true/\∀w',Below w.heap.size w w'->Blk w' b t cs->wpList P l.toArray Q (l.drop (m+1+k)) a' w') (Q:=Q) (g0:=l.length-(m+1+k)) hom2 hwm hrun (fun og done a' w' hw' hg hL=>by
  obtain⟨b,rfl,hsq,hL⟩:=hL
  have:=wpAny_of_seq (md:=.any) (Q':=Q) (l.drop (m+1+k)) (m+1+k) done a' _ (fun j=>by simp[List.getElem?_drop]) (by rw[hdl];exact hsq) (hL w' hw' (hg b rfl))
  rwa [hdl] at this) _ none _ a {w with drawn:=w.drawn+1} ⟨rfl,rfl,rfl,Nat.le_refl _,fun _ _=>rfl⟩ (fun g e=>by cases e) H
 rw[List.length_range,List.length_range',show m+(k+1)+(l.length-(m+1+k))=l.toArray.size by simp;omega] at this
 exact this
end Go.Proofs.YtlhfickniegooaaDoor
