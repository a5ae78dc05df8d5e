/-
   Written by an AI agent.
-/
import Derived.Test.YtlhfickniegooaaDoorPk15
import Derived.RangeFuncNested
import Derived.Test.YtlhfickniegooaaDoorPk13
import Derived.Maps.AppendAt
namespace Go.Proofs.YtlhfickniegooaaDoor
open Go.RowKit
set_option maxRecDepth 100000
def Step{σ:Type}(own:σ->Nat->Prop)(st st':σ)(Hd:Nat->Prop)(W W':World):Prop:=Moved (fun b=>own st b\/Hd b) W W'/\∀b,own st' b->own st b\/Hd b\/W.heap.size<=b
def SeqZ{α σ:Type}(P:Program)(g:Nat)(lb:Array Value)(encs:α->Array Value)(M:σ->List α->World->Prop)(Y:σ->List α->α->(Nat->Prop)->World->Prop)(E:σ->List α->World->Prop)(w:World):Prop:=
  ∀ (own : σ → Nat → Prop) (l : Nat) (J Jx : σ → List α → World → Prop) (st0 : σ) (W : World), Below w.heap.size w W → (∀ st s A C, J st s A → Below A.heap.size A C → J st s C) → (∀ st s A C, Jx st s A → Below A.heap.size A C → Jx st s C) → (∀ st s A, J st s A → M st s A) → (∀ st s A, J st s A → ∀ b, own st b → b < A.heap.size) →
    (∀st pre x Hd W1,J st pre W1->Y st pre x Hd W1->(∀b,Hd b->¬own st b/\b<W1.heap.size)->YieldAt Fence.wide 7 P l (encs x) W1 fun e W'=> ∃st',((e=.returned (.bool true)/\J st' (pre++[x]) W')\/(e=.returned (.bool false)/\Jx st' (pre++[x]) W'))/\Step own st st' Hd W1 W')->
    J st0 [] W->
    CallsIn Fence.wide 8 P g (#[.func (.yield l) #[] #[]]++lb) W fun e W'=>(∃v,e=.returned v)/\((∃st xs,E st xs W'/\J st xs W')\/(∃st pre,Jx st pre W'))
def postZ{α σ:Type}(own:σ->Nat->Prop)(B:Nat)(I:σ->List α->World->Prop)(Ix:Code->σ->List α->World->Prop)(st:σ)(Hd:Nat->Prop)(xs:List α)(W:World):Exit->Act->World->Prop
 | .normal,_,W'=>KeepsFrom B W W'/\∃st',I st' xs W'/\Step own st st' Hd W W'
 | .ret,_,W'=>KeepsFrom B W W'/\∃st',Ix .ret st' xs W'/\Step own st st' Hd W W'
 | .exit id,_,W'=>KeepsFrom B W W'/\∃st',Ix (.exit id) st' xs W'/\Step own st st' Hd W W'
 | .goto t,_,W'=>KeepsFrom B W W'/\∃st',Ix (.goto t) st' xs W'/\Step own st st' Hd W W'
 | .panic _,_,_=>False
 | .outgrown,_,_=>False
set_option maxHeartbeats 1000000 in
theorem range_z{P:Program}{α σ:Type}{g:Operand}{ps:Array Tmp}{assign body:Code}{Q:Exit->Act->World->Prop}{a:Act}{w w0:World}{gf:Nat}{lb:Array Value}(hg:a.eval g=.func (.func gf) #[] lb)(eg: ∀args w,(callFunc gf args).run P w=.ok (.enter gf args) w)
  {encs:α->Array Value} {M:σ->List α->World->Prop} {Y:σ->List α->α->(Nat->Prop)->World->Prop} {E:σ->List α->World->Prop} (hseq:SeqZ P gf lb encs M Y E w0) (hb0:Below w0.heap.size w0 w) (hps: ∀x,(encs x).size=ps.size)
  (own:σ->Nat->Prop) (I:σ->List α->World->Prop) (Ix:Code->σ->List α->World->Prop) (hI: ∀st s A C,I st s A->Ext w.heap.size A C->I st s C) (hIx: ∀c st s A C,Ix c st s A->Ext w.heap.size A C->Ix c st s C) (hM: ∀st s A,I st s A->M st s A) (hO: ∀st s A,I st s A->∀b,own st b->b<A.heap.size)
  (hY: ∀st s x Hd A C,Y st s x Hd A->Ext w.heap.size A C->Y st s x Hd C) (st0:σ) (h0:I st0 [] w) (Ax:σ->α->(Nat->Prop)->Act->World->Prop) (hAx: ∀st x Hd a' A C,Ax st x Hd a' A->Ext w.heap.size A C->Ax st x Hd a' C)
  (hassign: ∀(l:Nat) (st:σ) (pre:List α) (x:α) (Hd:Nat->Prop) (W:World) (K:Act->World->Prop),I st pre W->Y st pre x Hd W->(∀b,Hd b->¬own st b/\b<W.heap.size)->(∀a' W',Below W.heap.size W W'->Ax st x Hd a' W'->K a' W')->
   assign.wpIn (rounds l) 7 P (Exit.then K (fun _ _ _=>False)) {tmps:=(ps.zip (encs x)).foldl (fun t (p,v)=>t.setIfInBounds p v) a.tmps,defers:=[]} W)
  (hbody: ∀(l:Nat) (st:σ) (pre:List α) (x:α) (Hd:Nat->Prop) (a':Act) (W:World),I st pre W->Y st pre x Hd W->(∀b,Hd b->¬own st b/\b<W.heap.size)->Ax st x Hd a' W->body.wpIn (rounds l) 7 P (postZ own w.heap.size I Ix st Hd (pre++[x]) W) a' W)
  (hdone: ∀(st:σ) (xs:List α) (W:World),E st xs W->I st xs W->W.heap[w.heap.size]? =some (.deferred (some []))->Q .normal {a with defers:={target:=.collected w.heap.size,args:=#[]}::a.defers} W)
  (hstop: ∀(c:Code) (st:σ) (pre:List α) (W:World),Ix c st pre W->W.heap[w.heap.size]? =some (.deferred (some []))->c.wp P Q {a with defers:={target:=.collected w.heap.size,args:=#[]}::a.defers} W)
  (hE: ∀st s A C,E st s A->Ext w.heap.size A C->E st s C):
  (Code.rangeFunc g ps assign body).wp P Q a w:=by
 refine(wpIn_wide (n:=9)).1 (wpIn_rangeFunc ?_)
 intro fn hfn
 obtain⟨rec,hrec⟩: ∃rec:LoopState->Option Code->Loop,rec=fun st pe=>{state:=st,pending:=pe,fn,tmps:=a.tmps,params:=ps,assign,body,defers:=w.heap.size}:=⟨_,rfl⟩
 obtain⟨W1,hW1⟩: ∃W1,(w.alloc (.deferred (some []))).alloc (.loop (rec .ready none))=W1:=⟨_,rfl⟩
 have hL1:W1.heap[w.heap.size+1]? =some (.loop (rec .ready none)):=by
  rw[<-hW1];have:=World.alloc_heap_new (w.alloc (.deferred (some []))) (.loop (rec .ready none));rwa [World.size_alloc] at this
 have hK1:W1.heap[w.heap.size]? =some (.deferred (some [])):=by
  rw[<-hW1];exact(Below.heap_alloc _ _ _ (by simp)).trans (World.alloc_heap_new w _)
 have hbW:Below w.heap.size w W1:=by
  rw[<-hW1];exact bl_alloc (bl_alloc (Below.refl _ w) _) _
 have hI1:I st0 [] W1:=hI _ _ _ _ h0 (Ext.of_below hbW (Nat.le_refl _))
 have hb1:Below w0.heap.size w0 W1:=bl_trans hb0 hbW
 refine⟨w.heap.size+1,[{target:=.collected w.heap.size,args:=#[]}],W1,{target:=.fn (.func gf) lb,args:=#[.func (.yield (w.heap.size+1)) #[] #[]]},W1,gf,
  #[.func (.yield (w.heap.size+1)) #[] #[]]++lb,W1, ?_, ?_, ?_, ?_,(fun h=>by cases h), ?_⟩
 ·rw[<-hW1,hrec];exact run_enterLoop_outer _ _ _ _ _
 ·simp only[resolve,hg]
  simp[go_sem]
 ·intro f' hf';trivial
 ·simp[invoke,go_sem,eg]
 ·refine(hseq (fun st b=>own st b\/b=w.heap.size\/b=w.heap.size+1) (w.heap.size+1)
   (fun st pre W=>I st pre W/\W.heap[w.heap.size+1]? =some (.loop (rec .ready none))/\W.heap[w.heap.size]? =some (.deferred (some [])))
   (fun st pre W=> ∃c,Ix c st pre W/\W.heap[w.heap.size+1]? =some (.loop (rec .done (some c)))/\W.heap[w.heap.size]? =some (.deferred (some [])))
   st0 W1 hb1
   (fun st s A C hs hb=>⟨hI _ _ _ _ hs.1 (Ext.of_below hb (by have:=(Array.getElem?_eq_some_iff.1 hs.2.2).1;omega)),(hb.block _ (Array.getElem?_eq_some_iff.1 hs.2.1).1).trans hs.2.1,(hb.block _ (Array.getElem?_eq_some_iff.1 hs.2.2).1).trans hs.2.2⟩)
   (fun st s A C hs hb=>by
    obtain⟨c,hc,hl,hk⟩:=hs
    exact⟨c,hIx _ _ _ _ _ hc (Ext.of_below hb (by have:=(Array.getElem?_eq_some_iff.1 hk).1;omega)),(hb.block _ (Array.getElem?_eq_some_iff.1 hl).1).trans hl,(hb.block _ (Array.getElem?_eq_some_iff.1 hk).1).trans hk⟩)
   (fun st s A hs=>hM _ _ _ hs.1) (fun st s A hs b hb=>by
    rcases hb with hb | rfl | rfl
    ·exact hO _ _ _ hs.1 b hb
    ·exact(Array.getElem?_eq_some_iff.1 hs.2.2).1
    ·exact(Array.getElem?_eq_some_iff.1 hs.2.1).1) ?_ ⟨hI1,hL1,hK1⟩).mono ?_
  ·rintro st pre x Hd W ⟨hi,hl,hk⟩ hyx hHd
   have hHd': ∀b,Hd b->¬own st b/\b<W.heap.size:=fun b hb=>⟨fun h=>(hHd b hb).1 (.inl h),(hHd b hb).2⟩
   have hlt:w.heap.size+1<W.heap.size:=(Array.getElem?_eq_some_iff.1 hl).1
   have hy:=run_yield (P:=P) (args:=encs x) hl (by rw[hrec];exact hps x)
   rw[hrec] at hy
   refine⟨fn,_,assign,body,hy,roundIn_of_wpIn hfn (hassign _ st pre x Hd W _ hi hyx hHd' ?_)⟩
   clear hy
   intro a' Wa hbfa hax
   have hkfa:KeepsFrom w.heap.size W Wa:=KeepsFrom.below hbfa
   have hxa:Ext w.heap.size W Wa:=Ext.of_below hbfa (by omega)
   have hia:=hI _ _ _ _ hi hxa
   have hya:=hY _ _ _ _ _ _ hyx hxa
   have hl':=hkfa.same _ _ (by omega) hl rfl
   have hk':=hkfa.same _ _ (Nat.le_refl _) hk rfl
   have hlt':w.heap.size+1<Wa.heap.size:=(Array.getElem?_eq_some_iff.1 hl').1
   refine⟨_,run_beginRound hl' (by rw[hrec]), ?_⟩
   have hl2:(Wa.putObj (w.heap.size+1) (.loop {rec .ready none with state:=.busy})).heap[w.heap.size+1]? =some (.loop {rec .ready none with state:=.busy}):=World.putObj_heap_same hlt'
   have hk2:(Wa.putObj (w.heap.size+1) (.loop {rec .ready none with state:=.busy})).heap[w.heap.size]? =some (.deferred (some [])):=(World.putObj_heap_other (by omega)).trans hk'
   have hx2:Ext w.heap.size Wa (Wa.putObj (w.heap.size+1) (.loop {rec .ready none with state:=.busy})):=Ext.put _ hl' rfl (by omega)
   refine wpIn_mono (hbody _ st pre x Hd a' _ (hI _ _ _ _ hia hx2) (hY _ _ _ _ _ _ hya hx2) (fun b hb=>⟨(hHd' b hb).1,by rw[World.putObj_size];have:=(hHd' b hb).2;have:=hbfa.size;omega⟩) (hAx _ _ _ _ _ _ hax hx2)) ?_
   have fin: ∀(jump:Option Code) (W3:World),KeepsFrom w.heap.size (Wa.putObj (w.heap.size+1) (.loop {rec .ready none with state:=.busy})) W3->
     (Instr.endRound (w.heap.size+1) jump).run P W3=.ok (.bool jump.isNone) (W3.putObj (w.heap.size+1) (.loop (rec (if jump.isNone then .ready else .done) jump)))/\
     W3.heap[w.heap.size+1]? =some (.loop {rec .ready none with state:=.busy})/\
     (W3.putObj (w.heap.size+1) (.loop (rec (if jump.isNone then .ready else .done) jump))).heap[w.heap.size+1]? =some (.loop (rec (if jump.isNone then .ready else .done) jump))/\
     (W3.putObj (w.heap.size+1) (.loop (rec (if jump.isNone then .ready else .done) jump))).heap[w.heap.size]? =some (.deferred (some [])):=fun jump W3 hk3=>by
    have hl3:=hk3.same _ _ (by omega) hl2 rfl
    have:=run_endRound (P:=P) jump hl3
    rw[hrec] at this ⊢
    exact⟨this,by rw[hrec] at hl3;exact hl3,World.putObj_heap_same (Array.getElem?_eq_some_iff.1 hl3).1,(World.putObj_heap_other (by omega)).trans (hk3.same _ _ (Nat.le_refl _) hk2 rfl)⟩
   have stp: ∀(st':σ) (o:Obj) (W3:World),Step own st st' Hd (Wa.putObj (w.heap.size+1) (.loop {rec .ready none with state:=.busy})) W3->Step (fun st b=>own st b\/b=w.heap.size\/b=w.heap.size+1) st st' Hd W (W3.putObj (w.heap.size+1) o):=fun st' o W3 hs=>by
    obtain⟨hs1,hs2⟩:=hs
    have z1:=hs1.size
    rw[World.putObj_size] at z1
    have z2:=hbfa.size
    refine⟨⟨by rw[World.putObj_size];omega,hs1.os.trans hbfa.os,hs1.tape.trans hbfa.tape,hs1.output.trans hbfa.output,fun b hb hn=> ?_⟩,fun b hb=> ?_⟩
    ·have hne:b≠w.heap.size+1:=fun e=>hn (.inl (.inr (.inr e)))
     refine(World.putObj_heap_other hne).trans ((hs1.block b (by rw[World.putObj_size];omega) (fun h=>hn (h.imp_left .inl))).trans ((World.putObj_heap_other hne).trans (hbfa.block b hb)))
    ·rcases hb with hb | hb
     ·rcases hs2 b hb with h | h | h
      ·exact .inl (.inl h)
      ·exact .inr (.inl h)
      ·rw[World.putObj_size] at h
       exact .inr (.inr (by omega))
     ·exact .inl (.inr hb)
   rintro e a3 W3 hp
   cases e with
   | normal=>
    obtain⟨hk3,st',hi3,hst⟩:=hp
    obtain⟨hr,hl3,hl4,hk4⟩:=fin none W3 hk3
    exact⟨_,_,hr,st',.inl ⟨rfl,hI _ _ _ _ hi3 (Ext.put _ hl3 rfl (by omega)),hl4,hk4⟩,stp _ _ _ hst⟩
   | ret=>
    obtain⟨hk3,st',hi3,hst⟩:=hp
    obtain⟨hr,hl3,hl4,hk4⟩:=fin (some .ret) W3 hk3
    exact⟨_,_,hr,st',.inr ⟨rfl,.ret,hIx _ _ _ _ _ hi3 (Ext.put _ hl3 rfl (by omega)),hl4,hk4⟩,stp _ _ _ hst⟩
   | exit id=>
    obtain⟨hk3,st',hi3,hst⟩:=hp
    obtain⟨hr,hl3,hl4,hk4⟩:=fin (some (.exit id)) W3 hk3
    exact⟨_,_,hr,st',.inr ⟨rfl,.exit id,hIx _ _ _ _ _ hi3 (Ext.put _ hl3 rfl (by omega)),hl4,hk4⟩,stp _ _ _ hst⟩
   | goto t=>
    obtain⟨hk3,st',hi3,hst⟩:=hp
    obtain⟨hr,hl3,hl4,hk4⟩:=fin (some (.goto t)) W3 hk3
    exact⟨_,_,hr,st',.inr ⟨rfl,.goto t,hIx _ _ _ _ _ hi3 (Ext.put _ hl3 rfl (by omega)),hl4,hk4⟩,stp _ _ _ hst⟩
   | panic ch=>exact hp.elim
   | outgrown=>exact hp.elim
  ·rintro e W2 ⟨⟨v,rfl⟩,(⟨st,xs,hS,hi,hl,hk⟩ | ⟨st,pre,c,hi,hl,hk⟩)⟩
   ·have hx:=Ext.put (B:=w.heap.size) (.loop {rec .ready none with state:=.exhausted}) hl rfl (by omega)
    exact⟨none,_,by have:=run_endLoop (P:=P) hl (by rw[hrec];simp);rw[hrec] at this hx ⊢;exact this,hdone st xs _ (hE _ _ _ _ hS hx) (hI _ _ _ _ hi hx) ((World.putObj_heap_other (by omega)).trans hk)⟩
   ·have hx:=Ext.put (B:=w.heap.size) (.loop {rec .done (some c) with state:=.exhausted}) hl rfl (by omega)
    exact⟨some c,_,by have:=run_endLoop (P:=P) hl (by rw[hrec];simp);rw[hrec] at this hx ⊢;exact this,wpIn_wide.2 (hstop c st pre _ (hIx _ _ _ _ _ hi hx) ((World.putObj_heap_other (by omega)).trans hk))⟩
end Go.Proofs.YtlhfickniegooaaDoor

namespace Go.Proofs.YtlhfickniegooaaDoor
open Go.RowKit
set_option maxRecDepth 100000
theorem Cel.ext{B:Nat}{w w':World}{g:Nat}(e:Ext B w w')(h:Cel w g):Cel w' g:=let⟨t,cs,h⟩:=h;⟨t,cs,e.cells _ _ _ _ h⟩
theorem SepF.ext{B:Nat}{w w':World}(e:Ext B w w'): ∀(f:Fo) (lo hi b o:Nat),SepF w lo hi b o f->SepF w' lo hi b o f
 | .nil,_,_,_,_,_=>trivial
 | .cons h k r,lo,hi,b,o,⟨m,pa,pc,ia,ic,hm,hc,⟨q1,q2,h1,h2,h3,h4,h5⟩,h6⟩=>by
  refine⟨m,pa,pc,ia,ic,hm,fun j v hv=>cell_ext e (hc j v hv),⟨q1,q2,h1,h2,h3,(h4.ext e).wider (fun x hx=>⟨hx.1,hx.2.1,hx.2.2.1,hx.2.2.2.ext e⟩), ?_⟩,SepF.ext e r m hi b (o+11) h6⟩
  rcases h5 with h5 | ⟨b',o',e',g1,g2,g3,g4⟩
  ·exact .inl h5
  ·exact .inr ⟨b',o',e',g1,g2,g3.ext e,SepF.ext e k (b'+1) q2 b' o' g4⟩
theorem PRow.ext{n0:Nat}{w w':World}{S:Nat->Prop}{pa:Option Addr}{n pc:Nat}(h:PRow w S pa n pc)(e:Ext n0 w w'):PRow w' S pa n pc:=by
 rcases h with h | ⟨h1,h2,h3,g,cs,h4,h5,h6,h7⟩
 ·exact .inl h
 ·exact .inr ⟨h1,h2,h3,g,cs,h4,h5,e.cells _ _ _ _ h6,h7⟩
theorem IRow.ext{n0:Nat}{w w':World}{S:Nat->Prop}{ia:Option Addr}{n ic:Nat}(h:IRow w S ia n ic)(e:Ext n0 w w'):IRow w' S ia n ic:=by
 rcases h with⟨h0,h | ⟨h3,g,cs,h4,h5,h6,h7⟩⟩
 ·exact⟨h0,.inl h⟩
 ·exact⟨h0,.inr ⟨h3,g,cs,h4,h5,e.cells _ _ _ _ h6,h7⟩⟩
theorem RowsF.ext{n0:Nat}{w w':World}{S:Nat->Prop}(e:Ext n0 w w'): ∀(f:Fo) (b o:Nat),RowsF w S b o f->RowsF w' S b o f
 | .nil,_,_,_=>trivial
 | .cons h k r,b,o,⟨⟨pa,pc,ia,ic,h1,h2,h3,h4⟩,h5⟩=>by
  refine⟨⟨pa,pc,ia,ic,fun j v hv=>cell_ext e (h1 j v hv),h2.ext e,h3.ext e, ?_⟩,RowsF.ext e r b (o+11) h5⟩
  rcases h4 with h4 | ⟨b',e',hs,h4⟩
  ·exact .inl h4
  ·exact .inr ⟨b',e',hs,RowsF.ext e k b' 0 h4⟩
theorem RowsD.ext{n0:Nat}{w w':World}{S:Nat->Prop}{h:Hd}{k:Fo}{m:Dm}(d:RowsD w S h k m)(e:Ext n0 w w'):RowsD w' S h k m:=by
 refine⟨d.1.ext e,d.2.1.ext e, ?_⟩
 rcases d.2.2 with h4 | ⟨b',e',hs,h4⟩
 ·exact .inl h4
 ·exact .inr ⟨b',e',hs,RowsF.ext e k b' 0 h4⟩
theorem Dt.sep.ext{B:Nat}{w w':World}{d:Dt}{lo hi:Nat}{m:Dm}(h:d.sep w lo hi m)(e:Ext B w w'):d.sep w' lo hi m:=by
 obtain⟨h0,⟨q1,q2,h1,h2,h3,h4,h5⟩,hr⟩:=h
 refine⟨h0.ext e,⟨q1,q2,h1,h2,h3,(h4.ext e).wider (fun x hx=>⟨hx.1,hx.2.1,hx.2.2.1,hx.2.2.2.ext e⟩), ?_⟩,hr.ext e⟩
 rcases h5 with h5 | ⟨b',o',e',g1,g2,g3,g4⟩
 ·exact .inl h5
 ·exact .inr ⟨b',o',e',g1,g2,g3.ext e,SepF.ext e d.k (b'+1) q2 b' o' g4⟩
structure Pr where
 e:En
 dk:Dm
 dv:Dm
 lo:Nat
 mid:Nat
 hi:Nat
abbrev pairT:TypeId:=89
def prA(k v:Dt)(mk mv:Dm)(own:Bool):Array Value:=⟨[.int .i64 k.h.kind,.string k.h.type,.int .i64 k.h.n,.int .u64 k.h.f,.string k.h.s,.int .i64 k.h.obj,.int .i64 k.h.frm,.int .i64 k.h.len,.int .i64 k.h.cap,.slice mk.pa k.h.path.length mk.pc,.slice mk.ia k.k.len mk.ic,
 .int .i64 v.h.kind,.string v.h.type,.int .i64 v.h.n,.int .u64 v.h.f,.string v.h.s,.int .i64 v.h.obj,.int .i64 v.h.frm,.int .i64 v.h.len,.int .i64 v.h.cap,.slice mv.pa v.h.path.length mv.pc,.slice mv.ia v.k.len mv.ic,.bool own]⟩
def Pr.cs(p:Pr):Array Value:=prA p.e.key p.e.val p.dk p.dv p.e.own
structure Pr.at (p:Pr) (w:World):Prop where
 key:p.e.key.sep w p.lo p.mid p.dk
 val:p.e.val.sep w p.mid p.hi p.dv
 le1:p.lo<=p.mid
 le2:p.mid<=p.hi
 lt:p.hi<=w.heap.size
structure PairsAt (w:World) (B:Nat) (s:S3) (Q:List Pr):Prop where
 row:w.ownsRow B pairT 23 s.v Q.length (Q.flatMap fun p=>p.cs.toList)
 num:s.n=Q.length
 dat: ∀p∈Q,p.at w/\B<=p.lo/\∀g,s.v.ownBlock=some g->¬(p.lo<=g/\g<p.hi)
 sep:Q.Pairwise fun p q=>p.hi<=q.lo
theorem PairsAt.nil(w:World)(B:Nat):PairsAt w B ⟨none,0,0⟩ []:=⟨World.ownsRow_nil _ _ _ _,rfl,(fun _ h=>by cases h),List.Pairwise.nil⟩
theorem row_ext{n0:Nat}{w w':World}{B sz n:Nat}{t:TypeId}{v:Value}{xs:List Value}(h:w.ownsRow B t sz v n xs)(e:Ext n0 w w'):w'.ownsRow B t sz v n xs:=by
 refine⟨h.1, ?_⟩
 rcases h.2 with h0 | ⟨g,cap,cur,rfl,hB,hh,h1⟩
 ·exact .inl h0
 ·exact .inr ⟨g,cap,cur,rfl,hB,e.cells _ _ _ _ hh,h1⟩
theorem row_below{w w':World}{B sz n:Nat}{t:TypeId}{v:Value}{xs:List Value}(h:w.ownsRow B t sz v n xs)(hb:Below w.heap.size w w'):w'.ownsRow B t sz v n xs:=row_ext h (Ext.of_below (B:=0) hb (Nat.zero_le _))
theorem PairsAt.ext{n0:Nat}{w w':World}{B:Nat}{s:S3}{Q:List Pr}(h:PairsAt w B s Q)(e:Ext n0 w w'):PairsAt w' B s Q:=
 ⟨row_ext h.row e,h.num,fun p hp=>let⟨q1,q2⟩:=h.dat p hp;⟨⟨q1.key.ext e,q1.val.ext e,q1.le1,q1.le2,Nat.le_trans q1.lt e.size⟩,q2⟩,h.sep⟩
theorem row_block{w:World}{B sz n:Nat}{t:TypeId}{v:Value}{xs:List Value}(h:w.ownsRow B t sz v n xs){g:Nat}(hg:v.ownBlock=some g):B<=g/\g<w.heap.size:=by
 rcases h.2 with⟨rfl,_⟩ | ⟨g',cap,cur,rfl,hB,hh,_⟩
 ·cases hg
 ·injection hg with hg
  have hg:g'=g:=hg
  subst hg
  exact⟨hB,(Array.getElem?_eq_some_iff.1 hh).1⟩
theorem pair_info:(Tryd.prog.info? pairT).map (fun i=>(i.size,decide (i.bytes<=400),i.zero.map (·.cells.size)))=some (23,true,some 23):=by kernel_rfl
theorem prA_one(k v:Dt)(mk mv:Dm)(own:Bool): ∀u∈(prA k v mk mv own).toList,u.oneCell'=true:=by
 intro u hu
 simp only[prA,List.mem_cons,List.not_mem_nil,or_false] at hu
 rcases hu with rfl | rfl | rfl | rfl | rfl | rfl | rfl | rfl | rfl | rfl | rfl | rfl | rfl | rfl | rfl | rfl | rfl | rfl | rfl | rfl | rfl | rfl | rfl<;>rfl
def AppC(B n:Nat)(s:S3)(xs:List Value)(wa:World)(s':S3)(w':World):Prop:= ∃news:List Value,news.length=23/\(∀j u,news[j]? =some u->wa.cell? ⟨wa.heap.size-1,j,none⟩=some u)/\w'.ownsRow B pairT 23 s'.v (n+1) (xs++news)/\wa.grownBy w' s.v.ownBlock/\s'.n=n+1/\(s'.v.ownBlock=s.v.ownBlock\/s'.v.ownBlock=some wa.heap.size)
theorem app_pair{w:World}{B n:Nat}{s:S3}{xs:List Value}(h:w.ownsRow B pairT 23 s.v n xs)(hB:B<=w.heap.size)(hn:n<=300000000000)(k v:Dt)(mk mv:Dm)(own:Bool)(ty:TypeId):
  ∃s' w',(Builtin.append_ #[86,86] ty #[s.v,.slice (some ⟨w.heap.size,0,none⟩) 1 1]).run Tryd.prog (w.alloc (.cells (prA k v mk mv own) pairT))=.ok (S3.v s') w'/\AppC B n s xs (w.alloc (.cells (prA k v mk mv own) pairT)) s' w':=by
 obtain⟨i,hi,hz⟩:=Option.map_eq_some_iff.1 pair_info
 injection hz with hz0 hz
 injection hz with hz1 hz2
 obtain⟨z,hzz,hzs⟩:=Option.map_eq_some_iff.1 hz2
 have hb:i.bytes<=400:=by simpa using hz1
 have hn':=Blk.new w pairT (prA k v mk mv own)
 have had: ∀g j,(⟨g,0,none⟩:Addr).add j=⟨g,j,none⟩:=fun g j=>by
  unfold Addr.add
  split<;>simp_all
 have hcell: ∀(j:Nat) (u:Value),(prA k v mk mv own).toList[j]? =some u->(w.alloc (.cells (prA k v mk mv own) pairT)).cell? ⟨w.heap.size,j,none⟩=some u:=fun j u hu=>by
  rw[hn'.cell]
  rw[Array.getElem?_toList] at hu
  exact hu
 have hm:(n+1)*i.bytes<=(n+1)*400:=Nat.mul_le_mul_left _ hb
 have hw1:(w.alloc (.cells (prA k v mk mv own) pairT)).heap.size=w.heap.size+1:=by simp
 obtain⟨v',w',hr,ho,hg,_,hblk⟩:=run_append_own_at (P:=Tryd.prog) (w:=w.alloc (.cells (prA k v mk mv own) pairT)) B 86 ty pairT i z 23 i.bytes Tryd.underlying86 hi hzz hz0 rfl hzs (by omega) s.v n xs (row_below h (bl_alloc (Below.refl _ _) _))
  ⟨w.heap.size,0,none⟩ 1 1 (prA k v mk mv own).toList rfl (fun j u hu=>by rw[had];exact hcell j u hu) (prA_one k v mk mv own) (by simp only[maxLen];omega) (by omega) (by omega)
 have hS: ∃s':S3,v'=s'.v/\s'.n=n+1:=by
  rcases ho.2 with⟨rfl,h0⟩ | ⟨g,cap,cur,rfl,_⟩
  ·omega
  ·exact⟨⟨some ⟨g,0,none⟩,n+1,cap⟩,rfl,rfl⟩
 obtain⟨s',rfl,hsn⟩:=hS
 exact⟨s',w',hr,(prA k v mk mv own).toList,rfl,fun j u hu=>by rw[hw1];exact hcell j u hu,ho,hg,hsn,hblk⟩
end Go.Proofs.YtlhfickniegooaaDoor

namespace Go.Proofs.YtlhfickniegooaaDoor
open Go.RowKit
set_option maxRecDepth 100000
theorem Below.ext'{n B:Nat}{a b c:World}(h:Below n a b)(e:Ext B b c)(hB:n<=B):Below n a c:=
 ⟨e.os.trans h.os,e.tape.trans h.tape,e.output.trans h.output,Nat.le_trans h.size e.size,fun k hk=>(e.low k (by omega)).trans (h.block k hk)⟩
theorem news_eq{wa w:World}{news:List Value}{cs:Array Value}{t:TypeId}(hw:wa=w.alloc (.cells cs t))(hz:cs.size=news.length)(h: ∀j u,news[j]? =some u->wa.cell? ⟨wa.heap.size-1,j,none⟩=some u):news=cs.toList:=by
 apply List.ext_getElem?
 intro j
 have hs:wa.heap.size-1=w.heap.size:=by rw[hw];simp
 cases hj:news[j]? with
 | none=>
  rw[List.getElem?_eq_none_iff] at hj
  rw[eq_comm,List.getElem?_eq_none_iff,Array.length_toList]
  omega
 | some u=>
  have h1:=h j u hj
  rw[hs,hw,(Blk.new w t cs).cell] at h1
  rw[Array.getElem?_toList]
  exact h1.symm
theorem pairsInf:(Tryd.prog.info? 86).map (·.size)=some 1:=by kernel_rfl
set_option maxHeartbeats 2000000 in
theorem kpairs_any{w:World}{m:Nat}{R:List En}{D O:Nat->Prop}(hM:MapAt w m R D O)(hL:R.length<=200000000000):
    Calls Tryd.prog 28 #[.pointer (some ⟨m,0,none⟩)] w fun e w'=> ∃s:S3,e=.returned (.slice s.d R.length s.c)/\((∃Q,Q.map (·.e)=R.reverse/\PairsAt w' w.heap.size s Q)/\Below w.heap.size w w'):=by
  refine calls_evM (vs:=[.pointer (some ⟨m,0,none⟩)]) 27 Tryd.func28 kq_body (by kernel_rfl) (by simp) fun a0 h0=> ?_
  unfold kqBody
  refine wp_seq (rg_wp (kq_r0 h0 fun a1 h1=> ?_))
  refine wp_seq (rg_wp (kq_r1 h1 fun a2 h2=> ?_))
  have hB1:=Blk.new w 86 #[.slice none 0 0]
  have hb1:=bl_alloc (Below.refl w.heap.size w) (.cells #[.slice none 0 0] 86)
  have hs1:(w.alloc (.cells #[.slice none 0 0] 86)).heap.size=w.heap.size+1:=by simp
  generalize w.alloc (.cells #[.slice none 0 0] 86)=w1 at hB1 hb1 hs1 ⊢
  refine wp_seq (wp_seq (rg_wp (kq_r2 (C0:=fun x u=>x=.func (.func 53) #[] #[.pointer (some ⟨w1.heap.size,0,none⟩)]/\Blk u w1.heap.size 24 #[.pointer (some ⟨m,0,none⟩)]/\Below w1.heap.size w1 u) h2 rfl ((keach_any w1 m).mono fun e w' hh=>⟨_,hh.1,rfl,hh.2⟩) fun a3 x3 w2 hx h3=> ?_)))
  obtain⟨rfl,hE2,hb2⟩:=hx
  have hb02:=bl_trans hb1 hb2
  have hB2:=hB1.below hb2 hB1.lt
  have hE2':=hE2.lt
  have s2:=hb2.size
  obtain⟨hb,n,H,N,B,A,hn0,hn1,hR0,_,hLk0,_⟩:=hM
  refine wp_block ?_
  refine range_y (g:=.tmp 6) (ps:=#[7]) (gf:=53) (lb:=#[.pointer (some ⟨w1.heap.size,0,none⟩)]) (h3.look 6 rfl) (Go.Proofs.enters_of Tryd.func53 (by kernel_rfl) rfl)
    (each_seq R.reverse (by rw[List.map_reverse];exact(List.reverse_perm _).nodup_iff.2 hR0.nd) w1.heap.size m w2) (Below.refl _ _) (fun _=>rfl)
    (fun pre W=> ∃s Q,Q.map (·.e)=pre/\Blk W w.heap.size 86 #[S3.v s]/\PairsAt W w2.heap.size s Q/\Blk W w1.heap.size 24 #[.pointer (some ⟨m,0,none⟩)]/\Below w.heap.size w W/\w2.heap.size<=W.heap.size/\∃Z,R.reverse=pre++Z)
    (fun _ _ _=>False) ?hI (fun _ _ _ _ h _=>h) ?hM (fun _ _ _ _ h _=>h) ?h0 (fun e a' _=>Sl 27 a' [(4,.pointer (some ⟨e.g,0,none⟩)),(3,.pointer (some ⟨w.heap.size,0,none⟩))]) (fun _ _ _ _ h _=>h) ?ha ?hb ?hd (fun _ _ _ h=>h.elim) (fun _ _ _ h _=>h)
  case hI=>
    rintro pre W W' ⟨s,Q,q1,q2,q3,q4,q5,q6,q7⟩ e
    exact⟨s,Q,q1,q2.ext e,q3.ext e,q4.ext e,Below.ext' q5 e (by omega),Nat.le_trans q6 e.size,q7⟩
  case hM=>
    rintro pre W ⟨s,Q,q1,q2,q3,q4,q5,q6,q7⟩
    have hR:=hR0.old q5
    refine⟨by rw[q4.cell];rfl, ?_,fun X e Z hX=> ?_⟩
    · obtain⟨cs,r1,_,_,r4,_⟩:=hR.map
      rw[r1.cell,r4,pO_rev]
    · have hR':R=Z.reverse++e::X.reverse:=by
        have:=congrArg List.reverse hX
        simpa using this
      obtain⟨mk,mv,r1,_⟩:=hR.ent e (by rw[hR'];simp)
      rw[r1.cell]
      show some (Value.pointer (A e.g))=_
      rw[(hLk0 _ _ _ hR').2.2,List.getLast?_reverse]
  case h0=>
    exact⟨⟨none,0,0⟩,[],rfl,hB2,PairsAt.nil _ _,hE2,hb02,Nat.le_refl _,R.reverse,rfl⟩
  case ha=>
    rintro l pre x W K hi hy hK
    refine rg_in (kq_r3 (h3.yield1 7 (by omega) _) rfl fun a5 h5=>hK a5 W (KeepsFrom.refl _ _) hi hy (h5.to ⟨rfl,rfl,trivial⟩)) (by kernel_rfl) (fun⟨_,_,h⟩=>h)
  case hb=>
    rintro l pre x a5 W ⟨s,Q,q1,q2,q3,q4,q5,q6,q7⟩ ⟨Z,hZ⟩ h5
    have hxR:x∈R:=by
      have:x∈R.reverse:=by rw[hZ];simp
      simpa using this
    have hR:=hR0.old q5
    obtain⟨mk,mv,hBe,hka,hva⟩:=hR.ent x hxR
    obtain⟨ok1,ok2,_⟩:=hR.ok x hxR
    have hxg:=hR0.elt hxR
    have hlen:pre.length<=R.length:=by
      have:=congrArg List.length hZ
      simp only[List.length_reverse,List.length_append,List.length_cons] at this
      omega
    have hQl:Q.length=pre.length:=by rw[<-q1,List.length_map]
    have hdr:Below W.heap.size W (W.drewN 1):=below_drewN (Below.refl _ _) 1
    refine wpIn_block (wplI (kq_r4 (C:=fun u=> ∀b,b<w2.heap.size->u.heap[b]? =W.heap[b]?) (l8:=S3.v s) (dk:=x.key) (dv:=x.val) (mk:=mk) (mv:=mv) (ow:=x.own)
      (C0:=fun y u=>x.key.sep u W.heap.size u.heap.size y/\Below W.heap.size W u) (C1:=fun u0 y u=>x.val.sep u u0.heap.size u.heap.size y/\Below u0.heap.size u0 u) (C2:=AppC w2.heap.size Q.length s (Q.flatMap fun p:Pr=>p.cs.toList))
      h5 rfl rfl (fun u hu=>one_load (t:=86) (cs:=#[S3.v s]) ((hu _ (by omega)).trans q2) Tryd.underlying86 rfl rfl) (fun u hu=>ent_key ((hu _ (by omega)).trans hBe)) (fun u hu=>ent_val ((hu _ (by omega)).trans hBe)) (fun u hu=>one_load (t:=entT) (cs:=x.cs mk mv (N x.g) (B x.g) (A x.g)) ((hu _ (by omega)).trans hBe) Tryd.underlying4 rfl rfl) (fun b _=>rfl)
      ((kcopied_sep ok1 (hka.old hdr)).mono fun e w' hh => by
        obtain⟨y,r1,r2,r3⟩:=hh
        exact⟨y,r1,r2,bl_trans hdr r3⟩)
      (fun y u hy b hb=>hy.2.block b (by omega))
      (fun y u hy=>(kcopied_sep ok2 (hva.old hy.2)).mono fun e w' hh=>by
        obtain⟨z,r1,r2,r3⟩:=hh
        exact⟨z,r1,r2,r3⟩)
      (fun y u hy z u2 hz b hb=>(bl_trans hy.2 hz.2).block b (by omega))
      (fun y u hy z u2 hz b hb=>(bl_alloc (bl_trans hy.2 hz.2) _).block b (by omega))
      (fun y u hy z u2 hz ty=>app_pair (row_below q3.row (bl_trans hy.2 hz.2)) (by have:=(bl_trans hy.2 hz.2).size;omega) (by omega) x.key x.val y z x.own ty)
      (fun y u hy z u2 hz s' u3 hs b hb=>by
        obtain⟨news,_,_,_,r4,_⟩:=hs
        have hb2:=bl_alloc (bl_trans hy.2 hz.2) (.cells (prA x.key x.val y z x.own) pairT)
        have hsz:=hb2.size
        exact(r4.block b (by
          show b<(u2.alloc (.cells (prA x.key x.val y z x.own) pairT)).heap.size
          omega) (fun e=>by have:=(row_block q3.row e.symm).1;omega)).trans (hb2.block b (by omega)))
      (fun y u hy z u2 hz s' u3 hs=>by
        obtain⟨news,_,_,_,r4,_⟩:=hs
        have hb2:=bl_alloc (bl_trans hy.2 hz.2) (.cells (prA x.key x.val y z x.own) pairT)
        have hsz:=hb2.size
        have h3':Blk u3 w.heap.size 86 #[S3.v s]:=((r4.block w.heap.size (by
          show w.heap.size<(u2.alloc (.cells (prA x.key x.val y z x.own) pairT)).heap.size
          omega) (fun e=>by have:=(row_block q3.row e.symm).1;omega)).trans (hb2.block _ (by omega))).trans q2
        exact one_store h3' pairsInf (show 0<1 by omega) rfl)
      fun a6 y u z u2 s' u3 hy hz hs h6=> ?_) (by kernel_rfl) (block_outs postY_out))
    obtain⟨news,r1,r2,r3,r4,r5,r6⟩:=hs
    obtain⟨wa,hwa⟩: ∃wa,wa=u2.alloc (.cells (prA x.key x.val y z x.own) pairT):=⟨_,rfl⟩
    change ∀j u,news[j]? =some u->(u2.alloc (.cells (prA x.key x.val y z x.own) pairT)).cell? ⟨(u2.alloc (.cells (prA x.key x.val y z x.own) pairT)).heap.size-1,j,none⟩=some u at r2
    change (u2.alloc (.cells (prA x.key x.val y z x.own) pairT)).grownBy u3 _ at r4
    change _\/_=some (u2.alloc (.cells (prA x.key x.val y z x.own) pairT)).heap.size at r6
    have hnews:=news_eq hwa (by rw[r1];rfl) (by rw[hwa];exact r2)
    have hbu:=bl_trans hy.2 hz.2
    have hba:Below W.heap.size W wa:=by rw[hwa];exact bl_alloc hbu _
    have hbz:Below u2.heap.size u2 wa:=by rw[hwa];exact bl_alloc (Below.refl _ _) _
    have hsa:wa.heap.size=u2.heap.size+1:=by rw[hwa];simp
    rw[<-hwa] at r4 r6
    have z1:=hy.2.size
    have z2:=hz.2.size
    have z3:=r4.size
    have hblk: ∀b,b<wa.heap.size->(∀g,s.v.ownBlock=some g->b≠g)->b≠w.heap.size->(u3.setCells w.heap.size 0 [S3.v s']).heap[b]? =wa.heap[b]? :=fun b hb hne hw=>(setCells_other _ 0 u3 hw).trans (r4.block b hb (fun e=>hne b e.symm rfl))
    have hlow: ∀b,b<w2.heap.size->b≠w.heap.size->(u3.setCells w.heap.size 0 [S3.v s']).heap[b]? =W.heap[b]? :=fun b hb hw=>(hblk b (by omega) (fun g hg=>by have:=(row_block q3.row hg).1;omega) hw).trans (hba.block b (by omega))
    have hsz:(u3.setCells w.heap.size 0 [S3.v s']).heap.size=u3.heap.size:=setCells_size' _ _ _ _
    have hfin: ∀k,k<=wa.heap.size->k<=(u3.setCells w.heap.size 0 [S3.v s']).heap.size:=fun k hk=>by omega
    have hg3:Blk u3 w.heap.size 86 #[S3.v s]:=((r4.block w.heap.size (by omega) (fun e=>by have:=(row_block q3.row e.symm).1;omega)).trans (hba.block _ (by omega))).trans q2
    obtain⟨p,hp⟩: ∃p:Pr,p=⟨x,y,z,W.heap.size,u.heap.size,u2.heap.size⟩:=⟨_,rfl⟩
    refine block_norm ⟨⟨by show W.heap.size<=(u3.setCells w.heap.size 0 [S3.v s']).heap.size;omega,fun k o hk hko ho=> ?_⟩,s',Q++[p], ?_, ?_, ?_, ?_, ?_, ?_,Z, ?_⟩
    · have hkl:=(Array.getElem?_eq_some_iff.1 hko).1
      refine(hblk k (by omega) (fun g hg e=> ?_) (by omega)).trans ((hba.block k hkl).trans hko)
      subst e
      rcases q3.row.2 with⟨h0,_⟩ | ⟨g',cap,cur,hv,_,hh,_⟩
      · rw[h0] at hg;cases hg
      · rw[hv] at hg
        injection hg with hg
        have hg:g'=k:=hg
        subst hg
        rw[hko] at hh
        injection hh with hh
        subst hh
        cases ho
    · rw[List.map_append,q1,hp];rfl
    · exact hg3.set_ 0 (S3.v s')
    · refine⟨?_,by rw[List.length_append];exact r5, ?_, ?_⟩
      · rw[List.length_append,List.flatMap_append,show[p].flatMap (fun p=>p.cs.toList)=(prA x.key x.val y z x.own).toList by rw[hp];simp[Pr.cs]]
        rw[hnews] at r3
        refine⟨r3.1,r3.2.imp_right fun⟨g,cap,cur,e1,e2,e3,e4⟩=>⟨g,cap,cur,e1,e2, ?_,e4⟩⟩
        exact(setCells_other _ 0 u3 (by omega)).trans e3
      · intro p' hp'
        rcases List.mem_append.1 hp' with hp' | hp'
        · obtain⟨d1,d2,d3⟩:=q3.dat p' hp'
          have l1:=d1.le1
          have l2:=d1.le2
          have l3:=d1.lt
          have keep: ∀b,p'.lo<=b/\b<p'.hi->(u3.setCells w.heap.size 0 [S3.v s']).heap[b]? =W.heap[b]? :=fun b hb=>(hblk b (by omega) (fun g hg e=>d3 g hg (e ▸ hb)) (by omega)).trans (hba.block b (by omega))
          refine⟨⟨d1.key.keep (fun b hb1 hb2 _=>keep b ⟨hb1,by omega⟩),d1.val.keep (fun b hb1 hb2 _=>keep b ⟨by omega,hb2⟩),l1,l2,hfin _ (by omega)⟩,d2,fun g hg=> ?_⟩
          rcases r6 with r6 | r6
          · rw[r6] at hg;exact d3 g hg
          · rw[r6] at hg;injection hg with hg;omega
        · rw[List.mem_singleton.1 hp',hp]
          have keep: ∀b,W.heap.size<=b/\b<u2.heap.size->(u3.setCells w.heap.size 0 [S3.v s']).heap[b]? =u2.heap[b]? :=fun b hb=>(hblk b (by omega) (fun g hg e=>by have:=(row_block q3.row hg).2;omega) (by omega)).trans (hbz.block b hb.2)
          refine⟨⟨hy.1.keep (fun b hb _ hl=>(keep b ⟨hb,by omega⟩).trans (hz.2.block b hl)),hz.1.keep (fun b hb _ hl=>keep b ⟨by omega,hl⟩),z1,z2,hfin _ (by show u2.heap.size<=_;omega)⟩,q6,fun g hg=> ?_⟩
          rcases r6 with r6 | r6
          · rw[r6] at hg
            have:=(row_block q3.row hg).2
            show ¬(W.heap.size<=g/\g<u2.heap.size)
            omega
          · rw[r6] at hg;injection hg with hg
            show ¬(W.heap.size<=g/\g<u2.heap.size)
            omega
      · rw[List.pairwise_append]
        refine⟨q3.sep,List.pairwise_singleton _ _,fun a ha b hb=> ?_⟩
        rw[List.mem_singleton.1 hb,hp]
        exact(q3.dat a ha).1.lt
    · exact(hlow _ hE2' (by omega)).trans q4
    · refine⟨?_, ?_, ?_,hfin _ (by have:=q5.size;omega),fun b hb=>(hlow b (by omega) (by omega)).trans (q5.block b hb)⟩
      · exact((setCells_keep _ _ _ _).1).trans (r4.os.trans (hba.os.trans q5.os))
      · exact((setCells_keep _ _ _ _).2.1).trans (r4.tape.trans (hba.tape.trans q5.tape))
      · exact((setCells_keep _ _ _ _).2.2).trans (r4.output.trans (hba.output.trans q5.output))
    · show w2.heap.size<=(u3.setCells w.heap.size 0 [S3.v s']).heap.size
      omega
    · rw[hZ];simp
  case hd=>
    rintro xs W rfl ⟨s,Q,q1,q2,q3,q4,q5,q6,q7⟩ hD
    refine block_norm ?_
    have h4:Sl 27 {a3 with defers:={target:=.collected w2.heap.size,args:=#[]}::a3.defers} [(3,.pointer (some ⟨w.heap.size,0,none⟩))] [{target:=.collected w2.heap.size,args:=#[]}]:=by
      have h5:=h3.to (l0:=[(3,.pointer (some ⟨w.heap.size,0,none⟩))]) ⟨rfl,trivial⟩
      exact⟨h5.size,by simp[h5.defers],h5.known⟩
    refine wp_seq (rg_wp (kq_r5 h4 rfl (one_load (t:=86) (cs:=#[S3.v s]) q2 Tryd.underlying86 rfl rfl) fun a5 h5=>wp_ret ?_))
    show LeavesInM _ _ _ _ _ _ a5.defers .returning W
    rw[h5.defers]
    have hQl:Q.length=R.length:=by
      have:=congrArg List.length q1
      simpa using this
    refine leaves_ok (ds:=[w2.heap.size]) w2.heap.size W (by simp) (fun D hD'=>by rw[List.mem_singleton.1 hD'];exact⟨Nat.le_refl _,hD⟩) fun W' hx=>⟨S3.v s,(results_tmp rfl _ _ _).trans (by rw[show a5.tmps.getD 2 undef=S3.v s from h5.look 2 rfl]),s, ?_,⟨Q,q1, ?_⟩,Below.ext' q5 hx (by omega)⟩
    · show Ending.returned (.slice s.d s.n s.c)=_
      rw[q3.num,hQl]
    · have h6:=q3.ext hx
      exact⟨⟨h6.row.1,h6.row.2.imp_right fun⟨g,cap,cur,e1,e2,e3⟩=>⟨g,cap,cur,e1,by omega,e3⟩⟩,h6.num,fun p hp=>let⟨d1,d2,d3⟩:=h6.dat p hp;⟨d1,by omega,d3⟩,h6.sep⟩
end Go.Proofs.YtlhfickniegooaaDoor

namespace Go.Proofs.YtlhfickniegooaaDoor
open Go.RowKit
set_option maxRecDepth 100000
theorem flat_get{f:Pr->List Value}(hf: ∀p,(f p).length=23): ∀(Q:List Pr) (j:Nat) (p:Pr),Q[j]? =some p->((Q.flatMap f).drop (j*23)).take 23=f p
 | [],_,_,h=>by cases h
 | q::Q,0,p,h=>by
  injection h with h
  subst h
  rw[Nat.zero_mul,List.drop_zero,List.flatMap_cons,<-hf q,List.take_left]
 | q::Q,j+1,p,h=>by
  have h:Q[j]? =some p:=h
  rw[List.flatMap_cons,show(j+1)*23=(f q).length+j*23 by rw[hf];omega,List.drop_append,List.drop_of_length_le (by omega),Nat.add_sub_cancel_left,List.nil_append]
  exact flat_get hf Q j p h
theorem PairsAt.at{w:World}{B:Nat}{s:S3}{Q:List Pr}(h:PairsAt w B s Q){j:Nat}{p:Pr}(hj:Q[j]? =some p): ∃g,s.v.ownBlock=some g/\s.d=some ⟨g,0,none⟩/\B<=g/\g<w.heap.size/\w.rangeAt g (j*23) p.cs.toList:=by
 have hlt:=(List.getElem?_eq_some_iff.1 hj).1
 rcases h.row.2 with⟨_,h0⟩ | ⟨g,cap,cur,hv,hB,hh,hc,_,hz,ht⟩
 ·omega
 ·have hd:s.d=some ⟨g,0,none⟩:=by
   have:Value.slice s.d s.n s.c=_:=hv
   injection this
  refine⟨g,by rw[hv];rfl,hd,hB,(Array.getElem?_eq_some_iff.1 hh).1,range_of (t:=pairT) (cs:=cur) hh (j*23) 23 ?_⟩
  rw[<-flat_get (f:=fun p:Pr=>p.cs.toList) (fun _=>rfl) Q j p hj,<-ht,List.drop_take,List.take_take]
  congr 1
  omega
structure Priv (own:Nat->Prop) (Wb:Nat) (Wp A:World) (Q:List Pr) (j:Nat):Prop where
 own: ∀b,own b->b<Wb\/(∃i p,i<j/\Q[i]? =some p/\p.lo<=b/\b<p.hi)\/Wp.heap.size<=b
 keep: ∀b,Wb<=b->b<Wp.heap.size->(∀i p,i<j->Q[i]? =some p->¬(p.lo<=b/\b<p.hi))->A.heap[b]? =Wp.heap[b]?
 size:Wp.heap.size<=A.heap.size
section
variable {own own':Nat->Prop} {Wb:Nat} {Wp A C:World} {Q:List Pr} {j:Nat} {s:S3} {p:Pr}
theorem Priv.start(h: ∀b,own b->b<Wb):Priv own Wb Wp Wp Q 0:=⟨fun b hb=>.inl (h b hb),fun _ _ _ _=>rfl,Nat.le_refl _⟩
theorem Priv.below(h:Priv own Wb Wp A Q j)(hb:Below A.heap.size A C):Priv own Wb Wp C Q j:=
 ⟨h.own,fun b h1 h2 h3=>(hb.block b (by have:=h.size;omega)).trans (h.keep b h1 h2 h3),Nat.le_trans h.size hb.size⟩
theorem Priv.skip(h:Priv own Wb Wp A Q j):Priv own Wb Wp A Q (j+1):=
 ⟨fun b hb=>(h.own b hb).imp_right (fun h=>h.imp_left fun⟨i,p,h1,h2⟩=>⟨i,p,by omega,h2⟩),fun b h1 h2 h3=>h.keep b h1 h2 fun i p hi hp=>h3 i p (by omega) hp,h.size⟩
theorem Priv.step(h:Priv own Wb Wp A Q j)(hp:Q[j]? =some p){Hd:Nat->Prop}(hH: ∀b,Hd b->(p.lo<=b/\b<p.hi)\/Wp.heap.size<=b)(hM:Moved (fun b=>own b\/Hd b) A C)(ho: ∀b,own' b->own b\/Hd b\/A.heap.size<=b):Priv own' Wb Wp C Q (j+1):=by
 refine⟨fun b hb=> ?_,fun b h1 h2 h3=> ?_,Nat.le_trans h.size hM.size⟩
 ·rcases ho b hb with q | q | q
  ·exact h.skip.own b q
  ·rcases hH b q with q | q
   ·exact .inr (.inl ⟨j,p,by omega,hp,q⟩)
   ·exact .inr (.inr q)
  ·exact .inr (.inr (Nat.le_trans h.size q))
 ·refine(hM.block b (by have:=h.size;omega) fun q=> ?_).trans (h.skip.keep b h1 h2 h3)
  rcases q with q | q
  ·rcases h.own b q with q | ⟨i,p',q1,q2,q3⟩ | q
   ·omega
   ·exact h3 i p' (by omega) q2 q3
   ·omega
  ·rcases hH b q with q | q
   ·exact h3 j p (by omega) hp q
   ·omega
theorem PairsAt.apart{B:Nat}(h:PairsAt Wp B s Q){i:Nat}{q:Pr}(hi:Q[i]? =some q)(hj:Q[j]? =some p)(hij:i<j):q.hi<=p.lo:=by
 obtain⟨h1,h2⟩:=List.getElem?_eq_some_iff.1 hi
 obtain⟨h3,h4⟩:=List.getElem?_eq_some_iff.1 hj
 have:=(List.pairwise_iff_getElem.1 h.sep) i j h1 h3 hij
 rw[h2,h4] at this
 exact this
theorem Priv.mine(h:Priv own Wb Wp A Q j)(hP:PairsAt Wp Wb s Q)(hp:Q[j]? =some p){b:Nat}(hb:p.lo<=b/\b<p.hi): ¬own b/\b<A.heap.size/\A.heap[b]? =Wp.heap[b]? :=by
 obtain⟨d1,d2,_⟩:=hP.dat p (List.mem_of_getElem? hp)
 have l:=d1.lt
 have hs:=h.size
 have hno: ∀i q,i<j->Q[i]? =some q->¬(q.lo<=b/\b<q.hi):=fun i q hi hq hb'=>by have:=hP.apart hq hp hi;omega
 refine⟨fun ho=> ?_,by omega,h.keep b (by omega) (by omega) hno⟩
 rcases h.own b ho with q | ⟨i,q,q1,q2,q3⟩ | q
 ·omega
 ·exact hno i q q1 q2 q3
 ·omega
theorem Priv.dat(h:Priv own Wb Wp A Q j)(hP:PairsAt Wp Wb s Q)(hp:Q[j]? =some p):p.at A:=by
 obtain⟨d1,d2,_⟩:=hP.dat p (List.mem_of_getElem? hp)
 have l1:=d1.le1
 have l2:=d1.le2
 exact⟨d1.key.keep (fun b hb1 hb2 _=>(h.mine hP hp ⟨hb1,by omega⟩).2.2),d1.val.keep (fun b hb1 hb2 _=>(h.mine hP hp ⟨by omega,hb2⟩).2.2),l1,l2,Nat.le_trans d1.lt h.size⟩
theorem Priv.row(h:Priv own Wb Wp A Q j)(hP:PairsAt Wp Wb s Q)(hp:Q[j]? =some p): ∃g,s.d=some ⟨g,0,none⟩/\A.rangeAt g (j*23) p.cs.toList:=by
 obtain⟨g,h1,h2,h3,h4,h5⟩:=hP.at hp
 refine⟨g,h2,fun i v hi=> ?_⟩
 have hk:=h.keep g h3 h4 fun i q _ hq=>(hP.dat q (List.mem_of_getElem? hq)).2.2 g h1
 have:=h5 i v hi
 unfold World.cell? at this ⊢
 rw[hk]
 exact this
end
theorem pairInf:(Tryd.prog.info? pairT).map (·.size)=some 23:=by kernel_rfl
theorem over_pair{w:World}{g:Nat}{t:TypeId}{cs:Array Value}(h:Blk w g t cs)(hz:cs.size=23)(p:Pr):Blk (w.setCells g 0 p.cs.toList) g t p.cs:=by
 obtain⟨l⟩:=cs
 have hz:l.length=23:=hz
 match l,hz with
 | [a0,a1,a2,a3,a4,a5,a6,a7,a8,a9,a10,a11,a12,a13,a14,a15,a16,a17,a18,a19,a20,a21,a22],_=>
  have e:(p.cs.toList.foldl (fun(p:Array Value×Nat) v=>(p.1.setIfInBounds p.2 v,p.2+1)) ((⟨[a0,a1,a2,a3,a4,a5,a6,a7,a8,a9,a10,a11,a12,a13,a14,a15,a16,a17,a18,a19,a20,a21,a22]⟩:Array Value),0)).1=p.cs:=by kernel_rfl
  have h2:=Blk.setL p.cs.toList 0 _ _ h
  rw[e] at h2
  exact h2
theorem pair_key{w:World}{g:Nat}{t:TypeId}{p:Pr}(h:Blk w g t p.cs):Lds Tryd.prog 31 (.pointer (some ⟨g,0,none⟩)) (.agg (p.e.key.cs p.dk)) w:=dat_load h rfl
theorem pair_val{w:World}{g:Nat}{t:TypeId}{p:Pr}(h:Blk w g t p.cs):Lds Tryd.prog 31 (.pointer (some ⟨g,11,none⟩)) (.agg (p.e.val.cs p.dv)) w:=dat_load h rfl
end Go.Proofs.YtlhfickniegooaaDoor
