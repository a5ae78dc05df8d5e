/-
   Written by an AI agent.
-/
import Derived.RangeFuncNested
import Derived.Test.YtbjegfpfmnleeaaGreatDoorPk09
import Derived.RangeFuncBound
import Derived.Laws.Cover3
namespace Go.Proofs.YtbjegfpfmnleeaaGreatDoor
open Go.RowKit
set_option maxRecDepth 100000
variable {df:List Deferred}
structure Ext (B:Nat) (w w':World):Prop where
 size:w.heap.size<=w'.heap.size
 os:w'.os=w.os
 tape:w'.tape=w.tape
 output:w'.output=w.output
 cells: ∀(b:Nat) (cs:Array Value) (t:TypeId) (fr:Nat×Nat),w.heap[b]? =some (Obj.cells cs t fr)->w'.heap[b]? =some (Obj.cells cs t fr)
 low: ∀b,b<B->w'.heap[b]? =w.heap[b]?
theorem Ext.of_below{B:Nat}{w w':World}(h:Below w.heap.size w w')(hB:B<=w.heap.size):Ext B w w':=
 ⟨h.size,h.os,h.tape,h.output,fun b cs t fr hb=>(h.block b (Array.getElem?_eq_some_iff.1 hb).1).trans hb,fun b hb=>h.block b Zo⟩
theorem Ext.put{B:Nat}{w:World}{l:Nat}{o:Obj}(o':Obj)(h:w.heap[l]? =some o)(hc:o.isCells=false)(hB:B<=l):Ext B w (w.putObj l o'):=
 ⟨by simp,rfl,rfl,rfl,fun b cs t fr hb=>(World.putObj_heap_other (fun e=>by subst e;rw[h] at hb;injection hb with hb;subst hb;cases hc)).trans hb,fun b hb=>World.putObj_heap_other Zo⟩
theorem Ext.refl(B:Nat)(w:World):Ext B w w:=⟨Nat.le_refl _,rfl,rfl,rfl,fun _ _ _ _ h=>h,fun _ _=>rfl⟩
theorem Ext.trans{B:Nat}{a b c:World}(h:Ext B a b)(k:Ext B b c):Ext B a c:=
 ⟨Nat.le_trans h.size k.size,k.os.trans h.os,k.tape.trans h.tape,k.output.trans h.output,fun b' cs t fr hb=>k.cells b' cs t fr (h.cells b' cs t fr hb),fun b' hb=>(k.low b' hb).trans (h.low b' hb)⟩
theorem Ext.below{B n:Nat}{w0 w w':World}(h:Ext B w w')(hb:Below n w0 w)(hn:n<=B):Below n w0 w':=
 ⟨h.os.trans hb.os,h.tape.trans hb.tape,h.output.trans hb.output,Nat.le_trans hb.size h.size,fun k hk=>(h.low k Zo).trans (hb.block k hk)⟩
theorem Blk.ext{B:Nat}{w w':World}{g:Nat}{t:TypeId}{cs:Array Value}(h:Blk w g t cs)(e:Ext B w w'):Blk w' g t cs:=e.cells _ _ _ _ h
theorem Bu{B:Nat}{w w':World}(e:Ext B w w'){b o:Nat}{v:Value}(h:w.cell? ⟨b,o,none⟩=some v):w'.cell? ⟨b,o,none⟩=some v:=by
 have hk: ∃cs t fr,w.heap[b]? =some (.cells cs t fr):=by
  unfold World.cell? at h
  split at h
  ·rename_i cs t fr hh;exact⟨_,_,_,hh⟩
  ·cases h
 obtain⟨cs,t,fr,hh⟩:=hk
 have h2:=e.cells _ _ _ _ hh
 exact(World.cell?_of_block (w:=w) (h2.trans hh.symm)).trans h
theorem PathAt.ext{B:Nat}{w w':World}{S:Nat->Prop}{pa:Option Addr}{l:List Int}(e:Ext B w w')(h:PathAt w S pa l):PathAt w' S pa l:=by
 rcases h with h | ⟨b,o,h1,h2,h3⟩
 ·exact .inl h
 ·exact .inr ⟨b,o,h1,h2,fun j x hx=>Bu e (h3 j x hx)⟩
theorem FoAt.ext{B:Nat}{w w':World}{S:Nat->Prop}(e:Ext B w w'): ∀(f:Fo) (b o:Nat),FoAt w S b o f->FoAt w' S b o f
 | .nil,_,_,_=>trivial
 | .cons h k r,b,o,⟨⟨pa,pc,ia,ic,h1,h2,h3,h3',h4,h4',h5⟩,h6⟩=>by
  refine⟨⟨pa,pc,ia,ic,fun j v hv=>Bu e (h1 j v hv),h2.ext e,h3,h3',h4,h4', ?_⟩,FoAt.ext e r b (o+11) h6⟩
  rcases h5 with h5 | ⟨b',o',e',hb',h5⟩
  ·exact .inl h5
  ·exact .inr ⟨b',o',e',hb',FoAt.ext e _ b' o' h5⟩
theorem Dt.at.ext{B:Nat}{w w':World}{S:Nat->Prop}{d:Dt}{m:Dm}(e:Ext B w w')(h:d.at w S m):d.at w' S m:=by
 refine⟨h.path.ext e,h.pcLe,h.pcMax, ?_,h.icLe,h.icMax⟩
 rcases h.kids with h | ⟨b,o,h1,h2,h3⟩
 ·exact .inl h
 ·exact .inr ⟨b,o,h1,h2,FoAt.ext e _ b o h3⟩
def Et8{α:Type}(P:Program)(g:Nat)(lb:Array Value)(encs:α->Array Value)(M:World->Prop)(Y:List α->α->World->Prop)(E:List α->World->Prop)(w:World):Prop:=
  ∀ (l : Nat) (J Jx : List α → World → Prop) (W : World), Below w.heap.size w W → (∀ s A C, J s A → Below A.heap.size A C → J s C) → (∀ s A C, Jx s A → Below A.heap.size A C → Jx s C) → (∀ s A, J s A → M A) →
    (∀pre x W1,J pre W1->Y pre x W1->YieldAt Fence.wide 7 P l (encs x) W1 fun e W'=>(e=.returned (.bool true)/\J (pre++[x]) W')\/(e=.returned (.bool false)/\Jx (pre++[x]) W'))->
    J [] W->
    CallsIn Fence.wide 8 P g (#[.func (.yield l) #[] #[]]++lb) W fun e W'=>(∃v,e=.returned v)/\((∃xs,E xs W'/\J xs W')\/(∃pre,Jx pre W'))
def Cv1{α:Type}(B:Nat)(I:List α->World->Prop)(Ix:Code->List α->World->Prop)(xs:List α)(W:World):Exit->Act->World->Prop
 | .normal,_,W'=>KeepsFrom B W W'/\I xs W'
 | .ret,_,W'=>KeepsFrom B W W'/\Ix .ret xs W'
 | .exit id,_,W'=>KeepsFrom B W W'/\Ix (.exit id) xs W'
 | .goto t,_,W'=>KeepsFrom B W W'/\Ix (.goto t) xs W'
 | .panic _,_,_=>False
 | .outgrown,_,_=>False
theorem KeepsFrom.below{B:Nat}{W W':World}(h:Below W.heap.size W W'):KeepsFrom B W W':=⟨h.size,fun k o _ hk _=>(h.block k (Array.getElem?_eq_some_iff.1 hk).1).trans hk⟩
theorem Wc{P:Program}{α:Type}{g:Operand}{ps:Array Tmp}{assign body:Code}{Q:Exit->Act->World->Prop}{a:Act}{w w0:World}{gf:Nat}{lb:Array Value}(hg:a.eval g=.func (.func gf) #[] lb)(eg: ∀args w,(callFunc gf args).run P w=.ok (.enter gf args) w)
  {encs:α->Array Value} {M:World->Prop} {Y:List α->α->World->Prop} {E:List α->World->Prop} (hseq:Et8 P gf lb encs M Y E w0) (hb0:Below w0.heap.size w0 w) (hps: ∀x,(encs x).size=ps.size)
  (I:List α->World->Prop) (Ix:Code->List α->World->Prop) (hI: ∀s A C,I s A->Ext w.heap.size A C->I s C) (hIx: ∀c s A C,Ix c s A->Ext w.heap.size A C->Ix c s C) (hM: ∀s A,I s A->M A)
  (hY: ∀s x A C,Y s x A->Ext w.heap.size A C->Y s x C) (h0:I [] w) (Ax:α->Act->World->Prop) (hAx: ∀x a' A C,Ax x a' A->Ext w.heap.size A C->Ax x a' C)
  (hassign: ∀(l:Nat) (pre:List α) (x:α) (W:World) (K:Act->World->Prop),I pre W->Y pre x W->(∀a' W',KeepsFrom w.heap.size W W'->I pre W'->Y pre x W'->Ax x a' W'->K a' W')->
   assign.wpIn (S8 l) 7 P (Exit.then K (fun _ _ _=>False)) {tmps:=(ps.zip (encs x)).foldl (fun t (p,v)=>t.setIfInBounds p v) a.tmps,defers:=[]} W)
  (hbody: ∀(l:Nat) (pre:List α) (x:α) (a':Act) (W:World),I pre W->Y pre x W->Ax x a' W->body.wpIn (S8 l) 7 P (Cv1 w.heap.size I Ix (pre++[x]) W) a' W)
  (hdone: ∀(xs:List α) (W:World),E xs W->I xs W->W.heap[w.heap.size]? =some (.deferred (some []))->Q .normal {a with defers:={target:=.collected w.heap.size,args:=#[]}::a.defers} W)
  (hstop: ∀(c:Code) (pre:List α) (W:World),Ix c pre W->W.heap[w.heap.size]? =some (.deferred (some []))->c.wp P Q {a with defers:={target:=.collected w.heap.size,args:=#[]}::a.defers} W)
  (hE: ∀s A C,E s A->Ext w.heap.size A C->E s C):
  (Code.rangeFunc g ps assign body).wp P Q a w:=by
 refine(wpIn_wide (n:=9)).1 (wpIn_rangeFunc ?_)
 intro fn hfn
 obtain⟨rec,hrec⟩: ∃rec:LoopState->Option Code->Loop,rec=fun st pe=>{state:=st,pending:=pe,fn,tmps:=a.tmps,params:=ps,assign,body,defers:=w.heap.size}:=⟨_,rfl⟩
 obtain⟨W1,hW1⟩: ∃W1,(w.alloc (.deferred (some []))).alloc (.loop (rec .ready none))=W1:=⟨_,rfl⟩
 have hL1:W1.heap[w.heap.size+1]? =some (.loop (rec .ready none)):=by
  rw[<-hW1];have:=World.alloc_heap_new (w.alloc (.deferred (some []))) (.loop (rec .ready none));rwa [World.size_alloc] at this
 have hK1:W1.heap[w.heap.size]? =some (.deferred (some [])):=by
  rw[<-hW1];exact(Below.heap_alloc _ _ _ (by simp)).trans (World.alloc_heap_new w _)
 have hbW:Below w.heap.size w W1:=by
  rw[<-hW1];exact B2 (B2 (Below.refl _ w) _) _
 have hI1:I [] W1:=hI _ _ _ h0 (Ext.of_below hbW (Nat.le_refl _))
 have hb1:Below w0.heap.size w0 W1:=A7 hb0 hbW
 refine⟨w.heap.size+1,[{target:=.collected w.heap.size,args:=#[]}],W1,{target:=.fn (.func gf) lb,args:=#[.func (.yield (w.heap.size+1)) #[] #[]]},W1,gf,
  #[.func (.yield (w.heap.size+1)) #[] #[]]++lb,W1, ?_, ?_, ?_, ?_,(fun h=>by cases h), ?_⟩
 ·rw[<-hW1,hrec];exact run_enterLoop_outer _ _ _ _ _
 ·simp only[resolve,hg]
  simp[go_sem]
 ·intro f' hf';trivial
 ·simp[invoke,go_sem,eg]
 ·refine(hseq (w.heap.size+1)
   (fun pre W=>I pre W/\W.heap[w.heap.size+1]? =some (.loop (rec .ready none))/\W.heap[w.heap.size]? =some (.deferred (some [])))
   (fun pre W=> ∃c,Ix c pre W/\W.heap[w.heap.size+1]? =some (.loop (rec .done (some c)))/\W.heap[w.heap.size]? =some (.deferred (some [])))
   W1 hb1
   (fun s A C hs hb=>⟨hI _ _ _ hs.1 (Ext.of_below hb (by have:=(Array.getElem?_eq_some_iff.1 hs.2.2).1;omega)),(hb.block _ (Array.getElem?_eq_some_iff.1 hs.2.1).1).trans hs.2.1,(hb.block _ (Array.getElem?_eq_some_iff.1 hs.2.2).1).trans hs.2.2⟩)
   (fun s A C hs hb=>by
    obtain⟨c,hc,hl,hk⟩:=hs
    exact⟨c,hIx _ _ _ _ hc (Ext.of_below hb (by have:=(Array.getElem?_eq_some_iff.1 hk).1;omega)),(hb.block _ (Array.getElem?_eq_some_iff.1 hl).1).trans hl,(hb.block _ (Array.getElem?_eq_some_iff.1 hk).1).trans hk⟩)
   (fun s A hs=>hM _ _ hs.1) ?_ ⟨hI1,hL1,hK1⟩).mono ?_
  ·rintro pre x W ⟨hi,hl,hk⟩ hyx
   have hlt:w.heap.size+1<W.heap.size:=(Array.getElem?_eq_some_iff.1 hl).1
   have hy:=run_yield (P:=P) (args:=encs x) hl (by rw[hrec];exact hps x)
   rw[hrec] at hy
   refine⟨fn,_,assign,body,hy,roundIn_of_wpIn hfn (hassign _ pre x W _ hi hyx ?_)⟩
   clear hy
   intro a' Wa hkfa hia hya hax
   have hl':=hkfa.same _ _ Zo hl rfl
   have hk':=hkfa.same _ _ (Nat.le_refl _) hk rfl
   have hlt':w.heap.size+1<Wa.heap.size:=(Array.getElem?_eq_some_iff.1 hl').1
   refine⟨_,run_beginRound hl' (by rw[hrec]), ?_⟩
   have hl2:(Wa.putObj (w.heap.size+1) (.loop {rec .ready none with state:=.busy})).heap[w.heap.size+1]? =some (.loop {rec .ready none with state:=.busy}):=World.putObj_heap_same hlt'
   have hk2:(Wa.putObj (w.heap.size+1) (.loop {rec .ready none with state:=.busy})).heap[w.heap.size]? =some (.deferred (some [])):=(World.putObj_heap_other Zo).trans hk'
   have hx2:Ext w.heap.size Wa (Wa.putObj (w.heap.size+1) (.loop {rec .ready none with state:=.busy})):=Ext.put _ hl' rfl Zo
   refine wpIn_mono (hbody _ pre x a' _ (hI _ _ _ hia hx2) (hY _ _ _ _ hya hx2) (hAx _ _ _ _ hax hx2)) ?_
   have fin: ∀(jump:Option Code) (W3:World),KeepsFrom w.heap.size (Wa.putObj (w.heap.size+1) (.loop {rec .ready none with state:=.busy})) W3->
     (Instr.endRound (w.heap.size+1) jump).run P W3=.ok (.bool jump.isNone) (W3.putObj (w.heap.size+1) (.loop (rec (if jump.isNone then .ready else .done) jump)))/\
     W3.heap[w.heap.size+1]? =some (.loop {rec .ready none with state:=.busy})/\
     (W3.putObj (w.heap.size+1) (.loop (rec (if jump.isNone then .ready else .done) jump))).heap[w.heap.size+1]? =some (.loop (rec (if jump.isNone then .ready else .done) jump))/\
     (W3.putObj (w.heap.size+1) (.loop (rec (if jump.isNone then .ready else .done) jump))).heap[w.heap.size]? =some (.deferred (some [])):=fun jump W3 hk3=>by
    have hl3:=hk3.same _ _ Zo hl2 rfl
    have:=run_endRound (P:=P) jump hl3
    rw[hrec] at this ⊢
    exact⟨this,by rw[hrec] at hl3;exact hl3,World.putObj_heap_same (Array.getElem?_eq_some_iff.1 hl3).1,(World.putObj_heap_other Zo).trans (hk3.same _ _ (Nat.le_refl _) hk2 rfl)⟩
   rintro e a3 W3 hp
   cases e with
   | normal=>
    obtain⟨hk3,hi3⟩:=hp
    obtain⟨hr,hl3,hl4,hk4⟩:=fin none W3 hk3
    exact⟨_,_,hr,.inl ⟨rfl,hI _ _ _ hi3 (Ext.put _ hl3 rfl Zo),hl4,hk4⟩⟩
   | ret=>
    obtain⟨hk3,hi3⟩:=hp
    obtain⟨hr,hl3,hl4,hk4⟩:=fin (some .ret) W3 hk3
    exact⟨_,_,hr,.inr ⟨rfl,.ret,hIx _ _ _ _ hi3 (Ext.put _ hl3 rfl Zo),hl4,hk4⟩⟩
   | exit id=>
    obtain⟨hk3,hi3⟩:=hp
    obtain⟨hr,hl3,hl4,hk4⟩:=fin (some (.exit id)) W3 hk3
    exact⟨_,_,hr,.inr ⟨rfl,.exit id,hIx _ _ _ _ hi3 (Ext.put _ hl3 rfl Zo),hl4,hk4⟩⟩
   | goto t=>
    obtain⟨hk3,hi3⟩:=hp
    obtain⟨hr,hl3,hl4,hk4⟩:=fin (some (.goto t)) W3 hk3
    exact⟨_,_,hr,.inr ⟨rfl,.goto t,hIx _ _ _ _ hi3 (Ext.put _ hl3 rfl Zo),hl4,hk4⟩⟩
   | panic ch=>exact hp.elim
   | outgrown=>exact hp.elim
  ·rintro e W2 ⟨⟨v,rfl⟩,(⟨xs,hS,hi,hl,hk⟩ | ⟨pre,c,hi,hl,hk⟩)⟩
   ·have hx:=Ext.put (B:=w.heap.size) (.loop {rec .ready none with state:=.exhausted}) hl rfl Zo
    exact⟨none,_,by have:=run_endLoop (P:=P) hl (by rw[hrec];simp);rw[hrec] at this hx ⊢;exact this,hdone xs _ (hE _ _ _ hS hx) (hI _ _ _ hi hx) ((World.putObj_heap_other Zo).trans hk)⟩
   ·have hx:=Ext.put (B:=w.heap.size) (.loop {rec .done (some c) with state:=.exhausted}) hl rfl Zo
    exact⟨some c,_,by have:=run_endLoop (P:=P) hl (by rw[hrec];simp);rw[hrec] at this hx ⊢;exact this,wpIn_wide.2 (hstop c pre _ (hIx _ _ _ _ hi hx) ((World.putObj_heap_other Zo).trans hk))⟩
variable {df:List Deferred}
def Mt(l:List (Nat×Value)):Op->Option Nat
 | .call c=>match c.callee with
  | .value f=>match rho l f with
   | .func (.yield i) ⟨[]⟩ ⟨[]⟩=>some i
   | _=>none
  | _=>none
 | _=>none
def Bq2(l:List (Nat×Value)):Op->Array Value
 | .call c=>List.toArray (c.args.toList.map (rho l))
 | _=>#[]
def Bq3(P:Program)(n:Nat)(ops:Array Oper):List Oper->List Giv->List (Nat×Value)->World->(List (Nat×Value)->World->Prop)->Prop
 | [],_,l,w,K=>K l w
 | o::r,g,l,w,K=>match Q2 n o.dst,gdL ops l o with
  | true,some true=>match Mt l o.op,o.op.operands.toList.all (knO l),g with
   | some i,true,.ex α f C::g'=>YieldAt Fence.wide 7 P i (Bq2 l o.op) w (fun e w'=> ∃x:α,e=.returned (f x)/\C x w')/\∀x w',C x w'->Bq3 P n ops r g' (Eu o.dst (f x) l) w' K
   | none,_,_=>Ak7 P l w o g (fun v w' g'=>Bq3 P n ops r g' (Eu o.dst v l) w' K)
   | _,_,_=>False
  | true,some false=>Bq3 P n ops r g (Eu o.dst undef l) w K
  | _,_=>False
theorem Bq4{P:Program}{n:Nat}{o:Oper}{a:Act}{w:World}{K:Act->World->Prop}{Q:Exit->Act->World->Prop}(h:o.wp P a w K Q):o.wpIn Fence.wide n P a w K Q:=by
 refine⟨fun _ _=>trivial, ?_⟩
 show o.uponIn Fence.wide n P a K Q ((o.semAt none a.eval).run P w)
 rw[Oper.semAt_none]
 unfold Oper.wp at h
 generalize (execOp a.eval o).run P w=r at h ⊢
 cases r with
 | ok x w'=>
  cases x with
  | value v=>exact h
  | skip=>exact h
  | «defer» d=>exact h
  | enter f args=>exact⟨(fun e=>by cases e),callsIn_wide.2 h⟩
  | row row args=>exact⟨(fun e=>by cases e),fun c cs _=>let⟨v,w',r,s⟩:=h c cs;⟨v,w',r,stepsIn_wide.2 s⟩⟩
  | _=>exact h.elim
 | halt x w'=>cases x<;>exact h
theorem Xb{P:Program}{w:World}{l:List (Nat×Value)}{o:Oper}{i:Nat}(h:Mt l o.op=some i):(execOp (rho l) o).run P w=(Instr.yield i (Bq2 l o.op)).run P w:=by
 unfold Mt at h
 split at h
 ·rename_i c ho
  split at h
  ·rename_i f hf
   split at h
   ·rename_i j hj
    injection h with h
    subst h
    obtain⟨callee,args,tys⟩:=c
    simp only at hf
    subst hf
    unfold Bq2
    rw[ho]
    simp[execOp,ho,resolve,hj,Deferred.ofValue,invoke,<-Array.toList_map]
   ·cases h
  ·cases h
 ·cases h
theorem Xc{P:Program}{n:Nat}{ops:Array Oper}{Q:Exit->Act->World->Prop}: ∀(r:List Oper) (g:List Giv) (l:List (Nat×Value)) (w:World) (K:List (Nat×Value)->World->Prop) (a:Act),
  a.tmps.size=n->a.defers=df->Agr a l->Bq3 P n ops r g l w K->
  (∀a' l' w',a'.tmps.size=n->a'.defers=df->Agr a' l'->(∀k,some k∉r.map (·.dst)->F9 a' k=F9 a k)->K l' w'->Q .normal a' w')->wpListIn Fence.wide 8 P ops Q r a w
 | [],g,l,w,K,a,h1,h2,h3,h,hQ=>hQ a l w h1 h2 h3 (fun _ _=>rfl) h
 | o::r,g,l,w,K,a,h1,h2,h3,h,hQ=>by
  unfold Bq3 at h
  have next: ∀v g' w',Q2 n o.dst=true->Bq3 P n ops r g' (Eu o.dst v l) w' K->wpListIn Fence.wide 8 P ops Q r (a.put o.dst v) w':=fun v g' w' hd hh=>
   Xc r g' _ w' K (a.put o.dst v) ((F3 _ _ _).trans h1) ((put_defers _ _ _).trans h2) (L5 h3 h1 hd) hh fun a' l' w'' q1 q2 q3 q4 q5=>
    hQ a' l' w'' q1 q2 q3 (fun k hk=>(q4 k (fun hm=>hk (List.mem_cons_of_mem _ hm))).trans (M0 a _ v k fun e=>hk (by rw[List.map_cons,e];exact List.mem_cons_self))) q5
  unfold wpListIn
  split at h
  ·rename_i hd hg
   rw[if_pos (by rw[F7 h3 hg])]
   split at h
   ·rename_i i α f C g' hy hkn
    obtain⟨⟨fn,tmps,assign,body,hr,hR⟩,hC⟩:=h
    have hsel: ∀cs b,o.op≠.select cs b:=fun cs b e=>by rw[e] at hy;cases hy
    have he:execOp a.eval o=execOp (rho l) o:=execOp_congr o hsel fun x hx=>h3.rho (List.all_eq_true.1 hkn x (by simpa using hx))
    refine⟨fun _ _=>trivial, ?_⟩
    show o.uponIn Fence.wide 8 P a _ Q ((o.semAt none a.eval).run P w)
    rw[Oper.semAt_none,he,Xb hy,hr]
    refine⟨(fun e=>by cases e),hR.mono fun e w' hh=> ?_⟩
    obtain⟨x,rfl,hc⟩:=hh
    exact next _ _ _ hd (hC x w' hc)
   ·exact Bq4 (V8 h3 h fun v w' g' hh=>next v g' w' hd hh)
   ·exact h.elim
  ·rename_i hd hg
   rw[if_neg (by rw[F7 h3 hg];simp)]
   exact⟨fun _ _=>trivial,next undef g w hd h⟩
  ·exact h.elim
def Ev0(P:Program)(n:Nat)(ds:List Nat)(g:List Giv)(l0:List (Nat×Value))(w:World)(K:List (Nat×Value)->World->Prop):Code->Prop
 | .region _ ops false=>match Be ds ops.toList with
  | true=>Bq3 P n ops ops.toList g l0 w K
  | false=>False
 | _=>False
theorem Ek7{P:Program}{n:Nat}{a:Act}{w:World}{l l0:List (Nat×Value)}{c:Code}{N:Act->World->Prop}{Q:Exit->Act->World->Prop}{T:Prop}(keep ds:List Nat)(g:List Giv)(hs:Sl n a l df)(h0:AllL l l0)(hT:T)
  (he:T=Ev0 P n ds g l0 w (fun l1 w'=> ∀a',Sl n a' (Re keep l1 (A6 ds l)) df->N a' w') c):c.wp P (Exit.then N Q) a w:=by
 rw[he] at hT
 unfold Ev0 at hT
 split at hT
 ·rename_i id ops
  split at hT
  ·rename_i hd
   refine(wpIn_wide (n:=8)).1 (wpIn_region_list (Xc ops.toList g l0 w _ a hs.size hs.defers (hs.to h0).agr hT ?_))
   intro a' l' w' q1 q2 q3 q4 q5
   refine q5 a' (O9 q3 keep ⟨q1,q2,fun p hp=> ?_⟩)
   unfold A6 at hp
   obtain⟨hp1,hp2⟩:=List.mem_filter.1 hp
   rw[q4 p.1 (I3 hd p.1 (by simpa using hp2))]
   exact hs.known p hp1
  ·exact hT.elim
 ·exact hT.elim
end Go.Proofs.YtbjegfpfmnleeaaGreatDoor
namespace Go.Proofs.YtbjegfpfmnleeaaGreatDoor
open Go.RowKit
variable {df:List Deferred}
set_option maxRecDepth 100000
section
variable {P:Program} {md:Region.Mode} {ops:Array Oper} {C:World->Prop}
def Qv(md:Region.Mode)(ops:Array Oper)(n g:Nat):List (Bool×Nat)->Array Bool->Bool
 | [],done=>Region.seqB md ops g n done
 | (true,i)::r,done=>(Region.ready md ops done).contains i&&decide (i<n)&&Region.free md ops done i&&Qv md ops n g r (done.setIfInBounds i true)
 | (false,j)::r,done=>decide (Region.ready md ops done=[j])&&decide (j<n)&&Qv md ops n g r (done.setIfInBounds j true)
def Cv7(P:Program)(ops:Array Oper)(C:World->Prop)(T:Act->World->Prop):List (Bool×Oper)->Act->World->Prop
 | [],a,w=>C w/\T a w
 | (true,o)::r,a,w=>C w/\∃v,Stays P ops C o v a/\Cv7 P ops C T r (a.put o.dst v) w
 | (false,o)::r,a,w=>C w/\wpList P ops (Xu (Cv7 P ops C T r)) [o] a w
theorem Qw{Q:Exit->Act->World->Prop}{n g:Nat}{T:Act->World->Prop}(hQ: ∀c a b w,Q (.panic c) a w->Q (.panic c) b w)(hsel:Region.noSelect ops=true)(hs:Region.sinkB md ops n=true)(hc:Region.chainB md ops n=true)(hn:n<ops.size)(is:List (Bool×Nat)):
    ∀ (l : List (Bool × Oper)) (done : Array Bool) (a : Act) (w : World), is.map (fun i => (i.1, ops[i.2]?)) = l.map (fun o => (o.1, some o.2)) → HeadInv md ops n done → Qv md ops n g is done = true → Cv7 P ops C T l a w →
      headC P md ops C Q n (fun d a' w'=>Region.seqB md ops g n d=true/\T a' w') is.length done a w:=by
  induction is with
  | nil=>
    intro l done a w hl inv hB h
    cases l with
    | cons o l=>simp at hl
    | nil=>exact⟨h.1,hB,h.2⟩
  | cons i is ih=>
    intro l done a w hl inv hB h
    cases l with
    | nil=>simp at hl
    | cons o l=>
      obtain⟨b,i⟩:=i
      obtain⟨b',o⟩:=o
      simp only[List.map_cons,List.cons.injEq,Prod.mk.injEq] at hl
      obtain⟨⟨rfl,hio⟩,hl2⟩:=hl
      cases b with
      | true=>
        simp only[Qv,Bool.and_eq_true,decide_eq_true_eq] at hB
        obtain⟨⟨⟨hr,hin⟩,hf⟩,hB2⟩:=hB
        have hr2:i∈Region.ready md ops done:=by simpa using hr
        obtain⟨_,v,hy,hK⟩:=h
        exact Dl (fun c a w=>hQ c _ _ w) hio (Region.noSelect_spec hsel) hs hc hn hin (fun d a' w' hd=>seqB_ready hd.1) is.length done a w inv (Region.free_spec hio hf) hr2 hy
          (ih l _ _ w hl2 (inv.set hr2 hin) hB2 hK)
      | false=>
        simp only[Qv,Bool.and_eq_true,decide_eq_true_eq] at hB
        obtain⟨⟨hr,hjn⟩,hB2⟩:=hB
        refine⟨h.1,by rw[hr];simp,fun k hk=> ?_⟩
        rw[hr] at hk
        have hij:k=i:=by simpa using hk
        subst hij
        exact⟨hjn,T0 hio (fun b u hb=>ih l _ b u hl2 (inv.set (by rw[hr];simp) hjn) hB2 hb) h.2⟩
end
def Ha(ops:List Oper):List (Bool×Nat)->List (Bool×Oper)
 | []=>[]
 | i::r=>match ops[i.2]? with
  | some o=>(i.1,o)::Ha ops r
  | none=>Ha ops r
theorem Ka{ops:List Oper}: ∀(is:List (Bool×Nat)),is.all (fun i=>decide (i.2<ops.length))=true->is.map (fun i=>(i.1,ops.toArray[i.2]?))=(Ha ops is).map (fun o=>(o.1,some o.2))
 | [],_=>rfl
 | i::r,h=>by
  simp only[List.all_cons,Bool.and_eq_true,decide_eq_true_iff] at h
  unfold Ha
  rw[List.getElem?_eq_getElem h.1]
  simp only[List.map_cons]
  rw[<-Ka r h.2]
  simp[h.1]
theorem Cr{ops:List Oper}: ∀(is:List (Bool×Nat)),∀o∈Ha ops is,o.2∈ops
 | [],o,h=>by cases h
 | i::r,o,h=>by
  unfold Ha at h
  split at h
  ·rename_i o' ho
   rcases List.mem_cons.1 h with rfl | h
   ·exact List.mem_of_getElem? ho
   ·exact Cr r o h
  ·exact Cr r o h
def Wj(ops:List Oper)(is:List (Bool×Nat))(n:Nat):Bool:=
 is.all (fun i=>decide (i.2<ops.length))&&decide (is.length=n)&&
 (Region.noSelect ops.toArray&&decide (n<ops.length)&&Region.sinkB .any ops.toArray n&&Region.chainB .any ops.toArray n&&Qv .any ops.toArray n (ops.length-n) is (Array.replicate ops.length false))
theorem Bp1{P:Program}{id:Nat}{Q:Exit->Act->World->Prop}{a:Act}{w:World}{l:List Oper}(C:World->Prop)(is:List (Bool×Nat))(n:Nat)(hm:P.follows .mixedOrders=true)(hB:Wj l is n=true)
  (h:Cv7 P l.toArray C (fun b u=>wpList P l.toArray (Xu (Q .normal)) (l.drop n) b u) (Ha l is) a {w with drawn:=w.drawn+1}):rg P Q a w (.region id l.toArray true):=by
 unfold Wj at hB
 simp only[Bool.and_eq_true,decide_eq_true_eq] at hB
 obtain⟨⟨hall,hlen⟩,⟨⟨⟨hsel,hn⟩,hs⟩,hc⟩,hplan⟩:=hB
 have hn2:n<l.toArray.size:=by simpa using hn
 have inv:HeadInv .any l.toArray n (Array.replicate l.length false):=
  ⟨by simp,fun j oj _ hl=>(by rw[getD_replicate_false] at hl;cases hl),fun t _ ht=>getD_in (by simpa using ht) (getD_replicate_false _ _)⟩
 have H:=Qw (P:=P) (md:=.any) (C:=C) (Q:=NoPanic Q) (T:=fun b u=>wpList P l.toArray (Xu (Q .normal)) (l.drop n) b u) (g:=l.length-n) (fun c a b w h=>h) hsel hs hc hn2 is (Ha l is) _ a _ (Ka is hall) inv hplan h
 refine⟨hm,NoPanic Q,NoPanic.imp, ?_⟩
 have hdl:(l.drop n).length=l.length-n:=by simp
 have:=Dk (Q:=NoPanic Q) (g:=l.length-n) (fun done a' w' hL=>by
  have hw:wpList P l.toArray (NoPanic Q) (l.drop n) a' w':=N3 (fun _ _ h=>h) _ a' w' hL.2
  have:=wpAny_of_seq (md:=.any) (Q':=NoPanic Q) (l.drop n) n done a' w' (fun j=>by simp[List.getElem?_drop]) (by rw[hdl];exact hL.1) hw
  rwa [hdl] at this) _ _ a _ H
 rw[hlen,show n+(l.length-n)=l.toArray.size by simp;omega] at this
 exact this
def evP(P:Program)(n:Nat)(ops:Array Oper)(C:World->Prop):List (Bool×Oper)->List Giv->List (Nat×Value)->World->(List (Nat×Value)->World->List Giv->Prop)->Prop
 | [],g,l,w,K=>C w/\K l w g
 | (true,o)::r,g,l,w,K=>C w/\match o.dst,gdL ops l o with
  | some d,some true=>match decide (d<n) with
   | true=>Vu P C l o g (fun v g'=>evP P n ops C r g' ((d,v)::l) w K)
   | false=>False
  | _,_=>False
 | (false,o)::r,g,l,w,K=>C w/\match Q2 n o.dst,gdL ops l o with
  | true,some true=>Ak7 P l w o g (fun v w' g'=>evP P n ops C r g' (Eu o.dst v l) w' K)
  | _,_=>False
theorem Wl{P:Program}{n:Nat}{ops:Array Oper}{C:World->Prop}{T:Act->World->Prop}: ∀(r:List (Bool×Oper)) (g:List Giv) (l:List (Nat×Value)) (w:World) (K:List (Nat×Value)->World->List Giv->Prop) (a:Act),
  a.tmps.size=n->a.defers=df->Agr a l->evP P n ops C r g l w K->
  (∀a' l' w' g',a'.tmps.size=n->a'.defers=df->Agr a' l'->(∀k,some k∉r.map (·.2.dst)->F9 a' k=F9 a k)->K l' w' g'->T a' w')->Cv7 P ops C T r a w
 | [],g,l,w,K,a,h1,h2,h3,h,hT=>⟨h.1,hT a l w g h1 h2 h3 (fun _ _=>rfl) h.2⟩
 | (true,o)::r,g,l,w,K,a,h1,h2,h3,h,hT=>by
  unfold evP at h
  refine⟨h.1, ?_⟩
  have h:=h.2
  split at h
  ·rename_i d hd hg
   split at h
   ·rename_i hdn
    have hdn:d<n:=by simpa using hdn
    obtain⟨v,g',hw,hh⟩:=V4 h3 h
    refine⟨v,⟨by rw[F7 h3 hg],⟨d,hd,by rw[h1];exact hdn⟩,hw⟩, ?_⟩
    have hag:Agr (a.put o.dst v) ((d,v)::l):=by
     have:=L5 (d:=some d) (v:=v) h3 h1 (by simpa[Q2] using hdn)
     rw[hd]
     exact this
    exact Wl r g' _ w K (a.put o.dst v) ((F3 _ _ _).trans h1) ((put_defers _ _ _).trans h2) hag hh fun a' l' w' g'' q1 q2 q3 q4 q5=>
     hT a' l' w' g'' q1 q2 q3 (fun k hk=>(q4 k (fun hm=>hk (List.mem_cons_of_mem _ hm))).trans (M0 a _ v k fun e=>hk (by rw[List.map_cons,e];exact List.mem_cons_self))) q5
   ·exact h.elim
  ·exact h.elim
 | (false,o)::r,g,l,w,K,a,h1,h2,h3,h,hT=>by
  unfold evP at h
  refine⟨h.1, ?_⟩
  have h:=h.2
  split at h
  ·rename_i hd hg
   refine wpList_step fun N hN=> ?_
   rw[if_pos (by rw[F7 h3 hg])]
   refine V8 h3 h fun v w' g' hh=>hN _ _ ?_
   exact Wl r g' _ w' K (a.put o.dst v) ((F3 _ _ _).trans h1) ((put_defers _ _ _).trans h2) (L5 h3 h1 hd) hh fun a' l' w'' g'' q1 q2 q3 q4 q5=>
    hT a' l' w'' g'' q1 q2 q3 (fun k hk=>(q4 k (fun hm=>hk (List.mem_cons_of_mem _ hm))).trans (M0 a _ v k fun e=>hk (by rw[List.map_cons,e];exact List.mem_cons_self))) q5
  ·exact h.elim
def Eu1(P:Program)(n k:Nat)(is:List (Bool×Nat))(ds:List Nat)(C:World->Prop)(g:List Giv)(l0:List (Nat×Value))(w:World)(K:List (Nat×Value)->World->Prop):Code->Prop
 | .region _ ⟨ops⟩ true=>match Be ds ops,P.follows .mixedOrders,Wj ops is k with
  | true,true,true=>evP P n ⟨ops⟩ C (Ha ops is) g l0 (w.drewN 1) (fun l2 w2 g3=>evL P n ⟨ops⟩ (ops.drop k) g3 l2 w2 K)
  | _,_,_=>False
 | _=>False
theorem Sq{P:Program}{n:Nat}{a:Act}{w:World}{l l0:List (Nat×Value)}{c:Code}{N:Act->World->Prop}{Q:Exit->Act->World->Prop}{T:Prop}(k:Nat)(is:List (Bool×Nat))(C:World->Prop)(keep ds:List Nat)(g:List Giv)(hs:Sl n a l df)(h0:AllL l l0)(hT:T)
  (he:T=Eu1 P n k is ds C g l0 w (fun l1 w'=> ∀a',Sl n a' (Re keep l1 (A6 ds l)) df->N a' w') c):rg P (Exit.then N Q) a w c:=by
 rw[he] at hT
 unfold Eu1 at hT
 split at hT
 ·rename_i id ops
  split at hT
  ·rename_i hd hm hB
   have hno: ∀p∈A6 ds l,∀o∈ops,o.dst≠some p.1:=fun p hp o ho e=>by
    obtain⟨_,hp2⟩:=List.mem_filter.1 hp
    exact I3 hd p.1 (by simpa using hp2) (List.mem_map.2 ⟨o,ho,e⟩)
   refine Bp1 C is k hm hB ?_
   refine Wl _ g l0 _ _ a hs.size hs.defers (hs.to h0).agr hT ?_
   intro a2 l2 w2 g3 r1 r2 r3 r4 r5
   refine Kf (ops.drop k) g3 l2 w2 _ a2 r1 r2 r3 r5 ?_
   intro a' l' w' q1 q2 q3 q4 q5
   refine q5 a' (O9 q3 keep ⟨q1,q2,fun p hp=> ?_⟩)
   have hn:=hno p hp
   rw[q4 p.1 (fun hm=>by obtain⟨o,ho,e⟩:=List.mem_map.1 hm;exact hn o (List.mem_of_mem_drop ho) e),r4 p.1 (fun hm=>by obtain⟨o,ho,e⟩:=List.mem_map.1 hm;exact hn o.2 (Cr is o ho) e)]
   exact hs.known p (List.mem_filter.1 hp).1
  ·exact hT.elim
 ·exact hT.elim
end Go.Proofs.YtbjegfpfmnleeaaGreatDoor
namespace Go.Proofs.YtbjegfpfmnleeaaGreatDoor
open Go.RowKit Go.Sort
set_option maxRecDepth 100000
variable {a:Act} {w:World} {df:List Deferred} {N:Act->World->Prop} {Q:Exit->Act->World->Prop} {l:List (Nat×Value)}
variable {b9:Bool} {g1 ge gm j n6:Nat}
noncomputable def Ad6 (n:Nat):Code:=((Tryz.f130.body.bind (D4 n)).getD .skip)
noncomputable def Et9:Code:=(.seq (.seq (Ad6 1) (.cond (.tmp 9) .skip (.exit 0))) (.seq (.block 1 (.seq (Ad6 3) (.cond (.tmp 17) .ret .skip))) (Ad6 2)))
noncomputable def Az3:Code:=(.seq (Ad6 0) (.block 0 (.loop Et9)))
theorem Bo9:Tryz.f130.body=some Az3:=by kernel_rfl
theorem Ej6{p7:Option Addr}(hs:Sl 18 a l df)(e1:Lk l 1 (pT g1))(l0:Lp 117 (pT g1) (pT gm) w)(l1:Lp 161 (pF gm 9) (.pointer p7) w)
  (hN: ∀a',Sl 18 a' ((3,.pointer p7)::A6 [3,4,5,6,7] l) df->N a' w):Rg N Q a w (Ad6 0):=
 reg [3] [3,4,5,6,7] [.val (pT gm),.val (.pointer p7)] hs (Zc e1 Zz) (aI l0.run (aI l1.run hN)) Zk
theorem Cv3(hs:Sl 18 a l df)(e3:Lk l 3 (.pointer none))(h0: ∀w,(binOp .neq 161 (.pointer none) (.pointer none)).run Tryz.prog w=.ok (.bool b9) w)
  (hN: ∀a',Sl 18 a' ((9,.bool b9)::A6 [8,9] l) df->N a' w):Rg N Q a w (Ad6 1):=
 reg [9] [8,9] [.bin (.bool b9)] hs (Zc e3 Zz) (aI (G4 (x:=.tmp 8) (y:=.const (.pointer none)) Zk (h0 w)) hN) Zk
theorem Cv4(hs:Sl 18 a l df)(e3:Lk l 3 (pT ge))(h0: ∀w,(binOp .neq 161 (pT ge) (.pointer none)).run Tryz.prog w=.ok (.bool b9) w)
  (hN: ∀a',Sl 18 a' ((9,.bool b9)::A6 [8,9] l) df->N a' w):Rg N Q a w (Ad6 1):=
 reg [9] [8,9] [.bin (.bool b9)] hs (Zc e3 Zz) (aI (G4 (x:=.tmp 8) (y:=.const (.pointer none)) Zk (h0 w)) hN) Zk
theorem Ej7{p13:Option Addr}(hs:Sl 18 a l df)(e3:Lk l 3 (pT ge))(l0:Lp 161 (pF ge 25) (.pointer p13) w)
  (hN: ∀a',Sl 18 a' ((3,.pointer p13)::A6 [3,10,11,12,13] l) df->N a' w):Rg N Q a w (Ad6 2):=
 reg [3] [3,10,11,12,13] [.val (.pointer p13)] hs (Zc e3 Zz) (aI l0.run hN) Zk
theorem Ej8{yl ge:Nat}{C0:Bool->World->Prop}(hs:Sl 18 a l df)(e0:Lk l 0 (.func (.yield yl) #[] #[]))(e3:Lk l 3 (pT ge))(k0:YieldAt Fence.wide 7 Tryz.prog yl #[pT ge] w fun e w'=> ∃x16:Bool,e=.returned (.bool x16)/\C0 x16 w')
  (hN: ∀a' (x16:Bool) (w1:World),C0 x16 w1->Sl 18 a' ((17,.bool (!x16))::A6 [14,15,16,17] l) df->N a' w1):(Ad6 3).wp Tryz.prog (Exit.then N Q) a w:=
 Ek7 (l0:=[(0,.func (.yield yl) #[] #[]),(3,pT ge)]) [17] [14,15,16,17] [.ex Bool (fun x16=>.bool x16) C0] hs ⟨e0,e3,trivial⟩ (aI k0 (fun(x16:Bool) (w1:World) (hc0:C0 x16 w1)a'=>hN a' x16 w1 hc0)) Zk
noncomputable def Wi (n:Nat):Code:=((Tryz.f167.body.bind (D4 n)).getD .skip)
noncomputable def Eu0:Code:=(.seq (Wi 1) (.seq (.cond (.tmp 9) .skip (.exit 0)) (.seq (.block 1 (.seq (Wi 2) (.seq (Wi 3) (.cond (.tmp 18) .ret .skip)))) (Wi 4))))
noncomputable def Az4:Code:=(.seq (Wi 0) (.block 0 (.loop Eu0)))
theorem Bp0:Tryz.f167.body=some Az4:=by kernel_rfl
theorem Ej9{np:Nat}{C0:S3->World->Prop}(hs:Sl 20 a l df)(e1:Lk l 1 (pT g1))(l0:Lp 117 (pT g1) (pT gm) w)(k1:Ca 168 #[pT gm] w fun e w'=> ∃x6:S3,e=.returned (.slice x6.d np x6.c)/\C0 x6 w')
  (hN: ∀a' (x6:S3) (w1:World),C0 x6 w1->Sl 20 a' ((6,.slice x6.d np x6.c)::(7,ii (np:Int))::(8,ii 0)::A6 [5,6,7,8] l) df->N a' w1):Rg N Q a w (Wi 0):=
 reg [6,7,8] [5,6,7,8] [.val (pT gm),.ex (S3) (fun x6=>.slice x6.d np x6.c) C0] hs (Zc e1 Zz) (aI l0.run (aI k1 (fun(x6:S3) (w1:World) (hc0:C0 x6 w1)a'=>hN a' x6 w1 hc0))) Zk
theorem Cv5(hs:Sl 20 a l df)(e8:Lk l 8 (ii (j:Int)))(e7:Lk l 7 (ii (n6:Int)))(h0:decide ((j:Int)<(n6:Int))=b9)
  (hN: ∀a',Sl 20 a' ((9,.bool b9)::A6 [9] l) df->N a' w):Rg N Q a w (Wi 1):=
 reg [9] [9] [.bit b9] hs (Zc e8<|Zc e7 Zz) (aI h0 hN) Zk
theorem Ek0{d6:Option Addr}{c6 g10 o10:Nat}{dk dv:Dt}{mk mv:Dm}{ow:Bool}(hs:Sl 20 a l df)(e6:Lk l 6 (.slice d6 n6 c6))(e8:Lk l 8 (ii (j:Int)))(i0:Ix 264 (.slice d6 n6 c6) (ii (j:Int)) (pF g10 o10))(l1:Lp 267 (pF g10 o10) (.agg #[ii dk.h.kind,.string dk.h.type,ii dk.h.n,.int .u64 dk.h.f,.string dk.h.s,ii dk.h.obj,ii dk.h.frm,ii dk.h.len,ii dk.h.cap,.slice mk.pa dk.h.path.length mk.pc,.slice mk.ia dk.k.len mk.ic,ii dv.h.kind,.string dv.h.type,ii dv.h.n,.int .u64 dv.h.f,.string dv.h.s,ii dv.h.obj,ii dv.h.frm,ii dv.h.len,ii dv.h.cap,.slice mv.pa dv.h.path.length mv.pc,.slice mv.ia dv.k.len mv.ic,.bool ow]) w)(s2:So 267 w.heap.size 0 (.agg #[ii dk.h.kind,.string dk.h.type,ii dk.h.n,.int .u64 dk.h.f,.string dk.h.s,ii dk.h.obj,ii dk.h.frm,ii dk.h.len,ii dk.h.cap,.slice mk.pa dk.h.path.length mk.pc,.slice mk.ia dk.k.len mk.ic,ii dv.h.kind,.string dv.h.type,ii dv.h.n,.int .u64 dv.h.f,.string dv.h.s,ii dv.h.obj,ii dv.h.frm,ii dv.h.len,ii dv.h.cap,.slice mv.pa dv.h.path.length mv.pc,.slice mv.ia dv.k.len mv.ic,.bool ow]) (w.alloc (.cells #[ii 0,.string (⟨#[]⟩),ii 0,.int .u64 0,.string (⟨#[]⟩),ii 0,ii 0,ii 0,ii 0,.slice none 0 0,.slice none 0 0,ii 0,.string (⟨#[]⟩),ii 0,.int .u64 0,.string (⟨#[]⟩),ii 0,ii 0,ii 0,ii 0,.slice none 0 0,.slice none 0 0,.bool false] 267)) [ii dk.h.kind,.string dk.h.type,ii dk.h.n,.int .u64 dk.h.f,.string dk.h.s,ii dk.h.obj,ii dk.h.frm,ii dk.h.len,ii dk.h.cap,.slice mk.pa dk.h.path.length mk.pc,.slice mk.ia dk.k.len mk.ic,ii dv.h.kind,.string dv.h.type,ii dv.h.n,.int .u64 dv.h.f,.string dv.h.s,ii dv.h.obj,ii dv.h.frm,ii dv.h.len,ii dv.h.cap,.slice mv.pa dv.h.path.length mv.pc,.slice mv.ia dv.k.len mv.ic,.bool ow])
  (hN: ∀a',Sl 20 a' ((4,pT w.heap.size)::A6 [4,10,11] l) df->N a' ((w.alloc (.cells #[ii 0,.string (⟨#[]⟩),ii 0,.int .u64 0,.string (⟨#[]⟩),ii 0,ii 0,ii 0,ii 0,.slice none 0 0,.slice none 0 0,ii 0,.string (⟨#[]⟩),ii 0,.int .u64 0,.string (⟨#[]⟩),ii 0,ii 0,ii 0,ii 0,.slice none 0 0,.slice none 0 0,.bool false] 267)).setCells w.heap.size 0 [ii dk.h.kind,.string dk.h.type,ii dk.h.n,.int .u64 dk.h.f,.string dk.h.s,ii dk.h.obj,ii dk.h.frm,ii dk.h.len,ii dk.h.cap,.slice mk.pa dk.h.path.length mk.pc,.slice mk.ia dk.k.len mk.ic,ii dv.h.kind,.string dv.h.type,ii dv.h.n,.int .u64 dv.h.f,.string dv.h.s,ii dv.h.obj,ii dv.h.frm,ii dv.h.len,ii dv.h.cap,.slice mv.pa dv.h.path.length mv.pc,.slice mv.ia dv.k.len mv.ic,.bool ow])):Rg N Q a w (Wi 2):=
 reg [4] [4,10,11] [.val (pF g10 o10),.val (.agg #[ii dk.h.kind,.string dk.h.type,ii dk.h.n,.int .u64 dk.h.f,.string dk.h.s,ii dk.h.obj,ii dk.h.frm,ii dk.h.len,ii dk.h.cap,.slice mk.pa dk.h.path.length mk.pc,.slice mk.ia dk.k.len mk.ic,ii dv.h.kind,.string dv.h.type,ii dv.h.n,.int .u64 dv.h.f,.string dv.h.s,ii dv.h.obj,ii dv.h.frm,ii dv.h.len,ii dv.h.cap,.slice mv.pa dv.h.path.length mv.pc,.slice mv.ia dv.k.len mv.ic,.bool ow]),.raw,.sto] hs (Zc e6<|Zc e8 Zz) (aI (i0 w) (aI l1.run (aI s2 hN))) Zk
theorem Ek1{yl g4:Nat}{dk dv:Dt}{mk mv:Dm}{C0:Bool->World->Prop}(hs:Sl 20 a l df)(e0:Lk l 0 (.func (.yield yl) #[] #[]))(e4:Lk l 4 (pT g4))(l0:Lp 53 (pT g4) (.agg (dk.cs mk)) w)(l1:Lp 53 (pF g4 11) (.agg (dv.cs mv)) w)(k2:YieldAt Fence.wide 7 Tryz.prog yl #[.agg (dk.cs mk),.agg (dv.cs mv)] w fun e w'=> ∃x17:Bool,e=.returned (.bool x17)/\C0 x17 w')
  (hN: ∀a' (x17:Bool) (w1:World),C0 x17 w1->Sl 20 a' ((18,.bool (!x17))::A6 (List.range' 12 7) l) df->N a' w1):(Wi 3).wp Tryz.prog (Exit.then N Q) a w:=
 Ek7 (l0:=[(0,.func (.yield yl) #[] #[]),(4,pT g4)]) [18] (List.range' 12 7) [.val (.agg (dk.cs mk)),.val (.agg (dv.cs mv)),.ex Bool (fun x17=>.bool x17) C0] hs ⟨e0,e4,trivial⟩ (aI l0.run (aI l1.run (aI k2 (fun(x17:Bool) (w1:World) (hc0:C0 x17 w1)a'=>hN a' x17 w1 hc0)))) Zk
theorem Ek2(hs:Sl 20 a l df)(e8:Lk l 8 (ii (j:Int)))(h0: -9223372036854775808<=(j:Int)+1/\(j:Int)+1<=9223372036854775807)
  (hN: ∀a',Sl 20 a' ((8,ii ((j:Int)+1))::A6 [8,19] l) df->N a' w):Rg N Q a w (Wi 4):=
 reg [8] [8,19] [.ari] hs (Zc e8 Zz) (aI h0 hN) Zk
end Go.Proofs.YtbjegfpfmnleeaaGreatDoor
namespace Go.Proofs.YtbjegfpfmnleeaaGreatDoor
open Go.RowKit
set_option maxRecDepth 100000
def Ej4(ds:List Nat):List Deferred:=ds.map fun D=>{target:=.collected D,args:=#[]}
theorem S7{P:Program}{n:Nat}{fn:Func}{tmps:Array Value}{R:Ending->World->Prop}(B:Nat): ∀(ds:List Nat) (w:World),ds.Nodup->(∀D∈ds,B<=D/\w.heap[D]? =some (.deferred (some [])))->
  (∀w',Ext B w w'->∃v,(results fn tmps).run P w'=.ok v w'/\R (.returned v) w')->LeavesInM Fence.wide n P fn tmps R (Ej4 ds) .returning w
 | [],w,_,_,h=>h w (Ext.refl B w)
 | D::ds,w,hn,hD,h=>by
  obtain⟨h1,h2⟩:=hD D List.mem_cons_self
  refine⟨by simp,.inl ⟨D,_,rfl,run_takeDeferred h2, ?_⟩⟩
  have hx:Ext B w (w.putObj D (.deferred none)):=Ext.put _ h2 rfl h1
  refine S7 B ds _ (List.nodup_cons.1 hn).2 (fun D' hD'=> ?_) (fun w' hw'=>h w' (hx.trans hw'))
  obtain⟨h3,h4⟩:=hD D' (List.mem_cons_of_mem _ hD')
  exact⟨h3,(World.putObj_heap_other (fun e=>(List.nodup_cons.1 hn).1 (by subst e;exact hD'))).trans h4⟩
theorem X9{P:Program}{f:FuncId}{fn:Func}{c:Code}{vs:List Value}{w:World}{R:Ending->World->Prop}(n:Nat)(hf:P.funcs[f]? =some fn)(hb:fn.body=some c)(hn:fn.ntmps=n)(hv:vs.length<=n)
  (h: ∀a,Sl n a (Vv 0 vs)->c.wp P (bodyPostM Fence.wide 9 P fn R) a w):Calls P f vs.toArray w R:=by
 refine(callsIn_wide (n:=9)).1 (callsIn_of_wp_marks hf hb trivial (wpIn_wide.2 ?_))
 rw[hn]
 exact h _ (Sl.start vs n hv)
theorem Ew4{P:Program}{l n:Nat}{x y:Code}{Q:Exit->Act->World->Prop}{a:Act}{w:World}(h:rg P (Exit.then (y.wpIn (S8 l) n P Q) Q) a w x)(hn:ndB x=true)(ho: ¬LetsOut Q):(Code.seq x y).wpIn (S8 l) n P Q a w:=
 wpIn_seq (Rc h hn (fun⟨a,w,h⟩=>ho ⟨a,w,h⟩))
theorem Dn6{P:Program}{l n:Nat}{c:Code}{Q:Exit->Act->World->Prop}{a:Act}{w:World}(h:rg P (Exit.then (Q .normal) Q) a w c)(hn:ndB c=true)(ho: ¬LetsOut Q):c.wpIn (S8 l) n P Q a w:=by
 have e:Exit.then (Q .normal) Q=Q:=by
  funext e a w
  cases e<;>rfl
 rw[e] at h
 exact Rc h hn ho
theorem Jw{α:Type}{B:Nat}{I:List α->World->Prop}{Ix:Code->List α->World->Prop}{xs:List α}{W:World}: ¬LetsOut (Cv1 B I Ix xs W):=fun⟨_,_,h⟩=>h
theorem U2{id:Nat}{Q:Exit->Act->World->Prop}(h: ¬LetsOut Q): ¬LetsOut (Exit.inBlock id Q):=fun⟨a,w,hh⟩=>h ⟨a,w,hh⟩
theorem Jy(w:World)(m:Nat):Calls Tryz.prog 117 #[pT m] w fun e w'=>e=.returned (.func (.func 130) #[] #[pT w.heap.size])/\(Blk w' w.heap.size 117 #[pT m]/\Below w.heap.size w w'):=by
 refine B6 (vs:=[pT m]) 4 Tryz.func117 Bo0 Zk (by simp) fun a0 h0=> ?_
 unfold Ay3
 refine Zs (Eh6 h0 rfl fun a1 h1=> ?_)
 refine Zs (Eh7 h1 rfl fun a2 h2=>wp_ret ?_)
 exact G7 rfl h2 rfl ⟨rfl,Blk.new _ _ _,B2 (Below.refl _ _) _⟩
theorem Wg(w:World)(m:Nat):Calls Tryz.prog 166 #[pT m] w fun e w'=>e=.returned (.func (.func 167) #[] #[pT w.heap.size])/\(Blk w' w.heap.size 117 #[pT m]/\Below w.heap.size w w'):=by
 refine B6 (vs:=[pT m]) 4 Tryz.func166 Bo1 Zk (by simp) fun a0 h0=> ?_
 unfold Ay4
 refine Zs (Eh8 h0 rfl fun a1 h1=> ?_)
 refine Zs (Eh9 h1 rfl fun a2 h2=>wp_ret ?_)
 exact G7 rfl h2 rfl ⟨rfl,Blk.new _ _ _,B2 (Below.refl _ _) _⟩
def Ej5(O:List En)(g1 m:Nat)(W:World):Prop:=W.cell? ⟨g1,0,none⟩=some (pT m)/\W.cell? ⟨m,9,none⟩=some (.pointer (pO O.head?))/\∀X e Z,O=X++e::Z->W.cell? ⟨e.g,25,none⟩=some (.pointer (pO Z.head?))
theorem Jz{O X Z:List En}{e:En}(hn:(O.map (·.g)).Nodup)(h:O=X++e::Z):(O.map (·.g)).idxOf e.g=X.length:=by
 rw[h,List.map_append,List.map_cons] at hn
 rw[h,List.map_append,List.map_cons,List.idxOf_append,if_neg]
 ·simp
 ·intro hm
  exact(List.nodup_append.1 hn).2.2 _ hm _ List.mem_cons_self rfl
set_option maxHeartbeats 1000000 in
theorem Ob(O:List En)(hnd:(O.map (·.g)).Nodup)(g1 m:Nat)(w0:World):Et8 Tryz.prog 130 #[pT g1] (fun e:En=>#[pT e.g]) (Ej5 O g1 m) (fun pre e _=> ∃Z,O=pre++e::Z) (fun xs _=>xs=O) w0:=by
 intro l J Jx W hb hJ hJx hM hY h0
 refine callsIn_wide.2 (B6 (vs:=[.func (.yield l) #[] #[],pT g1]) 18 Tryz.func130 Bo9 Zk (by simp) fun a0 h0'=> ?_)
 unfold Az3
 obtain⟨c1,c2,c3⟩:=hM _ _ h0
 refine Zs (Ej6 h0' rfl (H9 Tryz.underlying117 rfl c1) (H9 Tryz.underlying161 rfl c2) fun a1 h1=> ?_)
 refine wp_block ?_
 refine wp_loop (fun a' wr=> ∃(pre Z:List En),O=pre++Z/\Sl 18 a' [(3,.pointer (pO Z.head?)),(0,.func (.yield l) #[] #[]),(1,pT g1)]/\J pre wr)
  (fun a' _=>match F9 a' 3 with
   | .pointer (some p)=>(O.map (·.g)).length-(O.map (·.g)).idxOf p.block
   | _=>0)
  ⟨[],O,rfl,h1.to ⟨rfl,rfl,rfl,trivial⟩,h0⟩ ?_
 rintro a2 w2 ⟨pre,Z,hO,h2,hJ2⟩
 unfold Et9
 cases Z with
 | nil=>
  refine wp_seq (Zs (Cv3 h2 rfl (fun w=>Vy w) fun a3 h3=>wpx (h3.look 9 rfl) ?_))
  refine A8 (B8 ?_)
  exact bodyPost_end (results_none rfl _ _ _) h3.defers ⟨⟨_,rfl⟩,.inl ⟨pre,by rw[hO];simp,hJ2⟩⟩
 | cons e Z=>
  have hix:=Jz hnd hO
  have hmu:(match F9 a2 3 with
   | .pointer (some p)=>(O.map (·.g)).length-(O.map (·.g)).idxOf p.block
   | _=>0)=O.length-pre.length:=by
   rw[h2.look 3 rfl]
   show(O.map (·.g)).length-(O.map (·.g)).idxOf e.g=_
   rw[hix,List.length_map]
  rw[hmu]
  refine wp_seq (Zs (Cv4 h2 rfl (fun w=>Gz ⟨e.g,0,none⟩ w) fun a3 h3=>wpn (h3.look 9 rfl) ?_))
  refine wp_seq (wp_block ?_)
  refine wp_seq (Ej8 (C0:=fun b W'=>(b=true/\J (pre++[e]) W')\/(b=false/\Jx (pre++[e]) W')) h3 rfl rfl (YieldAt.mono (hY pre e w2 hJ2 ⟨Z,hO⟩) fun r W' hh=> ?_) fun a4 b w4 hx h4=> ?_)
  ·rcases hh with⟨rfl,hh⟩ | ⟨rfl,hh⟩
   ·exact⟨true,rfl,.inl ⟨rfl,hh⟩⟩
   ·exact⟨false,rfl,.inr ⟨rfl,hh⟩⟩
  rcases hx with⟨rfl,hJ4⟩ | ⟨rfl,hJx4⟩
  ·refine B9 (h4.look 17 rfl) (B1 ?_)
   show Code.wp _ (Ad6 2) _ a4 w4
   have hO':O=(pre++[e])++Z:=by rw[hO];simp
   refine Zl (Ej7 h4 rfl (H9 Tryz.underlying161 rfl ((hM _ _ hJ4).2.2 pre e Z hO)) fun a5 h5=>⟨⟨pre++[e],Z,hO',h5.to ⟨rfl,rfl,rfl,trivial⟩,hJ4⟩, ?_⟩)
   rw[h5.look 3 rfl]
   have hl:O.length=pre.length+1+Z.length:=by rw[hO];simp;omega
   cases Z with
   | nil=>show 0<_;omega
   | cons e2 Z2=>
    show(O.map (·.g)).length-(O.map (·.g)).idxOf e2.g<_
    rw[Jz hnd hO',List.length_map]
    simp only[List.length_append,List.length_cons,List.length_nil] at hl ⊢
    omega
  ·refine wp_cond_true (h4.look 17 rfl) (wp_ret ?_)
   repeat (first | with_reducible refine D2 ?_ | with_reducible refine F1 ?_)
   exact bodyPost_ret (results_none rfl _ _ _) h4.defers ⟨⟨_,rfl⟩,.inr ⟨_,hJx4⟩⟩
end Go.Proofs.YtbjegfpfmnleeaaGreatDoor
namespace Go.Proofs.YtbjegfpfmnleeaaGreatDoor
open Go.RowKit Go.Sort
def Dt8(w:World)(k:Fo)(g j:Nat):Prop:=
 ∀i a b,i<j->k.get i=some (a,b)->∃pa pc ia ic,CellsAt w g (i*11) (a.cells pa pc ia b.len ic)/\DatAt w (fun x=>g<x) a b pa pc ia ic
theorem Tg{wr w6:World}{k:Fo}{g j:Nat}{a:Hd}{b:Fo}{cu:Array Value}{t:TypeId}{qa:Option Addr}{qc:Nat}{ja:Option Addr}{jc:Nat}(gH:Dt8 wr k g j)(hlt:g<wr.heap.size)
  (hb6:Below wr.heap.size wr w6) (hget:k.get j=some (a,b)) (hB:Blk w6 g t cu) (hsz:j*11+11<=cu.size) (hda:DatAt w6 (fun x=>wr.heap.size<=x) a b qa qc ja jc):
  Dt8 (w6.setCells g (j*11) (a.cells qa qc ja b.len jc).toList) k g (j+1):=by
 intro i c d hi e
 have hlen:(a.cells qa qc ja b.len jc).toList.length=11:=by simp[Hd.cells]
 by_cases hij:i=j
 ·subst hij
  rw[hget] at e
  injection e with e
  injection e with e1 e2
  subst e1 e2
  exact⟨qa,qc,ja,jc,fun n v hv=>World.rangeAt_setCells_same w6 g (i*11) _ (O3 hB (by rw[hlen];exact hsz)) n v (by simpa using hv),
   hda.keep (fun x h1 _=>D9 g _ _ _ x Zo) (fun x h1 _=>by omega)⟩
 ·obtain⟨pa,pc,ia,ic,h1,h2⟩:=gH i c d Zo e
  refine⟨pa,pc,ia,ic,fun n v hv=> ?_,h2.keep (fun x h1 h3=>(D9 g _ _ _ x Zo).trans (hb6.block x h3)) (fun _ h _=>h)⟩
  have hn:n<11:=by
   have:n<(c.cells pa pc ia d.len ic).size:=by
    rcases Nat.lt_or_ge n (c.cells pa pc ia d.len ic).size with h | h
    ·exact h
    ·rw[Array.getElem?_eq_none h] at hv;cases hv
   simpa[Hd.cells] using this
  rw[World.cell?_setCells_out g _ (j*11) w6 ⟨g,i*11+n,none⟩ (fun _ _=>by rw[hlen];show i*11+n<j*11\/j*11+11<=i*11+n;omega)]
  exact(hb6.cell (p:=⟨g,i*11+n,none⟩) hlt).trans (h1 n v hv)
theorem J7{w w':World}(h:w.grownBy w' none):Below w.heap.size w w':=⟨h.os,h.tape,h.output,h.size,fun k hk=>h.block k hk (by simp)⟩
theorem Af0{w:World}{B g n:Nat}{e:TypeId}{xs:List Value}(h:w.ownsRow B e 11 (.slice (some ⟨g,0,none⟩) n n) n xs): ∃cur,Blk w g e cur/\cur.size=n*11:=by
 rcases h.2 with⟨h,_⟩ | ⟨g',cap,cur,he,_,hh,_,_,hs,_⟩
 ·cases h
 ·injection he with e1 _ e3
  injection e1 with e1
  injection e1 with e1
  subst e1 e3
  exact⟨cur,hh,hs⟩
end Go.Proofs.YtbjegfpfmnleeaaGreatDoor
