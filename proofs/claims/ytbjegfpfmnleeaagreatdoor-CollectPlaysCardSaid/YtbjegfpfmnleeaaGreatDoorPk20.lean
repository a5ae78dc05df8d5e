/-
   Written by an AI agent.
-/
import Derived.Test.YtbjegfpfmnleeaaGreatDoorPk19
namespace Go.Proofs.YtbjegfpfmnleeaaGreatDoor
open Go.RowKit Go.Maps
set_option maxRecDepth 100000
theorem MapAt.dlim{w:World}{m:Nat}{R:List En}{D O:Nat->Prop}(h:MapAt w m R D O): ∀b,D b\/O b->b<w.heap.size:=by
 obtain⟨hb,n,H,N,b,A,n0,n1,hR,h4,h5,h6,o1,o2,o3,o4⟩:=h
 exact fun b hb=>hb.elim (hR.dlt b) (o4 b)
theorem MapAt.keepB{w w':World}{m:Nat}{R:List En}{D O:Nat->Prop}(h:MapAt w m R D O)(hs:w.heap.size<=w'.heap.size)(hk: ∀b,D b\/O b->w'.heap[b]? =w.heap[b]?):MapAt w' m R D O:=by
  obtain⟨hb,n,H,N,b,A,n0,n1,hR,h4,h5,h6,o1,o2,o3,o4⟩:=h
  refine⟨hb,n,H,N,b,A,n0,n1, ?_,h4,h5,h6,o1,o2,o3,fun b hb=>Nat.lt_of_lt_of_le (o4 b hb) hs⟩
  have kb: ∀{g:Nat} {t:TypeId} {cs:Array Value},O g->Blk w g t cs->Blk w' g t cs:=fun ho q=>(hk _ (.inr ho)).trans q
  exact { map := let ⟨cs, q1, q2⟩ := hR.map; ⟨cs, kb o1 q1, q2⟩,
          heads:=let⟨t,hs,q1,q2⟩:=hR.heads;⟨t,hs,kb o2 q1,q2⟩,
          ent:=fun e he=>let⟨ma,mb,q1,q2,q3⟩:=hR.ent e he;⟨ma,mb,kb (o3 e he) q1,q2.keep (fun b hb _=>hk b (.inl hb)) (fun _ h _=>h),q3.keep (fun b hb _=>hk b (.inl hb)) (fun _ h _=>h)⟩,
          nd:=hR.nd,far:=hR.far,out:=hR.out,ok:=hR.ok,dlt:=fun b hb=>Nat.lt_of_lt_of_le (hR.dlt b hb) hs}
def upN{α:Type}(f:Nat->α)(i:Nat)(x:α):Nat->α:=fun j=>if j=i then x else f j
theorem Av8{α:Type}(f:Nat->α)(i:Nat)(x:α):upN f i x i=x:=if_pos rfl
theorem Av9{α:Type}{f:Nat->α}{i j:Nat}{x:α}(h:j≠i):upN f i x j=f j:=if_neg h
inductive Fd where
 | nil
 | num (n:Int)
 | ref (k:Nat) (o:Nat)
def hdX(kind:Int)(ty:ByteArray)(n:Int)(o:Nat)(len:Int):Hd:=⟨kind,ty,n,0,⟨#[]⟩,(o:Int),0,len,len,[]⟩
def Fd.h:Fd->Hd
 | .nil=>hdX 0 ⟨#[]⟩ 0 0 0
 | .num n=>hdX 2 ⟨#[105,110,116]⟩ n 0 0
 | .ref 1 o=>hdX 9 ⟨#[84]⟩ 0 o 0
 | .ref 2 o=>hdX 5 ⟨#[108,105,115,116]⟩ 0 o 2
 | .ref 3 o=>hdX 6 ⟨#[109,97,112]⟩ 0 o 0
 | .ref _ o=>hdX 7 ⟨#[102,117,110,99]⟩ 0 o 0
def Fd.dt(x:Fd):Dt:=⟨x.h,.nil⟩
def Fd.ok:Fd->Prop
 | .nil=>True
 | .num n=>F8 n
 | .ref _ o=>1<=o/\o<=2147483647
def Fd.to:Fd->List Int
 | .ref _ o=>[(o:Int)]
 | _=>[]
def dm0:Dm:=⟨none,0,none,0⟩
def xsF:List Fd->Fo
 | []=>.nil
 | x::r=>.cons x.h .nil (xsF r)
def pr(a b:Fd):Dt:=⟨hdX 8 ⟨#[84]⟩ 0 0 0,xsF [a,b]⟩
inductive Th where
 | obj (a b:Fd)
 | arr (a b:Fd)
 | tab (E:List (Fd×Fd))
 | box (a:Fd)
 | fn (c:Nat) (bx:List Int) (b:Fd)
abbrev C7:TypeId:=53
abbrev Co8:TypeId:=130
abbrev Co9:TypeId:=148
abbrev Bl5:TypeId:=119
abbrev Cp0:TypeId:=124
abbrev fnT:TypeId:=153
def Th.ty:Th->TypeId
 | .obj .. =>126
 | .arr .. =>146
 | .tab .. =>115
 | .box .. =>121
 | .fn .. =>151
def Th.if(t:Th)(p:Nat):Value:=.iface t.ty (pT p)
def RowX(w:World)(O:Nat->Prop)(ia:Option Addr)(xs:List Fd):Prop:=xs=[]\/∃q cs,ia=some ⟨q,0,none⟩/\O q/\Blk w q C7 cs/\xs.length*11<=cs.size/\∀j x,xs[j]? =some x->(cs.toList.drop (j*11)).take 11=(x.dt.cs dm0).toList
theorem RowX.keep{w w':World}{O O':Nat->Prop}{ia:Option Addr}{xs:List Fd}(h:RowX w O ia xs)(hk: ∀b,O b->b<w.heap.size->w'.heap[b]? =w.heap[b]?)(hO: ∀b,O b->b<w.heap.size->O' b):RowX w' O' ia xs:=by
 rcases h with h | ⟨q,cs,h1,h2,h3,h4⟩
 ·exact .inl h
 ·exact .inr ⟨q,cs,h1,hO q h2 h3.lt,(hk q h2 h3.lt).trans h3,h4⟩
def kvE(e:En):Dt×Dt:=(e.key,e.val)
def kvF(p:Fd×Fd):Dt×Dt:=(p.1.dt,p.2.dt)
def ThAt(w:World)(O:Nat->Prop)(p:Nat):Th->Prop
 | .obj a b=> ∃ia ic,Blk w p Co8 ((pr a b).cs ⟨none,0,ia,ic⟩)/\RowX w O ia [a,b]/\2<=ic/\capOk ia ic
 | .arr a b=> ∃ia ic,Blk w p Co9 #[.slice ia 2 ic]/\RowX w O ia [a,b]/\2<=ic/\capOk ia ic
 | .tab E=> ∃mb R D Om,Blk w p Bl5 #[pT mb]/\MapAt w mb R D Om/\(∀b,D b\/Om b->O b/\b≠p)/\R.map kvE=E.map kvF
 | .box a=>Blk w p Cp0 (a.dt.cs dm0)
 | .fn c bx b=> ∃pa pc ia ic,Blk w p fnT #[.int .i64 (c:Int),.slice pa bx.length pc,.slice ia 1 ic]/\PathAt w O pa bx/\bx.length<=pc/\capOk pa pc/\RowX w O ia [b]/\1<=ic/\capOk ia ic
theorem ThAt.keep{w w':World}{O O':Nat->Prop}{p:Nat}{t:Th}(h:ThAt w O p t)(hp:O p)(hs:w.heap.size<=w'.heap.size)(hk: ∀b,O b->b<w.heap.size->w'.heap[b]? =w.heap[b]?)(hO: ∀b,O b->b<w.heap.size->O' b):ThAt w' O' p t:=by
 cases t with
 | obj a b=>obtain⟨ia,ic,h1,h2,h3⟩:=h;exact⟨ia,ic,(hk p hp h1.lt).trans h1,h2.keep hk hO,h3⟩
 | arr a b=>obtain⟨ia,ic,h1,h2,h3⟩:=h;exact⟨ia,ic,(hk p hp h1.lt).trans h1,h2.keep hk hO,h3⟩
 | tab E=>
  obtain⟨mb,R,D,Om,h1,h2,h3,h4⟩:=h
  have hlt:=MapAt.dlim h2
  exact⟨mb,R,D,Om,(hk p hp h1.lt).trans h1,MapAt.keepB h2 hs fun b hb=>hk b (h3 b hb).1 (hlt b hb),fun b hb=>⟨hO b (h3 b hb).1 (hlt b hb),(h3 b hb).2⟩,h4⟩
 | box a=>exact(hk p hp (Blk.lt h)).trans h
 | fn c bx b=>obtain⟨pa,pc,ia,ic,h1,h2,h3,h4,h5,h6⟩:=h;exact⟨pa,pc,ia,ic,(hk p hp h1.lt).trans h1,h2.keep hk hO,h3,h4,h5.keep hk hO,h6⟩
theorem ThAt.lt{w:World}{O:Nat->Prop}{p:Nat}{t:Th}(h:ThAt w O p t):p<w.heap.size:=by
 cases t with
 | obj a b=>exact h.choose_spec.choose_spec.1.lt
 | arr a b=>exact h.choose_spec.choose_spec.1.lt
 | tab E=>exact h.choose_spec.choose_spec.choose_spec.choose_spec.1.lt
 | box a=>exact Blk.lt h
 | fn c bx b=>exact h.choose_spec.choose_spec.choose_spec.choose_spec.1.lt
abbrev Tm:=List (Nat×Th)
def I6(T:Tm)(i:Nat):Option Th:=(T.find? fun t=>t.1==i).map (·.2)
def Nr(T:Tm)(i:Nat)(th:Th):Tm:=T.map fun t=>if t.1=i then(i,th) else t
def Qm(T:Tm)(i:Nat):Tm:=T.filter fun t=> !(t.1==i)
def tIM(pt:Nat->Nat)(T:Tm):IM:=T.map fun t=>((t.1:Int),t.2.if (pt t.1))
theorem Un(pt:Nat->Nat)(T:Tm)(i:Nat):Bc (i:Int) (tIM pt T)=(I6 T i).map fun th=>th.if (pt i):=by
 unfold Bc I6 tIM
 rw[List.find?_map]
 have e:((fun p:Int×Value=>decide (p.1=(i:Int)))∘fun t:Nat×Th=>((t.1:Int),t.2.if (pt t.1)))=fun t=>t.1==i:=by
  funext t
  by_cases h:t.1=i
  ·simp[h]
  ·have: ¬(t.1:Int)=(i:Int):=by omega
   simp[h,this]
 rw[e]
 cases h:T.find? (fun t=>t.1==i) with
 | none=>rfl
 | some t=>
  have:=List.find?_some h
  have:t.1=i:=by simpa using this
  simp[this]
theorem L9{T:Tm}{i:Nat}{th:Th}(h:I6 T i=some th):(i,th)∈T:=by
 unfold I6 at h
 cases hf:T.find? (fun t=>t.1==i) with
 | none=>rw[hf] at h;cases h
 | some t=>
  rw[hf] at h
  have h1:=List.mem_of_find?_eq_some hf
  have h2:t.1=i:=by simpa using List.find?_some hf
  have h3:t.2=th:=by simpa using h
  rw[<-h2,<-h3]
  exact h1
theorem Cp1{pt:Nat->Nat}{T:Tm}{i:Nat}{th:Th}(hn: ∀t,(i,t)∈T->t.ty=th.ty):tIM pt (Nr T i th)=tIM pt T:=by
 unfold tIM Nr
 rw[List.map_map]
 apply List.map_congr_left
 intro t ht
 by_cases h:t.1=i
 ·obtain⟨j,t⟩:=t
  simp only at h
  subst h
  have:=hn t ht
  simp[Th.if,this]
 ·simp[h]
theorem Aw0(pt:Nat->Nat)(T:Tm)(i:Nat):Cj (i:Int) (tIM pt T)=tIM pt (Qm T i):=by
 unfold Cj tIM Qm
 rw[List.filter_map]
 congr 1
 apply List.filter_congr
 intro t _
 by_cases h:t.1=i
 ·simp[h]
 ·have: ¬(t.1:Int)=(i:Int):=by omega
  simp[h,this]
theorem Uo: ∀(M:IM) (k:Int) (v:Value),(∀p,p∈M->p.1<k)->Gq k v M=M++[(k,v)]
 | [],_,_,_=>rfl
 | y::r,k,v,h=>by
  have h1:=h y (by simp)
  unfold Gq
  rw[if_neg Zo,Uo r k v (fun p hp=>h p (List.mem_cons_of_mem _ hp))]
  rfl
theorem Cp2{pt:Nat->Nat}{T:Tm}{n:Nat}(h: ∀t,t∈T->t.1<=n)(th:Th)(p:Nat):X3 ((n+1:Nat):Int) (th.if p) (tIM pt T)=tIM (upN pt (n+1) p) (T++[(n+1,th)]):=by
 unfold X3
 rw[Aw0]
 have e:Qm T (n+1)=T:=List.filter_eq_self.2 fun t ht=>by have:=h t ht;simp;omega
 rw[e,Uo _ _ _ (fun q hq=>by
  obtain⟨t,ht,rfl⟩:=List.mem_map.1 hq
  have:=h t ht
  show(t.1:Int)<_
  omega)]
 unfold tIM
 rw[List.map_append]
 congr 1
 ·apply List.map_congr_left
  intro t ht
  have:=h t ht
  rw[Av9 Zo]
 ·simp[Av8]
structure HSx (B:Nat) (w:World) (gh:Nat) (O:Nat->Prop) (last:Nat) (T:Tm) (bm:Nat) (pt:Nat->Nat) (own:Nat->Nat->Prop):Prop where
 hp:HpB w gh bm last last (tIM pt T)
 th: ∀i t,(i,t)∈T->ThAt w (own i) (pt i) t/\own i (pt i)
 sub: ∀i b,own i b->O b/\b≠gh/\b≠bm
 sep: ∀i j b,own i b->own j b->i=j
 base:O gh/\O bm
 lim: ∀b,O b->B<=b/\b<w.heap.size
 num: ∀i t,(i,t)∈T->1<=i/\i<=last
 rise:T.Pairwise fun a b=>a.1<b.1
 far:last<=1000
def HS(B:Nat)(w:World)(gh:Nat)(O:Nat->Prop)(last:Nat)(T:Tm):Prop:= ∃bm pt own,HSx B w gh O last T bm pt own
section
variable {B:Nat} {w w':World} {gh:Nat} {O:Nat->Prop} {last:Nat} {T:Tm} {bm:Nat} {pt:Nat->Nat} {own:Nat->Nat->Prop}
theorem HSx.keep(h:HSx B w gh O last T bm pt own)(hs:w.heap.size<=w'.heap.size)(hk: ∀b,O b->w'.heap[b]? =w.heap[b]?):HSx B w' gh O last T bm pt own where
 hp:=h.hp.keep (hk _ h.base.1) (hk _ h.base.2)
 th:=fun i t ht=>⟨(h.th i t ht).1.keep (h.th i t ht).2 hs (fun b hb _=>hk b (h.sub i b hb).1) (fun _ hb _=>hb),(h.th i t ht).2⟩
 sub:=h.sub
 sep:=h.sep
 base:=h.base
 lim:=fun b hb=>⟨(h.lim b hb).1,Nat.lt_of_lt_of_le (h.lim b hb).2 hs⟩
 num:=h.num
 rise:=h.rise
 far:=h.far
theorem HS.keep(h:HS B w gh O last T)(hs:w.heap.size<=w'.heap.size)(hk: ∀b,O b->w'.heap[b]? =w.heap[b]?):HS B w' gh O last T:=let⟨bm,pt,own,h⟩:=h;⟨bm,pt,own,h.keep hs hk⟩
theorem HS.old(h:HS B w gh O last T)(hb:Below w.heap.size w w'):HS B w' gh O last T:=by
 obtain⟨bm,pt,own,h⟩:=h
 exact⟨bm,pt,own,h.keep hb.size fun b hO=>hb.block b (h.lim b hO).2⟩
theorem HS.lim(h:HS B w gh O last T): ∀b,O b->B<=b/\b<w.heap.size:=let⟨_,_,_,h⟩:=h;h.lim
theorem HSx.uniq(h:HSx B w gh O last T bm pt own){i:Nat}{t t':Th}(h1:(i,t)∈T)(h2:(i,t')∈T):t=t':=by
 have hr:=h.rise
 clear h
 induction T with
 | nil=>cases h1
 | cons x T ih=>
  rw[List.pairwise_cons] at hr
  rcases List.mem_cons.1 h1 with e1 | e1
  ·rcases List.mem_cons.1 h2 with e2 | e2
   ·have:=e1.trans e2.symm
    injection this
   ·have:=hr.1 _ e2
    rw[<-e1] at this
    simp at this
  ·rcases List.mem_cons.1 h2 with e2 | e2
   ·have:=hr.1 _ e1
    rw[<-e2] at this
    simp at this
   ·exact ih e1 e2 hr.2
theorem HSx.get(h:HSx B w gh O last T bm pt own){i:Nat}{t:Th}(ht:(i,t)∈T):I6 T i=some t:=by
 cases hg:I6 T i with
 | none=>
  unfold I6 at hg
  rw[Option.map_eq_none_iff,List.find?_eq_none] at hg
  have:=hg _ ht
  simp at this
 | some t'=>rw[h.uniq ht (L9 hg)]
def HQ(B:Nat)(w w':World)(gh:Nat)(O:Nat->Prop)(last:Nat)(T:Tm):Prop:= ∃O',HS B w' gh O' last T/\Moved O w w'/\(∀b,O b->O' b)/\∀b,O' b->O b\/w.heap.size<=b
theorem HQ.same(h:HS B w gh O last T)(hb:Below w.heap.size w w'):HQ B w w' gh O last T:=⟨O,h.old hb,.of_below hb,fun _ h=>h,fun _ h=>.inl h⟩
theorem HQ.pre{w1:World}(hb:Below w.heap.size w w1)(h:HQ B w1 w' gh O last T):HQ B w w' gh O last T:=by
 obtain⟨O',h1,h2,h3,h4⟩:=h
 exact⟨O',h1,(Moved.of_below hb).trans (h2.more fun _ h=>.inl h),h3,fun b hb'=>(h4 b hb').imp_right fun q=>Nat.le_trans hb.size q⟩
theorem HQ.post{w1:World}(h:HQ B w w1 gh O last T)(hb:Below w1.heap.size w1 w'):HQ B w w' gh O last T:=by
 obtain⟨O',h1,h2,h3,h4⟩:=h
 exact⟨O',h1.old hb,h2.trans (.of_below hb),h3,h4⟩
theorem HSx.upd(h:HSx B w gh O last T bm pt own){i:Nat}{t0 th:Th}(hi:(i,t0)∈T)(hM:Moved (own i) w w')(hty:t0.ty=th.ty)(hth:ThAt w' (fun b=>own i b\/(w.heap.size<=b/\b<w'.heap.size)) (pt i) th):HQ B w w' gh O last (Nr T i th):=by
 have hB:=h.lim gh h.base.1
 have hu: ∀t,(i,t)∈T->t.ty=th.ty:=fun t ht=>by rw[h.uniq ht hi,hty]
 refine⟨fun b=>O b\/(w.heap.size<=b/\b<w'.heap.size),⟨bm,pt,fun j b=>own j b\/(j=i/\w.heap.size<=b/\b<w'.heap.size), ?_, ?_, ?_, ?_, ?_, ?_, ?_, ?_,h.far⟩,hM.more (fun b hb=>(h.sub i b hb).1),fun _ h=>.inl h,fun b hb=>hb.imp_right (·.1)⟩
 ·rw[Cp1 hu]
  exact h.hp.keep (hM.block _ h.hp.gh.lt fun q=>(h.sub i _ q).2.1 rfl) (hM.block _ h.hp.bm.lt fun q=>(h.sub i _ q).2.2 rfl)
 ·intro j t ht
  obtain⟨x,hx,e⟩:=List.mem_map.1 ht
  by_cases hj:x.1=i
  ·rw[if_pos hj] at e
   injection e with e1 e2
   subst e1 e2
   refine⟨?_,.inl (h.th _ _ hi).2⟩
   have e:(fun b=>own i b\/(i=i/\w.heap.size<=b/\b<w'.heap.size))=fun b=>own i b\/(w.heap.size<=b/\b<w'.heap.size):=by funext b;simp
   rw[e]
   exact hth
  ·rw[if_neg hj] at e
   subst e
   simp only at hj
   obtain⟨q1,q2⟩:=h.th j t hx
   exact⟨q1.keep q2 hM.size (fun b hb hl=>hM.block b hl fun q=>hj (h.sep _ _ _ hb q)) (fun _ hb _=>.inl hb),.inl q2⟩
 ·intro j b hb
  rcases hb with hb | ⟨_,hb,hb'⟩
  ·exact⟨.inl (h.sub j b hb).1,(h.sub j b hb).2⟩
  ·have h1:=h.hp.gh.lt
   have h2:=h.hp.bm.lt
   exact⟨.inr ⟨hb,hb'⟩,Zo,Zo⟩
 ·intro j k b hj hk
  rcases hj with hj | ⟨rfl,hj,_⟩<;>rcases hk with hk | ⟨rfl,hk,_⟩
  ·exact h.sep j k b hj hk
  ·have:=(h.lim b (h.sub j b hj).1).2
   omega
  ·have:=(h.lim b (h.sub k b hk).1).2
   omega
  ·rfl
 ·exact⟨.inl h.base.1,.inl h.base.2⟩
 ·intro b hb
  rcases hb with hb | hb
  ·have:=h.lim b hb
   have:=hM.size
   omega
  ·omega
 ·intro j t ht
  obtain⟨x,hx,e⟩:=List.mem_map.1 ht
  have h1:=h.num x.1 x.2 hx
  by_cases hj:x.1=i
  ·rw[if_pos hj] at e
   injection e with e1 e2
   omega
  ·rw[if_neg hj] at e
   subst e
   exact h1
 ·unfold Nr
  rw[List.pairwise_map]
  refine h.rise.imp fun{a b} hab=> ?_
  have e1:(if a.1=i then(i,th) else a).1=a.1:=by split<;>simp_all
  have e2:(if b.1=i then(i,th) else b).1=b.1:=by split<;>simp_all
  rw[e1,e2]
  exact hab
theorem HSx.more(h:HSx B w gh O last T bm pt own)(hl:last<1000){N:Nat->Prop}{p:Nat}{t:Th}(hp:HpB w' gh bm (last+1) (last+1) (X3 ((last+1:Nat):Int) (t.if p) (tIM pt T)))(hM:Moved (fun b=>b=gh\/b=bm) w w')(hN: ∀b,N b->B<=b/\b<w.heap.size/\¬O b)(hNp:N p)(ht:ThAt w N p t):
  HS B w' gh (fun b=>O b\/N b) (last+1) (T++[(last+1,t)]):=by
 have hlast: ∀i b,own i b->i<=last\/∀t,(i,t)∉T:=fun i b _=>by
  by_cases hi:i<=last
  ·exact .inl hi
  ·exact .inr fun t ht=>hi (h.num i t ht).2
 refine⟨bm,upN pt (last+1) p,fun j b=>(own j b/\j<=last)\/(j=last+1/\N b), ?_, ?_, ?_, ?_, ?_, ?_, ?_, ?_,Zo⟩
 ·rw[Cp2 (fun t ht=>(h.num t.1 t.2 ht).2)] at hp
  exact hp
 ·intro i x hx
  rcases List.mem_append.1 hx with hx | hx
  ·have hi:=(h.num i x hx).2
   obtain⟨q1,q2⟩:=h.th i x hx
   rw[Av9 Zo]
   exact⟨q1.keep q2 hM.size (fun b hb hl=>hM.block b hl fun q=>by have:=(h.sub i b hb).2;omega) (fun b hb _=>.inl ⟨hb,hi⟩),.inl ⟨q2,hi⟩⟩
  ·have hx:(i,x)=(last+1,t):=by simpa using hx
   injection hx with e1 e2
   subst e1 e2
   rw[Av8]
   refine⟨ht.keep hNp hM.size (fun b hb hl=>hM.block b hl fun q=> ?_) (fun b hb _=>.inr ⟨rfl,hb⟩),.inr ⟨rfl,hNp⟩⟩
   rcases q with rfl | rfl
   ·exact(hN _ hb).2.2 h.base.1
   ·exact(hN _ hb).2.2 h.base.2
 ·intro i b hb
  rcases hb with⟨hb,_⟩ | ⟨_,hb⟩
  ·exact⟨.inl (h.sub i b hb).1,(h.sub i b hb).2⟩
  ·exact⟨.inr hb,fun e=>(hN b hb).2.2 (e ▸ h.base.1),fun e=>(hN b hb).2.2 (e ▸ h.base.2)⟩
 ·intro i j b hi hj
  rcases hi with⟨hi,hi'⟩ | ⟨hi',hi⟩<;>rcases hj with⟨hj,hj'⟩ | ⟨hj',hj⟩
  ·exact h.sep i j b hi hj
  ·exact absurd (h.sub i b hi).1 (hN b hj).2.2
  ·exact absurd (h.sub j b hj).1 (hN b hi).2.2
  ·omega
 ·exact⟨.inl h.base.1,.inl h.base.2⟩
 ·intro b hb
  have hz:=hM.size
  rcases hb with hb | hb
  ·have:=h.lim b hb
   omega
  ·have:=hN b hb
   omega
 ·intro i x hx
  rcases List.mem_append.1 hx with hx | hx
  ·have:=h.num i x hx
   omega
  ·have hx:(i,x)=(last+1,t):=by simpa using hx
   injection hx with e1 e2
   omega
 ·refine List.pairwise_append.2 ⟨h.rise,List.pairwise_singleton _ _,fun a ha b hb=> ?_⟩
  have:b=(last+1,t):=by simpa using hb
  subst this
  have:=h.num a.1 a.2 ha
  show a.1<last+1
  omega
theorem HSx.less(h:HSx B w gh O last T bm pt own){i:Nat}(hp:HpB w' gh bm last last (Cj (i:Int) (tIM pt T)))(hM:Moved (fun b=>b=bm) w w'):HS B w' gh O last (Qm T i):=by
 have hsub: ∀x,x∈Qm T i->x∈T:=fun x hx=>(List.mem_filter.1 hx).1
 refine⟨bm,pt,own, ?_, ?_,h.sub,h.sep,h.base, ?_, ?_,h.rise.filter _,h.far⟩
 ·rw[Aw0] at hp
  exact hp
 ·intro j t ht
  obtain⟨q1,q2⟩:=h.th j t (hsub _ ht)
  exact⟨q1.keep q2 hM.size (fun b hb hl=>hM.block b hl fun q=>(h.sub j b hb).2.2 q) (fun _ hb _=>hb),q2⟩
 ·intro b hb
  have:=h.lim b hb
  have:=hM.size
  omega
 ·exact fun j t ht=>h.num j t (hsub _ ht)
end
end Go.Proofs.YtbjegfpfmnleeaaGreatDoor
namespace Go.Proofs.YtbjegfpfmnleeaaGreatDoor
open Go.RowKit Go.Sort
set_option maxRecDepth 100000
theorem Vj:(Tryz.prog.info? C7).map (fun i=>(i.zero,i.size,i.bytes))=some (some (.agg Q1),11,136):=by kernel_rfl
theorem Jo:(Tryz.prog.info? 3).map (fun i=>(i.zero,i.size,i.bytes))=some (some (ii 0),1,8):=by kernel_rfl
theorem An{P:Program}{t:TypeId}{z:Value}{s b:Nat}(h:(P.info? t).map (fun i=>(i.zero,i.size,i.bytes))=some (some z,s,b)): ∃i,P.info? t=some i/\i.zero=some z/\i.size=s/\i.bytes=b:=by
 cases hp:P.info? t with
 | none=>rw[hp] at h;cases h
 | some i=>
  rw[hp] at h
  simp only[Option.map_some,Option.some.injEq,Prod.mk.injEq] at h
  exact⟨i,rfl,h.1,h.2.1,h.2.2⟩
theorem Ck(g o j:Nat):(⟨g,o,none⟩:Addr).add j=⟨g,o+j,none⟩:=by
 unfold Addr.add
 simp
def ARow(w:World)(B:Nat)(t:TypeId)(sz:Nat)(s:S3)(n:Nat)(xs:List Value):Prop:=s.n=n/\w.ownsRow B t sz s.v n xs
theorem ARow.nil(w:World)(B:Nat)(t:TypeId)(sz:Nat):ARow w B t sz ⟨none,0,0⟩ 0 []:=⟨rfl,World.ownsRow_nil _ _ _ _⟩
theorem ARow.keep{w w':World}{B sz n:Nat}{t:TypeId}{s:S3}{xs:List Value}(h:ARow w B t sz s n xs)(hk: ∀g,s.v.ownBlock=some g->w'.heap[g]? =w.heap[g]?):ARow w' B t sz s n xs:=by
 refine⟨h.1, ?_⟩
 obtain⟨h0,h1⟩:=h.2
 refine⟨h0,h1.imp_right ?_⟩
 rintro⟨g,cap,cur,e,r1,r2,r3⟩
 exact⟨g,cap,cur,e,r1,(hk g (by rw[e];rfl)).trans r2,r3⟩
theorem ARow.block{w:World}{B sz n:Nat}{t:TypeId}{s:S3}{xs:List Value}(h:ARow w B t sz s n xs){g:Nat}(hg:s.v.ownBlock=some g):B<=g/\g<w.heap.size:=N8 h.2 hg
theorem ARow.old{w w':World}{B sz n:Nat}{t:TypeId}{s:S3}{xs:List Value}(h:ARow w B t sz s n xs)(hb:Below w.heap.size w w'):ARow w' B t sz s n xs:=h.keep fun g hg=>hb.block g (h.block hg).2
theorem ARow.mono{w:World}{B B' sz n:Nat}{t:TypeId}{s:S3}{xs:List Value}(h:ARow w B t sz s n xs)(hB:B'<=B):ARow w B' t sz s n xs:=by
 refine⟨h.1, ?_⟩
 obtain⟨h0,h1⟩:=h.2
 refine⟨h0,h1.imp_right ?_⟩
 rintro⟨g,cap,cur,e,r1,r2⟩
 exact⟨g,cap,cur,e,Zo,r2⟩
theorem ARow.cases{w:World}{B sz n:Nat}{t:TypeId}{s:S3}{xs:List Value}(h:ARow w B t sz s n xs):(s=⟨none,0,0⟩/\n=0/\xs=[])\/
  ∃g cs,s=⟨some ⟨g,0,none⟩,n,s.c⟩/\s.v.ownBlock=some g/\B<=g/\Blk w g t cs/\n<=s.c/\s.c<=maxLen/\cs.size=s.c*sz/\cs.toList.take (n*sz)=xs:=by
 obtain⟨d,k,c⟩:=s
 obtain⟨hn,h0,h1⟩:=h
 simp only at hn
 subst hn
 rcases h1 with⟨e,h2⟩ | ⟨g,cap,cur,e,r1,r2,r3,r4,r5,r6⟩
 ·unfold S3.v at e
  simp only at e
  injection e with e1 e2 e3
  subst e1 e2 e3
  exact .inl ⟨rfl,rfl,List.eq_nil_of_length_eq_zero (by simpa using h0)⟩
 ·unfold S3.v at e
  simp only at e
  injection e with e1 e2 e3
  subst e1 e3
  exact .inr ⟨g,cur,rfl,rfl,r1,r2,r3,r4,r5,r6⟩
theorem ARow.of_v{w:World}{B sz n:Nat}{t:TypeId}{v:Value}{xs:List Value}(h:w.ownsRow B t sz v n xs): ∃s:S3,v=s.v/\ARow w B t sz s n xs:=by
 rcases h.2 with⟨rfl,h0⟩ | ⟨g,cap,cur,rfl,_⟩
 ·exact⟨⟨none,0,0⟩,rfl,h0.symm,h⟩
 ·exact⟨⟨some ⟨g,0,none⟩,n,cap⟩,rfl,rfl,h⟩
theorem Mn{w:World}{B sz bytes n:Nat}{st t:TypeId}{z:Value}{s:S3}{xs:List Value}(hst:Tryz.prog.underlying st=some (.slice t))(hi:(Tryz.prog.info? t).map (fun i=>(i.zero,i.size,i.bytes))=some (some z,sz,bytes))(hz:z.cells.size=sz)(h0:0<sz)(hby:bytes<=200)(h:ARow w B t sz s n xs)(hn:n<=1000000000)(hB:B<=w.heap.size)(c:Array Value)(hc:c.size=sz)(h1: ∀u∈c.toList,u.oneCell'=true)(ty:TypeId):
  ∃(s':S3) (w':World),(Builtin.append_ #[st,st] ty #[.slice s.d s.n s.c,.slice (some ⟨w.heap.size,0,none⟩) 1 1]).run Tryz.prog (w.alloc (.cells c t))=.ok (S3.v s') w'/\(ARow w' B t sz s' (n+1) (xs++c.toList)/\Moved (fun b=>s.v.ownBlock=some b) w w'/\(s'.v.ownBlock=s.v.ownBlock\/s'.v.ownBlock=some (w.heap.size+1))):=by
 obtain⟨i,hi,hz0,hz1,hz2⟩:=An hi
 have hx:=Blk.new w t c
 have hcl:c.toList.length=sz:=by simpa using hc
 have hcell: ∀(j:Nat) (u:Value),c.toList[j]? =some u->(w.alloc (.cells c t)).cell? ((⟨w.heap.size,0,none⟩:Addr).add j)=some u:=fun j u hu=>by
  rw[Ck,Nat.zero_add,hx.cell,<-Array.getElem?_toList]
  exact hu
 have hw1:(w.alloc (.cells c t)).heap.size=w.heap.size+1:=World.size_alloc _ _
 have hm:(n+1)*bytes<=140737488355328:=Nat.le_trans (Nat.mul_le_mul (Nat.add_le_add_right hn 1) hby) Zd
 obtain⟨v',w',hr,ho,hg,_,hblk⟩:=run_append_own_at (P:=Tryz.prog) (w:=w.alloc (.cells c t)) B st ty t i _ sz bytes hst hi hz0 hz1 hz2 hz h0 s.v n xs (S9 h.2 (B2 (Below.refl _ _) _)) ⟨w.heap.size,0,none⟩ 1 1 c.toList (by rw[hcl,Nat.one_mul]) hcell h1 (by simp only[maxLen];omega) hm Zo
 obtain⟨s',rfl,hs'⟩:=ARow.of_v ho
 refine⟨s',w',hr,hs',⟨by have:=hg.size;omega,hg.os,hg.tape,hg.output,fun b hb hn=>(hg.block b Zo (fun e=>hn e.symm)).trans (Below.heap_alloc _ _ _ hb)⟩, ?_⟩
 rw[<-hw1]
 exact hblk
theorem Bm8{w:World}{B n:Nat}{s:S3}{xs:List Value}(h:ARow w B C7 11 s n xs)(hn:n<=1000000000)(hB:B<=w.heap.size)(c:Array Value)(hc:c.size=11)(h1: ∀u∈c.toList,u.oneCell'=true)(ty:TypeId):
  ∃(s':S3) (w':World),(Builtin.append_ #[23,23] ty #[.slice s.d s.n s.c,.slice (some ⟨w.heap.size,0,none⟩) 1 1]).run Tryz.prog (w.alloc (.cells c C7))=.ok (S3.v s') w'/\(ARow w' B C7 11 s' (n+1) (xs++c.toList)/\Moved (fun b=>s.v.ownBlock=some b) w w'/\(s'.v.ownBlock=s.v.ownBlock\/s'.v.ownBlock=some (w.heap.size+1))):=
 Mn Tryz.underlying23 Vj rfl Zd Zd h hn hB c hc h1 ty
theorem Ed7{w:World}{B n:Nat}{s:S3}{xs:List Value}(h:ARow w B 3 1 s n xs)(hn:n<=1000000000)(hB:B<=w.heap.size)(x:Int)(ty:TypeId):
  ∃(s':S3) (w':World),(Builtin.append_ #[24,24] ty #[.slice s.d s.n s.c,.slice (some ⟨w.heap.size,0,none⟩) 1 1]).run Tryz.prog (w.alloc (.cells #[ii x] 3))=.ok (S3.v s') w'/\(ARow w' B 3 1 s' (n+1) (xs++[ii x])/\Moved (fun b=>s.v.ownBlock=some b) w w'/\(s'.v.ownBlock=s.v.ownBlock\/s'.v.ownBlock=some (w.heap.size+1))):=
 Mn Tryz.underlying24 Jo rfl Zd Zd h hn hB #[ii x] rfl (fun u hu=>by rw[List.mem_singleton.1 hu];rfl) ty
def ZRow(w:World)(B:Nat)(s:S3)(l:List Int):Prop:=ARow w B 3 1 s l.length (l.map (Value.int .i64))
theorem ZRow.nil(w:World)(B:Nat):ZRow w B ⟨none,0,0⟩ []:=ARow.nil w B _ _
theorem ZRow.app{w:World}{B:Nat}{s:S3}{l:List Int}(h:ZRow w B s l)(hn:l.length<=1000000000)(hB:B<=w.heap.size)(x:Int)(ty:TypeId):
  ∃(s':S3) (w':World),(Builtin.append_ #[24,24] ty #[.slice s.d s.n s.c,.slice (some ⟨w.heap.size,0,none⟩) 1 1]).run Tryz.prog (w.alloc (.cells #[ii x] 3))=.ok (S3.v s') w'/\(ZRow w' B s' (l++[x])/\Moved (fun b=>s.v.ownBlock=some b) w w'/\(s'.v.ownBlock=s.v.ownBlock\/s'.v.ownBlock=some (w.heap.size+1))):=by
 obtain⟨s',w',h1,h2,h3⟩:=Ed7 h hn hB x ty
 refine⟨s',w',h1, ?_,h3⟩
 unfold ZRow
 rw[List.length_append,List.map_append]
 exact h2
theorem Moved.bel{B:Nat}{w w':World}{o:Option Nat}(h:Moved (fun b=>o=some b) w w')(ho: ∀g,o=some g->B<=g)(hB:B<=w.heap.size):Below B w w':=(Below.refl B w).trans (Moved.below (n:=B) h (Below.refl _ _) (fun x hx e=>by have:=ho x e;omega) hB)
theorem Bm9(d:Dt)(m:Dm):((d.cs m).toList.foldl (fun(p:Array Value×Nat) v=>(p.1.setIfInBounds p.2 v,p.2+1)) (zA,0)).1=d.cs m:=by kernel_rfl
theorem K1{w:World}{g:Nat}(d:Dt)(m:Dm)(h:Blk w g C7 zA):Blk (w.setCells g 0 (d.cs m).toList) g C7 (d.cs m):=by
 have:=Blk.setL (d.cs m).toList 0 _ _ h
 rw[Bm9] at this
 exact this
theorem Q8{w:World}(d:Dt)(m:Dm):Blk ((w.alloc (.cells zA C7)).setCells w.heap.size 0 (d.cs m).toList) w.heap.size C7 (d.cs m)/\Below w.heap.size w ((w.alloc (.cells zA C7)).setCells w.heap.size 0 (d.cs m).toList):=
 ⟨K1 d m (Blk.new w C7 zA),C8 _ 0 _ (B2 (Below.refl _ _) _) (Nat.le_refl _)⟩
theorem U1(c:Int)(w:World):Calls Tryz.prog 66 #[ii c] w fun e w'=> ∃y:Nat,e=.returned (.iface 156 (pT y))/\Below w.heap.size w w':=by
 refine B6 (vs:=[ii c]) 7 Tryz.func66 Bj3 Zk (by simp) fun a0 h0=> ?_
 unfold Au4
 refine Zs (Dz0 h0 fun a1 h1=> ?_)
 refine Zs (Dz1 h1 rfl fun a2 h2=>wp_ret ?_)
 exact G7 rfl h2 rfl ⟨_,rfl,B2 (Below.refl _ _) _⟩
theorem R8: ∀xs:List Fd,(xsF xs).len=xs.length
 | []=>rfl
 | x::r=>by show Fo.len (.cons x.h .nil (xsF r))=_;simp[Fo.len,R8 r]
theorem RowX.load{w:World}{O:Nat->Prop}{ia:Option Addr}{xs:List Fd}(h:RowX w O ia xs){j:Nat}{x:Fd}(hj:xs[j]? =some x): ∃q,ia=some ⟨q,0,none⟩/\q<w.heap.size/\O q/\Lds Tryz.prog C7 (.pointer (some ⟨q,j*11,none⟩)) (.agg (x.dt.cs dm0)) w:=by
 rcases h with rfl | ⟨q,cs,h1,h2,h3,_,h4⟩
 ·simp at hj
 ·exact⟨q,h1,h3.lt,h2,C6 h3 (h4 j x hj)⟩
theorem Q7{q n c:Nat}{j:Nat}(hj:j<n)(w:World):(Instr.indexAt 23 (.slice (some ⟨q,0,none⟩) n c) (ii (j:Int))).run Tryz.prog w=.ok (.pointer (some ⟨q,j*11,none⟩)) w:=
 Aj9 (o:=j*11) (sz:=11) j rfl Tryz.underlying23 K4 hj Zo w
def Cp3(x:Fd):Prop:= ∀w,Calls Tryz.prog 74 #[.agg (x.dt.cs dm0)] w fun e w'=>e=.returned (ii 1)/\Below w.heap.size w w'
set_option maxHeartbeats 1000000 in
theorem Up(h:Hd)(xs:List Fd)(hxs: ∀x,x∈xs->Cp3 x)(hl:xs.length<=100)(pa:Option Addr)(pc:Nat)(ia:Option Addr)(ic:Nat)(w:World){S:Nat->Prop}(hr:RowX w S ia xs):
  Calls Tryz.prog 74 #[.agg (Dt.cs ⟨h,xsF xs⟩ ⟨pa,pc,ia,ic⟩)] w fun e w'=>e=.returned (ii (1+(xs.length:Int)))/\Below w.heap.size w w':=by
 refine B6 (vs:=[.agg (Dt.cs ⟨h,xsF xs⟩ ⟨pa,pc,ia,ic⟩)]) 19 Tryz.func74 Bi1 Zk (by simp) fun a0 h0=> ?_
 unfold At7
 refine Zs (Dw3 h0 rfl fun a1 h1=> ?_)
 have hA:=Blk.new w C7 (Dt.cs ⟨h,xsF xs⟩ ⟨pa,pc,ia,ic⟩)
 have hb1:Below w.heap.size w (w.alloc (.cells (Dt.cs ⟨h,xsF xs⟩ ⟨pa,pc,ia,ic⟩) C7)):=B2 (Below.refl _ _) _
 change Blk (w.alloc (.cells (Dt.cs ⟨h,xsF xs⟩ ⟨pa,pc,ia,ic⟩) 53)) _ _ _ at hA
 generalize w.alloc (.cells (Dt.cs ⟨h,xsF xs⟩ ⟨pa,pc,ia,ic⟩) 53)=w1 at hA hb1 ⊢
 refine Zs (Dw4 h1 fun a2 h2=> ?_)
 refine wp_seq (Zs (Dw5 (kd:=ia) (kn:=xs.length) (kc:=ic) h2 rfl (A9 hA Tryz.underlying23 rfl (by rw[<-R8 xs];rfl)) fun a3 h3=> ?_))
 refine wp_block ?_
 refine wp_loop (fun a' wr=> ∃i,i<=xs.length/\Sl 19 a' [(9,ii (i:Int)),(8,ii (xs.length:Int)),(7,.slice ia xs.length ic),(3,ii (1+(i:Int)))]/\Below w.heap.size w wr) (fun a' _=>G1 xs.length (F9 a' 9))
  ⟨0,Nat.zero_le _,h3.to ⟨rfl,rfl,rfl,rfl,trivial⟩,hb1⟩ ?_
 rintro a4 w4 ⟨i,hi,h4,hb4⟩
 rw[h4.look 9 rfl,B4]
 unfold Es5
 by_cases hlt:i<xs.length
 ·refine Zs (Cj2 h4 rfl rfl (decide_eq_true Zo) fun a5 h5=> ?_)
  refine wp_seq (wpn (h5.look 10 rfl) ?_)
  obtain⟨x,hx⟩: ∃x,xs[i]? =some x:=⟨xs[i],by simp[hlt]⟩
  have hr4:RowX w4 (fun b=>b<w.heap.size) ia xs:=hr.keep (fun b _ hl=>hb4.block b hl) (fun b _ hl=>hl)
  obtain⟨q,rfl,hq,_,hld⟩:=hr4.load hx
  refine wp_seq (wp_block ?_)
  refine Zs (Dw6 (x:=x.dt) (mx:=dm0) h5 rfl rfl (fun w=>Q7 hlt w) hld (D1 (Blk.new w4 C7 zA) (by show 0+11<=11;omega)) fun a6 h6=> ?_)
  have hX:=Q8 (w:=w4) x.dt dm0
  change Code.wp _ _ _ a6 ((w4.alloc (.cells zA C7)).setCells w4.heap.size 0 (x.dt.cs dm0).toList)
  generalize (w4.alloc (.cells zA C7)).setCells w4.heap.size 0 (x.dt.cs dm0).toList=w6 at hX ⊢
  obtain⟨hB6,hb6⟩:=hX
  refine Zl (Dw7 (C0:=fun w'=>Below w6.heap.size w6 w') (n15:=1) h6 rfl rfl (C6 hB6 rfl) (hxs x (List.mem_of_getElem? hx) w6) Zo fun a7 w7 hb7 h7=> ?_)
  refine B1 ?_
  have hb07:Below w.heap.size w w7:=A7 (A7 hb4 hb6) hb7
  show Code.wp _ (Jb 6) _ a7 w7
  refine Zl (Dw8 h7 rfl Zo fun a8 h8=>⟨⟨i+1,hlt, ?_,hb07⟩, ?_⟩)
  ·have e:(1+((i+1:Nat):Int))=1+(i:Int)+1:=by omega
   rw[e]
   exact h8.to ⟨rfl,rfl,rfl,rfl,trivial⟩
  ·rw[h8.look 9 rfl]
   show G1 xs.length (ii ((i+1:Nat):Int))<_
   rw[B4]
   omega
 ·refine Zs (Cj2 h4 rfl rfl (decide_eq_false Zo) fun a5 h5=> ?_)
  refine wp_seq (C9 (h5.look 10 rfl) ?_)
  refine A8 (A8 (B8 ?_))
  obtain rfl:i=xs.length:=by omega
  refine Zs (Dw9 h5 rfl fun a6 h6=>wp_ret ?_)
  exact G7 rfl h6 rfl ⟨rfl,hb4⟩
theorem Cp4(x:Fd):Cp3 x:=fun w=>by
 have h:=Up x.h [] (fun _ h=>by cases h) (by simp) none 0 none 0 w (S:=fun _=>False) (.inl rfl)
 exact h
theorem Me(a b:Fd)(ia:Option Addr)(ic:Nat)(w:World){S:Nat->Prop}(hr:RowX w S ia [a,b]):Calls Tryz.prog 74 #[.agg ((pr a b).cs ⟨none,0,ia,ic⟩)] w fun e w'=>e=.returned (ii 3)/\Below w.heap.size w w':=
 Up (hdX 8 ⟨#[84]⟩ 0 0 0) [a,b] (fun x _=>Cp4 x) (by simp) none 0 ia ic w hr
def RowN(B:Nat)(w:World)(s:S3)(xs:List Fd):Prop:=ARow w B C7 11 s xs.length (xs.flatMap fun x=>(x.dt.cs dm0).toList)
theorem Je: ∀(xs:List Fd) (j:Nat) (x:Fd),xs[j]? =some x->((xs.flatMap fun x=>(x.dt.cs dm0).toList).drop (j*11)).take 11=(x.dt.cs dm0).toList
 | [],_,_,h=>by simp at h
 | y::xs,0,x,h=>by
  obtain rfl:y=x:=by simpa using h
  rw[List.flatMap_cons,Nat.zero_mul,List.drop_zero]
  exact List.take_left' (by simp[Dt.cs,Hd.cells])
 | y::xs,j+1,x,h=>by
  have e:(y.dt.cs dm0).toList.length=11:=by simp[Dt.cs,Hd.cells]
  rw[List.flatMap_cons,List.drop_append,List.drop_eq_nil_of_le Zo,List.nil_append,e,show(j+1)*11-11=j*11 by omega]
  exact Je xs j x (by simpa using h)
theorem RowN.row{B:Nat}{w:World}{s:S3}{xs:List Fd}(h:RowN B w s xs):RowX w (fun b=>B<=b/\b<w.heap.size) s.d xs/\s.n=xs.length/\xs.length<=s.c/\capOk s.d s.c:=by
 rcases ARow.cases h with⟨rfl,h1,h2⟩ | ⟨g,cs,h1,h2,h3,h4,h5,h6,h7,h8⟩
 ·have:xs=[]:=List.eq_nil_of_length_eq_zero h1
  subst this
  exact⟨.inl rfl,rfl,by simp,capOk.nil⟩
 ·have e1:s.d=some ⟨g,0,none⟩:=by rw[h1]
  have e2:s.n=xs.length:=by rw[h1]
  refine⟨.inr ⟨g,cs,e1,⟨h3,h4.lt⟩,h4,by have:=Nat.mul_le_mul_right 11 h5;omega,fun j x hj=> ?_⟩,e2,h5,by rw[e1];exact capOk.some (by unfold maxLen at h6;exact h6)⟩
  have hj':j<xs.length:=(List.getElem?_eq_some_iff.1 hj).1
  have h9:=Je xs j x hj
  rw[<-h8,List.drop_take,List.take_take,Nat.min_eq_left (by have:=Nat.mul_le_mul_right 11 (show j+1<=xs.length from hj');omega)] at h9
  exact h9
def Bl6(x:Fd):Prop:= ∀w,Calls Tryz.prog 68 #[.agg (x.dt.cs dm0)] w fun e w'=>e=.returned (.agg (x.dt.cs dm0))/\Below w.heap.size w w'
def Aw1(xs:List Fd)(w:World)(e:Ending)(w':World):Prop:= ∃s:S3,e=.returned (.slice s.d s.n s.c)/\(RowN w.heap.size w' s xs/\(xs=[]->s=⟨none,0,0⟩)/\Below w.heap.size w w')
theorem Bl7(x:Fd): ∀u∈(x.dt.cs dm0).toList,u.oneCell'=true:=by simp[Dt.cs,Hd.cells,Value.oneCell']
theorem F4{B:Nat}{w w':World}{S:Nat->Prop}(h:Moved S w w')(hS: ∀b,S b->B<=b)(hB:B<=w.heap.size):Below B w w':=Moved.below (n:=B) h (Below.refl _ _) (fun x hx e=>by have:=hS x e;omega) hB
set_option maxHeartbeats 1000000 in
theorem Ns(xs:List Fd)(hxs: ∀x,x∈xs->Bl6 x)(hl:xs.length<=1000)(ia:Option Addr)(ic:Nat)(w:World){S:Nat->Prop}(hr:RowX w S ia xs):
  Calls Tryz.prog 90 #[.slice ia xs.length ic] w (Aw1 xs w):=by
 refine B6 (vs:=[.slice ia xs.length ic]) 19 Tryz.func90 Af4 Zk (by simp) fun a0 h0=> ?_
 unfold Tu
 refine Zs (Ci3 h0 fun a1 h1=> ?_)
 refine Zs (Ci4 h1 fun a2 h2=> ?_)
 refine wp_seq (Zs (Ci5 h2 rfl fun a3 h3=> ?_))
 refine wp_block ?_
 refine wp_loop (fun a' wr=> ∃(i:Nat) (s:S3),i<=xs.length/\Sl 19 a' [(8,ii (i:Int)),(7,ii (xs.length:Int)),(6,.slice ia xs.length ic),(3,.slice s.d s.n s.c)]/\RowN w.heap.size wr s (xs.take i)/\(i=0->s=⟨none,0,0⟩)/\Below w.heap.size w wr) (fun a' _=>G1 xs.length (F9 a' 8))
  ⟨0,⟨none,0,0⟩,Nat.zero_le _,h3.to ⟨rfl,rfl,rfl,rfl,trivial⟩,ARow.nil _ _ _ _,fun _=>rfl,Below.refl _ _⟩ ?_
 rintro a4 w4 ⟨i,s,hi,h4,hR4,hnil,hb4⟩
 rw[h4.look 8 rfl,B4]
 unfold Ci2
 by_cases hlt:i<xs.length
 ·refine Zs (At5 h4 rfl rfl (decide_eq_true Zo) fun a5 h5=> ?_)
  refine wp_seq (wpn (h5.look 9 rfl) ?_)
  obtain⟨x,hx⟩: ∃x,xs[i]? =some x:=⟨xs[i],by simp[hlt]⟩
  have hr4:RowX w4 (fun b=>b<w.heap.size) ia xs:=hr.keep (fun b _ hl=>hb4.block b hl) (fun b _ hl=>hl)
  obtain⟨q,rfl,hq,_,hld⟩:=hr4.load hx
  refine wp_seq (wp_block ?_)
  refine Zs (Ci6 (d:=x.dt) (m:=dm0) h5 rfl rfl (fun w=>Q7 hlt w) hld (D1 (Blk.new w4 C7 zA) (by show 0+11<=11;omega)) fun a6 h6=> ?_)
  have hX:=Q8 (w:=w4) x.dt dm0
  change Code.wp _ _ _ a6 ((w4.alloc (.cells zA C7)).setCells w4.heap.size 0 (x.dt.cs dm0).toList)
  generalize (w4.alloc (.cells zA C7)).setCells w4.heap.size 0 (x.dt.cs dm0).toList=w6 at hX ⊢
  obtain⟨hB6,hb6⟩:=hX
  have hR6:=hR4.old hb6
  have hs4:=hb4.size
  have hs6:=hb6.size
  refine Zl (Ci7 (d:=x.dt) (m:=dm0) (C0:=fun u q v=>q=dm0/\Below u.heap.size u v) (C1:=fun W s' u=>RowN w.heap.size u s' (xs.take (i+1))/\Below w.heap.size w u) h6 rfl rfl (C6 hB6 rfl) ((hxs x (List.mem_of_getElem? hx) w6).mono fun e u hh=>⟨dm0,hh.1,rfl,hh.2⟩) (fun q u hq ty=> ?_) fun a7 q u s' v hq hv h7=> ?_)
  ·obtain⟨rfl,hbu⟩:=hq
   have hsu:=hbu.size
   have hRu:=hR6.old hbu
   obtain⟨s',v,r1,r2,r3,r4⟩:=Bm8 hRu (by rw[List.length_take];omega) Zo (x.dt.cs dm0) rfl (Bl7 x) ty
   refine⟨s',v,r1, ?_, ?_⟩
   ·have e:(xs.take (i+1))=xs.take i++[x]:=by rw[List.take_add_one,hx];rfl
    unfold RowN
    rw[e,List.flatMap_append,List.length_append]
    simpa using r2
   ·exact(A7 (A7 hb4 hb6) hbu).trans (F4 r3 (fun b hb=>(hRu.block hb).1) Zo)
  ·refine B1 ?_
   show Code.wp _ (R7 6) _ a7 v
   refine Zl (Ci8 h7 rfl Zo fun a8 h8=>⟨⟨i+1,s',hlt, ?_,hv.1,Zo,hv.2⟩, ?_⟩)
   ·exact h8.to ⟨rfl,rfl,rfl,rfl,trivial⟩
   ·rw[h8.look 8 rfl]
    show G1 xs.length (ii ((i+1:Nat):Int))<_
    rw[B4]
    omega
 ·refine Zs (At5 h4 rfl rfl (decide_eq_false Zo) fun a5 h5=> ?_)
  refine wp_seq (C9 (h5.look 9 rfl) ?_)
  refine A8 (A8 (B8 ?_))
  obtain rfl:i=xs.length:=by omega
  rw[List.take_length] at hR4
  refine Zs (Ci9 h5 rfl fun a6 h6=>wp_ret ?_)
  exact G7 rfl h6 rfl ⟨s,rfl,hR4,fun e=>hnil (by rw[e];rfl),hb4⟩
theorem Uq(h:Hd)(hp:h.path=[])(xs:List Fd)(hxs: ∀x,x∈xs->Bl6 x)(hl:xs.length<=1000)(ia:Option Addr)(ic:Nat)(w:World){S:Nat->Prop}(hr:RowX w S ia xs):
  Calls Tryz.prog 68 #[.agg (Dt.cs ⟨h,xsF xs⟩ ⟨none,0,ia,ic⟩)] w fun e w'=> ∃s:S3,e=.returned (.agg (Dt.cs ⟨h,xsF xs⟩ ⟨none,0,s.d,s.c⟩))/\(RowN w.heap.size w' s xs/\(xs=[]->s=⟨none,0,0⟩)/\Below w.heap.size w w'):=by
 refine B6 (vs:=[.agg (Dt.cs ⟨h,xsF xs⟩ ⟨none,0,ia,ic⟩)]) 14 Tryz.func68 Af3 Zk (by simp) fun a0 h0=> ?_
 unfold Tt
 refine Zs (Ch8 h0 rfl fun a1 h1=> ?_)
 have hA:=(Blk.new w C7 (Dt.cs ⟨h,xsF xs⟩ ⟨none,0,ia,ic⟩)).alloc (.cells zA C7)
 have hZ:=Blk.new (w.alloc (.cells (Dt.cs ⟨h,xsF xs⟩ ⟨none,0,ia,ic⟩) C7)) C7 zA
 have hb1:Below w.heap.size w ((w.alloc (.cells (Dt.cs ⟨h,xsF xs⟩ ⟨none,0,ia,ic⟩) C7)).alloc (.cells zA C7)):=B2 (B2 (Below.refl _ _) _) _
 have e1:(w.alloc (.cells (Dt.cs ⟨h,xsF xs⟩ ⟨none,0,ia,ic⟩) C7)).heap.size=w.heap.size+1:=by simp
 rw[e1] at h1 hZ
 change Code.wp _ _ _ a1 ((w.alloc (.cells (Dt.cs ⟨h,xsF xs⟩ ⟨none,0,ia,ic⟩) C7)).alloc (.cells zA C7))
 generalize (w.alloc (.cells (Dt.cs ⟨h,xsF xs⟩ ⟨none,0,ia,ic⟩) C7)).alloc (.cells zA C7)=w1 at hA hZ hb1 ⊢
 have hzA:=hA.lt
 have hzZ:=hZ.lt
 refine Zs (Ch9 (C0:=fun q u=>q=⟨none,0,0⟩/\u=w1) h1 rfl (A9 hA Tryz.underlying24 rfl (by show some (Value.slice none h.path.length 0)=_;rw[hp];rfl)) ((Tryz.slices_Clone_int_nil 0 0 w1).mono fun e u hh=>⟨⟨none,0,0⟩,hh.1,rfl,hh.2⟩) (fun q u hq=> ?_) fun a2 q u hq h2=> ?_)
 ·obtain⟨_,rfl⟩:=hq
  exact F2 hA Zk (by show 9<11;omega) rfl
 obtain⟨rfl,rfl⟩:=hq
 have set9: ∀s:S3,(Dt.cs ⟨h,xsF xs⟩ ⟨none,0,s.d,s.c⟩).setIfInBounds 9 (.slice none 0 0)=Dt.cs ⟨h,xsF xs⟩ ⟨none,0,s.d,s.c⟩:=fun s=>by
  simp only[Dt.cs,Hd.cells,hp]
  rfl
 have hA2:=hA.set_ 9 (.slice none 0 0)
 rw[set9 ⟨ia,0,ic⟩] at hA2
 have hZ2:=hZ.far (p:=⟨w.heap.size,9,none⟩) (by simp) (.slice none 0 0)
 have hb2:Below w.heap.size w (u.setCells w.heap.size (5+4) [.slice none 0 0]):=C8 _ _ _ hb1 (Nat.le_refl _)
 change Code.wp _ _ _ a2 (u.setCells w.heap.size (5+4) [.slice none 0 0])
 change Blk (u.setCells w.heap.size (5+4) [.slice none 0 0]) _ _ _ at hA2
 change Blk (u.setCells w.heap.size (5+4) [.slice none 0 0]) _ _ _ at hZ2
 generalize u.setCells w.heap.size (5+4) [.slice none 0 0]=w2 at hA2 hZ2 hb2 ⊢
 have hzA2:=hA2.lt
 have hzZ2:=hZ2.lt
 have hr2:RowX w2 (fun b=>b<w.heap.size) ia xs:=hr.keep (fun b _ hl=>hb2.block b hl) (fun b _ hl=>hl)
 refine Zs (Ci0 (C0:=fun q v=>RowN w2.heap.size v q xs/\(xs=[]->q=⟨none,0,0⟩)/\Below w2.heap.size w2 v) h2 rfl (A9 hA2 Tryz.underlying23 rfl (by rw[<-R8 xs];rfl)) (Ns xs hxs hl ia ic w2 hr2) (fun q v hq=>F2 (hA2.below hq.2.2 hzA2) Zk (by show 10<11;omega) rfl) fun a3 s v hs h3=> ?_)
 obtain⟨hR,hnil,hbv⟩:=hs
 have hA3:=(hA2.below hbv hzA2).set_ 10 (.slice s.d s.n s.c)
 have hn:s.n=xs.length:=hR.1
 have e10:(Dt.cs ⟨h,xsF xs⟩ ⟨none,0,ia,ic⟩).setIfInBounds 10 (.slice s.d s.n s.c)=Dt.cs ⟨h,xsF xs⟩ ⟨none,0,s.d,s.c⟩:=by
  simp only[Dt.cs,hn,R8]
  rfl
 rw[e10] at hA3
 have hZ3:=(hZ2.below hbv hzZ2).far (p:=⟨w.heap.size,10,none⟩) (by simp) (.slice s.d s.n s.c)
 have hz2:=hb2.size
 have hzv:=hbv.size
 have hb3:Below w.heap.size w (v.setCells w.heap.size 10 [.slice s.d s.n s.c]):=C8 _ _ _ (A7 hb2 hbv) (Nat.le_refl _)
 have hR3:RowN w2.heap.size (v.setCells w.heap.size 10 [.slice s.d s.n s.c]) s xs:=ARow.keep hR fun g hg=>B5 _ _ _ (by have:=(ARow.block hR hg).1;omega)
 have hs3:(v.setCells w.heap.size 10 [.slice s.d s.n s.c]).heap.size=v.heap.size:=B7 _ _ _ _
 change Code.wp _ _ _ a3 (v.setCells w.heap.size 10 [.slice s.d s.n s.c])
 change Blk (v.setCells w.heap.size 10 [.slice s.d s.n s.c]) _ _ _ at hA3
 change Blk (v.setCells w.heap.size 10 [.slice s.d s.n s.c]) _ _ _ at hZ3
 generalize v.setCells w.heap.size 10 [.slice s.d s.n s.c]=w3 at hA3 hZ3 hb3 hR3 hs3 ⊢
 refine Zs (Ci1 (d:=⟨h,xsF xs⟩) (m:=⟨none,0,s.d,s.c⟩) h3 rfl rfl (C6 hA3 rfl) (D1 hZ3 (by show 0+11<=11;omega)) fun a4 h4=>wp_ret ?_)
 have hZ4:=K1 ⟨h,xsF xs⟩ ⟨none,0,s.d,s.c⟩ hZ3
 have hR4:RowN w2.heap.size (w3.setCells (w.heap.size+1) 0 (Dt.cs ⟨h,xsF xs⟩ ⟨none,0,s.d,s.c⟩).toList) s xs:=ARow.keep hR3 fun g hg=>B5 _ _ _ (by have:=(ARow.block hR3 hg).1;omega)
 exact Gy rfl h4 rfl (C6 hZ4 rfl) ⟨s,rfl,ARow.mono hR4 Zo,hnil,C8 _ _ _ hb3 Zo⟩
theorem Jf(x:Fd):Bl6 x:=fun w=>by
 have h:=Uq x.h (by cases x with
  | nil=>rfl
  | num n=>rfl
  | ref k o=>unfold Fd.h;split<;>rfl) [] (fun _ h=>by cases h) (by simp) none 0 w (S:=fun _=>False) (.inl rfl)
 refine h.mono ?_
 rintro e w' ⟨s,h1,h2,h3,h4⟩
 obtain rfl:=h3 rfl
 exact⟨h1,h4⟩
theorem Ur(xs:List Fd)(hl:xs.length<=1000)(ia:Option Addr)(ic:Nat)(w:World){S:Nat->Prop}(hr:RowX w S ia xs):Calls Tryz.prog 90 #[.slice ia xs.length ic] w (Aw1 xs w):=
 Ns xs (fun x _=>Jf x) hl ia ic w hr
theorem Us(a b:Fd)(ia:Option Addr)(ic:Nat)(w:World){S:Nat->Prop}(hr:RowX w S ia [a,b]):
  Calls Tryz.prog 68 #[.agg ((pr a b).cs ⟨none,0,ia,ic⟩)] w fun e w'=> ∃s:S3,e=.returned (.agg ((pr a b).cs ⟨none,0,s.d,s.c⟩))/\(RowN w.heap.size w' s [a,b]/\Below w.heap.size w w'):=
 (Uq (hdX 8 ⟨#[84]⟩ 0 0 0) rfl [a,b] (fun x _=>Jf x) (by simp) ia ic w hr).mono fun e w' ⟨s,h1,h2,_,h4⟩=>⟨s,h1,h2,h4⟩
end Go.Proofs.YtbjegfpfmnleeaaGreatDoor
