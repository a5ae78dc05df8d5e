/-
   Written by an AI agent.
-/
import Derived.Test.YtbjegfpfmnleeaaGreatDoorPk25
namespace Go.Proofs.YtbjegfpfmnleeaaGreatDoor
open Go.RowKit Go.Maps
set_option maxRecDepth 100000
theorem Sl.yield2{n:Nat}{a:Act}{l:List (Nat×Value)}{df:List Deferred}(h:Sl n a l df)(p q:Nat)(hp:p<n)(hq:q<n)(v z:Value):Sl n {tmps:=(#[p,q].zip #[v,z]).foldl (fun t (x:Nat×Value)=>t.setIfInBounds x.1 x.2) a.tmps,defers:=[]} ((q,z)::A6 [q] ((p,v)::A6 [p] l)):=by
 have h2:=(h.yield1 p hp v).yield1 q hq z
 have e:(#[p,q].zip #[v,z]).foldl (fun t (x:Nat×Value)=>t.setIfInBounds x.1 x.2) a.tmps=(#[q].zip #[z]).foldl (fun t (x:Nat×Value)=>t.setIfInBounds x.1 x.2) ((#[p].zip #[v]).foldl (fun t (x:Nat×Value)=>t.setIfInBounds x.1 x.2) a.tmps):=by simp
 rw[e]
 exact h2
theorem Al{P:Program}{fn:Func}{a:Act}{w:World}{n c:Nat}{l:List (Nat×Value)}{df:List Deferred}{z:Value}(hr:fn.results=#[.tmp c])(hs:Sl n a l df)(e3:l.lookup c=some z):(results fn a.tmps).run P w=.ok z w:=by
 have h1:=hs.look c e3
 unfold F9 at h1
 simp only[Array.getD_eq_getD_getElem?] at h1
 simp[results,hr,h1]
theorem MapAt.ext{w w':World}{m:Nat}{R:List En}{D O:Nat->Prop}{B:Nat}(h:MapAt w m R D O)(e:Ext B w w'):MapAt w' m R D O:=
 let⟨hb,n,H,N,b,A,n0,n1,hR,h4,h5,h6,o1,o2,o3,o4⟩:=h
 ⟨hb,n,H,N,b,A,n0,n1,hR.ext e,h4,h5,h6,o1,o2,o3,fun b hb=>Nat.lt_of_lt_of_le (o4 b hb) e.size⟩
theorem Jl{S:Nat->Prop}{B:Nat}{W W':World}(h:Moved S W W')(hS: ∀b,S b->∃t cs,Blk W b t cs):KeepsFrom B W W':=⟨h.size,fun k o _ hk ho=>(h.block k (Array.getElem?_eq_some_iff.1 hk).1 (fun q=>by
 obtain⟨t,cs,hc⟩:=hS k q
 have hc:W.heap[k]? =some (.cells cs t (0,0)):=hc
 rw[hk] at hc
 injection hc with hc
 subst hc
 cases ho)).trans hk⟩
theorem Am{P:Program}{A:Array TypeId}{t:TypeId}{B:Array Value}{w w':World}{v:Value}(h:(Builtin.append_ A t B).run P w=.ok v w')(t':TypeId):(Builtin.append_ A t' B).run P w=.ok v w':=h
abbrev zB:Array Value:=#[ii 0,.string ⟨#[]⟩,ii 0,.int .u64 0,.string ⟨#[]⟩,ii 0,ii 0,ii 0,ii 0,.slice none 0 0,.slice none 0 0,ii 0,.string ⟨#[]⟩,ii 0,.int .u64 0,.string ⟨#[]⟩,ii 0,ii 0,ii 0,ii 0,.slice none 0 0,.slice none 0 0]
theorem Bm6{w:World}{B n:Nat}{s:S3}{xs:List Value}(h:ARow w B C7 11 s n xs)(hn:n<=1000000000)(hB:B<=w.heap.size):
  ∃(g c:Nat) (w':World),(∀ty,(Builtin.append_ #[23,23] ty #[.slice s.d s.n s.c,.slice (some ⟨w.heap.size,0,none⟩) 2 2]).run Tryz.prog (w.alloc (.cells zB C7))=.ok (.slice (some ⟨g,0,none⟩) (n+2) c) w')/\ARow w' B C7 11 ⟨some ⟨g,0,none⟩,n+2,c⟩ (n+2) (xs++zB.toList)/\Moved (fun b=>s.v.ownBlock=some b) w w'/\(s.v.ownBlock=some g\/w.heap.size<g):=by
 obtain⟨i,hi,hz0,hz1,hz2⟩:=An Vj
 have hx:=Blk.new w C7 zB
 have hcl:zB.toList.length=2*11:=rfl
 have hcell: ∀(j:Nat) (u:Value),zB.toList[j]? =some u->(w.alloc (.cells zB C7)).cell? ((⟨w.heap.size,0,none⟩:Addr).add j)=some u:=fun j u hu=>by
  rw[Ck,Nat.zero_add,hx.cell,<-Array.getElem?_toList]
  exact hu
 have hw1:(w.alloc (.cells zB C7)).heap.size=w.heap.size+1:=World.size_alloc _ _
 have h1: ∀u∈zB.toList,u.oneCell'=true:=by decide
 obtain⟨v',w',hr,ho,hg,_,hblk⟩:=run_append_own_at (P:=Tryz.prog) (w:=w.alloc (.cells zB C7)) B 23 0 C7 i _ 11 136 Tryz.underlying23 hi hz0 hz1 hz2 rfl Zo s.v n xs (S9 h.2 (B2 (Below.refl _ _) _)) ⟨w.heap.size,0,none⟩ 2 2 zB.toList hcl hcell h1 (by simp only[maxLen];omega) Zo Zo
 obtain⟨s',rfl,hs'⟩:=ARow.of_v ho
 rcases ARow.cases hs' with⟨_,h0,_⟩ | ⟨g,cs,e1,e2,e3,_⟩
 ·omega
 ·obtain⟨d,k,c⟩:=s'
  injection e1 with e1 e4 e5
  subst e1 e4
  refine⟨g,c,w',fun ty=>Am hr ty,hs',⟨by have:=hg.size;omega,hg.os,hg.tape,hg.output,fun b hb hn=>(hg.block b Zo (fun e=>hn e.symm)).trans (Below.heap_alloc _ _ _ hb)⟩, ?_⟩
  rcases hblk with h | h
  ·exact .inl (h.symm.trans e2)
  ·rw[e2] at h
   injection h with h
   exact .inr Zo
theorem ARow.put{w:World}{B sz n g c:Nat}{t:TypeId}{A V Z:List Value}(h:ARow w B t sz ⟨some ⟨g,0,none⟩,n,c⟩ n (A++V++Z)){vs:List Value}(hv:vs.length=V.length){o:Nat}(ho:o=A.length):ARow (w.setCells g o vs) B t sz ⟨some ⟨g,0,none⟩,n,c⟩ n (A++vs++Z):=by
 subst ho
 rcases ARow.cases h with⟨e,_⟩ | ⟨g',cs,e1,e2,e3,e4,e5,e6,e7,e8⟩
 ·cases e
 ·injection e2 with e2
  have e2:g=g':=e2
  subst e2
  refine⟨rfl, ?_,.inr ⟨g,c,_,rfl,e3,Blk.setL vs A.length _ _ e4,e5,e6,by rw[K5];exact e7, ?_⟩⟩
  ·have:=h.2.1
   simp only[List.length_append] at this ⊢
   omega
  ·have hl:=h.2.1
   have hsz:cs.size=c*sz:=e7
   have hcn:n*sz<=c*sz:=Nat.mul_le_mul_right sz e5
   apply List.ext_getElem?
   intro j
   by_cases hj:j<n*sz
   ·have h8:(cs.toList.take (n*sz))[j]? =(A++V++Z)[j]? :=by rw[e8]
    rw[List.getElem?_take_of_lt hj,Array.getElem?_toList] at h8
    rw[List.getElem?_take_of_lt hj,Array.getElem?_toList,X0]
    by_cases h1:j<A.length
    ·rw[if_neg Zo,h8,List.append_assoc,List.append_assoc,List.getElem?_append_left h1,List.getElem?_append_left h1]
    ·by_cases h2:j<A.length+vs.length
     ·rw[if_pos Zo,List.append_assoc,List.getElem?_append_right Zo,List.getElem?_append_left Zo]
     ·rw[if_neg Zo,h8,List.append_assoc,List.append_assoc,List.getElem?_append_right Zo,List.getElem?_append_right Zo,List.getElem?_append_right Zo,List.getElem?_append_right Zo,hv]
   ·rw[List.getElem?_take_eq_none Zo,List.getElem?_eq_none (by simp only[List.length_append] at hl ⊢;omega)]
def hnC(x:Hn):List Value:=(x.k.cs x.dk).toList++(x.v.cs x.dv).toList
def Mm(p:Fd×Fd):List Fd:=[p.1,p.2]
structure HnF (x:Hn) (p:Fd×Fd):Prop where
 k:x.k=p.1.dt
 v:x.v=p.2.dt
 ck:capOk x.dk.pa x.dk.pc/\capOk x.dk.ia x.dk.ic
 cv:capOk x.dv.pa x.dv.pc/\capOk x.dv.ia x.dv.ic
theorem Vg: ∀pre:List Hn,(pre.flatMap hnC).length=pre.length*22
 | []=>rfl
 | y::pre=>by
  rw[List.flatMap_cons,List.length_append,Vg pre]
  have:(hnC y).length=22:=by simp[hnC,Dt.cs,Hd.cells]
  simp only[List.length_cons]
  omega
theorem Cq3{w:World}{S:Nat->Prop}{q:Nat}{t:TypeId}{cs:Array Value}(hB:Blk w q t cs): ∀(pre:List Hn) (E:List (Fd×Fd)) (o:Nat),pre.length=E.length->(∀(j:Nat) (x:Hn) (p:Fd×Fd),pre[j]? =some x->E[j]? =some p->HnF x p)->(cs.toList.drop o).take (pre.length*22)=pre.flatMap hnC->FoAt w S q o (xsF (E.flatMap Mm))
 | [],[],_,_,_,_=>trivial
 | [],_::_,_,h,_,_=>by simp at h
 | _::_,[],_,h,_,_=>by simp at h
 | x::pre,p::E,o,hl,hh,hc=>by
  have h0:=hh 0 x p rfl rfl
  have l1:(x.k.cs x.dk).toList.length=11:=by simp[Dt.cs,Hd.cells]
  have l2:(x.v.cs x.dv).toList.length=11:=by simp[Dt.cs,Hd.cells]
  rw[List.flatMap_cons] at hc
  unfold hnC at hc
  have g: ∀k,k<(pre.length+1)*22->cs.toList[o+k]? =((x.k.cs x.dk).toList++(x.v.cs x.dv).toList++pre.flatMap hnC)[k]? :=fun k hk=>by
   have:((cs.toList.drop o).take ((x::pre).length*22))[k]? =((x.k.cs x.dk).toList++(x.v.cs x.dv).toList++pre.flatMap hnC)[k]? :=by rw[hc];rfl
   rw[List.getElem?_take_of_lt (by simpa using hk),List.getElem?_drop] at this
   exact this
  have ck:w.rangeAt q o (x.k.cs x.dk).toList:=Q0 hB o 11 (X2 l1 fun k hk=>by rw[g k Zo,List.append_assoc,List.getElem?_append_left Zo])
  have cv:w.rangeAt q (o+11) (x.v.cs x.dv).toList:=Q0 hB (o+11) 11 (X2 l2 fun k hk=>by rw[show o+11+k=o+(11+k) by omega,g (11+k) Zo,List.append_assoc,List.getElem?_append_right Zo,List.getElem?_append_left Zo];congr 1;omega)
  have e1:x.k.h=p.1.h:=by rw[h0.k];rfl
  have e2:x.v.h=p.2.h:=by rw[h0.v];rfl
  have k1:x.k.k.len=0:=by rw[h0.k];rfl
  have k2:x.v.k.len=0:=by rw[h0.v];rfl
  show FoAt w S q o (.cons p.1.h .nil (.cons p.2.h .nil (xsF (E.flatMap Mm))))
  refine⟨⟨x.dk.pa,x.dk.pc,x.dk.ia,x.dk.ic,fun j v hj=>ck j v ?_,.inl (R9 p.1),by rw[R9];exact Nat.zero_le _,h0.ck.1,Nat.zero_le _,h0.ck.2,.inl rfl⟩,⟨x.dv.pa,x.dv.pc,x.dv.ia,x.dv.ic,fun j v hj=>cv j v ?_,.inl (R9 p.2),by rw[R9];exact Nat.zero_le _,h0.cv.1,Nat.zero_le _,h0.cv.2,.inl rfl⟩, ?_⟩
  ·rw[Array.getElem?_toList]
   unfold Dt.cs
   rw[e1,k1]
   exact hj
  ·rw[Array.getElem?_toList]
   unfold Dt.cs
   rw[e2,k2]
   exact hj
  ·refine Cq3 hB pre E (o+11+11) (by simpa using hl) (fun j y r hy hr=>hh (j+1) y r (by simpa using hy) (by simpa using hr)) (X2 ?_ fun k hk=> ?_)
   ·exact Vg pre
   ·rw[show o+11+11+k=o+(22+k) by omega,g (22+k) Zo,List.getElem?_append_right (by simp only[List.length_append];omega)]
    congr 1
    simp only[List.length_append]
    omega
def Qr(E:List (Fd×Fd)):List Fd:=E.reverse.flatMap Mm
def Ax0(w:World)(xs:List Fd)(e:Ending)(w':World):Prop:= ∃s:S3,e=.returned (.slice s.d s.n s.c)/\s.n=xs.length/\SlAt w' (fun b=>w.heap.size<=b) s.d (xsF xs)/\Below w.heap.size w w'
theorem Cq4:zB.toList=zA.toList++zA.toList:=rfl
theorem ARow.fill{w:World}{B n g c:Nat}{xs:List Value}(h:ARow w B C7 11 ⟨some ⟨g,0,none⟩,n+2,c⟩ (n+2) (xs++zB.toList))(hl:xs.length=n*11){g3:Nat}(hg:g3≠g){z:List Value}(x:Hn):
  ARow (((w.setCells g (n*11) (x.k.cs x.dk).toList).setCells g ((n+1)*11) (x.v.cs x.dv).toList).setCells g3 0 z) B C7 11 ⟨some ⟨g,0,none⟩,n+2,c⟩ (n+2) (xs++hnC x)/\
  ARow (((w.setCells g (n*11) (x.k.cs x.dk).toList).setCells g3 0 z).setCells g ((n+1)*11) (x.v.cs x.dv).toList) B C7 11 ⟨some ⟨g,0,none⟩,n+2,c⟩ (n+2) (xs++hnC x)/\
  ARow (((w.setCells g3 0 z).setCells g (n*11) (x.k.cs x.dk).toList).setCells g ((n+1)*11) (x.v.cs x.dv).toList) B C7 11 ⟨some ⟨g,0,none⟩,n+2,c⟩ (n+2) (xs++hnC x):=by
 have far: ∀{u:World} {ys:List Value},ARow u B C7 11 ⟨some ⟨g,0,none⟩,n+2,c⟩ (n+2) ys->ARow (u.setCells g3 0 z) B C7 11 ⟨some ⟨g,0,none⟩,n+2,c⟩ (n+2) ys:=fun hu=>hu.keep fun b hb=>by
  injection hb with hb
  have hb:g=b:=hb
  subst hb
  exact B5 _ _ _ (Ne.symm hg)
 have l1:(x.k.cs x.dk).toList.length=zA.toList.length:=by simp[Dt.cs,Hd.cells]
 have l2:(x.v.cs x.dv).toList.length=zA.toList.length:=by simp[Dt.cs,Hd.cells]
 have l11:(x.k.cs x.dk).toList.length=11:=by simp[Dt.cs,Hd.cells]
 have p1: ∀{u:World},ARow u B C7 11 ⟨some ⟨g,0,none⟩,n+2,c⟩ (n+2) (xs++zB.toList)->ARow (u.setCells g (n*11) (x.k.cs x.dk).toList) B C7 11 ⟨some ⟨g,0,none⟩,n+2,c⟩ (n+2) (xs++(x.k.cs x.dk).toList++zA.toList):=fun hu=>by
  rw[Cq4,<-List.append_assoc] at hu
  exact hu.put l1 hl.symm
 have p2: ∀{u:World},ARow u B C7 11 ⟨some ⟨g,0,none⟩,n+2,c⟩ (n+2) (xs++(x.k.cs x.dk).toList++zA.toList)->ARow (u.setCells g ((n+1)*11) (x.v.cs x.dv).toList) B C7 11 ⟨some ⟨g,0,none⟩,n+2,c⟩ (n+2) (xs++hnC x):=fun hu=>by
  have:=ARow.put (Z:=[]) (by rw[List.append_nil];exact hu) l2 (o:=(n+1)*11) (by rw[List.length_append];omega)
  rw[List.append_nil,List.append_assoc] at this
  exact this
 exact⟨far (p2 (p1 h)),p2 (far (p1 h)),p2 (p1 (far h))⟩
set_option maxHeartbeats 4000000 in
theorem Qs{w:World}{p mb:Nat}{E:List (Fd×Fd)}{R:List En}{D Om:Nat->Prop}(hB:Blk w p Bl5 #[pT mb])(hM:MapAt w mb R D Om)(hkv:R.map kvE=E.map kvF)(hE:E.length<=100000)(hown:OwnAt w):
  Calls Tryz.prog 165 #[pT p] w (Ax0 w (Qr E)):=by
 refine X9 (vs:=[pT p]) 23 Tryz.func165 Ah8 Zk (by simp) fun a0 h0=> ?_
 unfold Um
 refine Zs (Co1 h0 fun a1 h1=> ?_)
 refine Zs (Co2 h1 fun a2 h2=> ?_)
 have hS:=Blk.new w 23 #[.slice none 0 0]
 have hb1:Below w.heap.size w (w.alloc (.cells #[.slice none 0 0] 23)):=B2 (Below.refl _ _) _
 change Code.wp _ _ _ a2 (w.alloc (.cells #[.slice none 0 0] 23))
 generalize w.alloc (.cells #[.slice none 0 0] 23)=w1 at hS hb1 ⊢
 have hzS:=hS.lt
 refine wp_seq (Zs (Co3 (mb:=mb) (C0:=fun x u=>x=w1.heap.size/\Blk u w1.heap.size 117 #[pT mb]/\Below w1.heap.size w1 u) h2 rfl (A9 (hB.below hb1 hB.lt) Tryz.underlying117 rfl rfl) ((Wg w1 mb).mono fun e u hh=>⟨_,hh.1,rfl,hh.2⟩) fun a3 x u hx h3=> ?_))
 obtain⟨rfl,hG,hbu⟩:=hx
 have hbwu:=A7 hb1 hbu
 have hzu:=hbu.size
 have hMu:=MapAt.old hM hbwu
 have hRE:R.length=E.length:=by
  have:=congrArg List.length hkv
  simpa using this
 refine wp_block ?_
 refine Vm (σ:=S3) (g:=.tmp 10) (ps:=#[11,12]) (gf:=167) (lb:=#[pT w1.heap.size]) (h3.look 10 rfl) (Go.Proofs.enters_of Tryz.func167 Zk rfl)
  (Bn1 (fun _:S3=>R) R w1.heap.size mb u) (Below.refl _ _) (fun _=>rfl) (fun s b=>b=w.heap.size\/s.v.ownBlock=some b)
  (fun s pre A=>Blk A w.heap.size 23 #[.slice s.d s.n s.c]/\ARow A u.heap.size C7 11 s (2*pre.length) (pre.flatMap hnC)/\MapAt A mb R D Om/\Blk A w1.heap.size 117 #[pT mb]/\OwnAt A/\Below w.heap.size w A/\u.heap.size<=A.heap.size/\pre.length<=E.length/\(∀(j:Nat) (x:Hn) (p:Fd×Fd),pre[j]? =some x->E.reverse[j]? =some p->HnF x p))
  (fun _ _ _ _=>False) ?hI (fun _ _ _ _ _ h _=>h) ?hM ?hO ?hY ⟨none,0,0⟩ ?h0
  (fun s x _ a' A=> ∃g4 g5,Sl 23 a' [(5,pT g5),(4,pT g4),(3,pT w.heap.size)] []/\Blk A g4 C7 (x.k.cs x.dk)/\Blk A g5 C7 (x.v.cs x.dv)/\(u.heap.size<=g4/\s.v.ownBlock≠some g4)/\u.heap.size<=g5/\s.v.ownBlock≠some g5) ?hAx ?ha ?hb ?hd (fun _ _ _ _ h=>h.elim) (fun _ _ _ _ h _=>h)
 case hI=>
  rintro s pre A C ⟨q1,q2,q3,q4,q5,q6,q7,q8⟩ e
  exact⟨q1.ext e,⟨q2.1,Cz q2.2 e⟩,q3.ext e,q4.ext e,hown.old (Below.ext' q6 e Zo),Below.ext' q6 e Zo,Nat.le_trans q7 e.size,q8⟩
 case hM=>
  rintro s pre A ⟨q1,q2,q3,q4,q5,q6,q7,q8⟩
  exact⟨by rw[q4.cell];rfl,⟨D,Om,q3⟩,by show R.length<=_;omega,fun _=>rfl,q5⟩
 case hO=>
  rintro s pre A ⟨q1,q2,q3,q4,q5,q6,q7,q8⟩ b hb
  rcases hb with rfl | hb
  ·exact q1.lt
  ·exact(q2.block hb).2
 case hY=>
  rintro _ pre x Hd A C ⟨y1,y4⟩ e
  exact⟨y1,y4.ext e⟩
 case h0=>
  exact⟨hS.below hbu hzS,ARow.nil _ _ _ _,hMu,hG,hown.old hbwu,hbwu,Nat.le_refl _,Nat.zero_le _,fun j x p h=>by simp at h⟩
 case hAx=>
  rintro _ x Hd a' A C ⟨g4,g5,x1,x2,x3,x4⟩ e
  exact⟨g4,g5,x1,x2.ext e,x3.ext e,x4⟩
 case ha=>
  rintro l s pre x Hd W Kn ⟨q1,q2,q3,q4,q5,q6,q7,q8⟩ hy hHd hK
  refine Ew4 (Co4 (k:=x.k) (mk:=x.dk) (h3.yield2 11 12 Zo Zo _ _) rfl (D1 (Blk.new W C7 zA) (by show 0+11<=11;omega)) fun a4 h4=> ?_) Zk (fun⟨_,_,h⟩=>h)
  have hX:=Q8 (w:=W) x.k x.dk
  show Code.wpIn _ _ _ _ _ a4 ((W.alloc (.cells zA C7)).setCells W.heap.size 0 (x.k.cs x.dk).toList)
  generalize (W.alloc (.cells zA C7)).setCells W.heap.size 0 (x.k.cs x.dk).toList=W2 at hX ⊢
  obtain⟨hB2,hb2⟩:=hX
  have l2:=hB2.lt
  refine Rc (Co5 (v:=x.v) (mv:=x.dv) h4 rfl (D1 (Blk.new W2 C7 zA) (by show 0+11<=11;omega)) fun a5 h5=> ?_) Zk (fun⟨_,_,h⟩=>h)
  have hX3:=Q8 (w:=W2) x.v x.dv
  have e3:((W2.alloc (.cells zA C7)).setCells W2.heap.size 0 (x.v.cs x.dv).toList)=(W2.alloc (.cells zA C7)).setCells W2.heap.size 0 (x.v.cs x.dv).toList:=rfl
  exact hK a5 _ (A7 hb2 hX3.2) ⟨_,_,h5.to ⟨rfl,rfl,rfl,trivial⟩,hB2.below hX3.2 l2,hX3.1,⟨q7,fun e=>by have:=(q2.block e).2;omega⟩,Zo,fun e=>by have:=(q2.block e).2;omega⟩
 case hb=>
  rintro l s pre x Hd a4 W ⟨q1,q2,q3,q4,q5,q6,q7,q8,q9⟩ ⟨⟨e,he,hxk,hxv⟩,lo,mid,hi,ax1,ax2,_⟩ hHd ⟨g4,g5,h4,x2,x3,⟨x4,n4⟩,x5,n5⟩
  have hdr:Below W.heap.size W (W.drewN 1):=B3 (Below.refl _ _) 1
  have hpl:pre.length<E.length:=by
   have:=(List.getElem?_eq_some_iff.1 he).1
   rw[List.length_reverse] at this
   omega
  obtain⟨g,c,w',hrun,hA,hMv,hgx⟩:=Bm6 (q2.old hdr) Zo q7
  have hl:(pre.flatMap hnC).length=2*pre.length*11:=by rw[Vg];omega
  have hlw:=q1.lt
  have hl4:=x2.lt
  have hl5:=x3.lt
  have hg3:w.heap.size≠g:=fun e=>by
   rcases hgx with q | q
   ·have:=(q2.block q).1
    omega
   ·have:W.heap.size<g:=q
    omega
  have ng4:g4≠g:=fun e=>by
   rcases hgx with q | q
   ·exact n4 (by rw[e];exact q)
   ·have:W.heap.size<g:=q
    omega
  have ng5:g5≠g:=fun e=>by
   rcases hgx with q | q
   ·exact n5 (by rw[e];exact q)
   ·have:W.heap.size<g:=q
    omega
  have w4:g4≠w.heap.size:=by omega
  have w5:g5≠w.heap.size:=by omega
  have hMW:Moved (fun b=>b=w.heap.size\/s.v.ownBlock=some b) W w':=(Moved.of_below hdr).trans (hMv.more fun b hb=>.inl (.inr hb))
  have hgO:(g=w.heap.size\/s.v.ownBlock=some g)\/W.heap.size<=g:=hgx.elim (fun q=>.inl (.inr q)) (fun q=>.inr (Nat.le_of_lt q))
  have hw4:Blk w' g4 C7 (x.k.cs x.dk):=(hMv.block _ hl4 n4).trans x2
  have hw5:Blk w' g5 C7 (x.v.cs x.dv):=(hMv.block _ hl5 n5).trans x3
  have hw3:Blk w' w.heap.size 23 #[.slice s.d s.n s.c]:=(hMv.block _ hlw (fun e=>by have:=(q2.block e).1;omega)).trans q1
  obtain⟨cs,hgB,hcz⟩: ∃cs,Blk w' g C7 cs/\(2*pre.length+2)*11<=cs.size:=by
   rcases ARow.cases hA with⟨e,_⟩ | ⟨g',cs,e1,e2,e3,e4,e5,e6,e7,e8⟩
   ·cases e
   ·injection e2 with e2
    have e2:g=g':=e2
    subst e2
    exact⟨cs,e4,by rw[e7];exact Nat.mul_le_mul_right 11 e5⟩
  obtain⟨C,hC⟩: ∃C:World->Prop,C=fun z=>Blk z g4 C7 (x.k.cs x.dk)/\Blk z g5 C7 (x.v.cs x.dv):=⟨_,rfl⟩
  have hCg: ∀(z:World) (o:Nat) (vs:List Value),C z->C (z.setCells g o vs):=fun z o vs hz=>by
   rw[hC] at hz ⊢
   exact⟨Blk.farL ng4 _ _ _ hz.1,Blk.farL ng5 _ _ _ hz.2⟩
  have hC3: ∀(z:World) (o:Nat) (vs:List Value),C z->C (z.setCells w.heap.size o vs):=fun z o vs hz=>by
   rw[hC] at hz ⊢
   exact⟨Blk.farL w4 _ _ _ hz.1,Blk.farL w5 _ _ _ hz.2⟩
  have hCw:C w':=by rw[hC];exact⟨hw4,hw5⟩
  have sg: ∀(z:World) (cs:Array Value) (d:Dt) (m:Dm) (o:Nat),Blk z g C7 cs->o+11<=cs.size->So C7 g o (.agg (d.cs m)) z (d.cs m).toList:=fun z cs d m o hz ho=>D1 hz ho
  have s3: ∀(z:World),Blk z w.heap.size 23 #[.slice s.d s.n s.c]->So 23 w.heap.size 0 (.slice (some ⟨g,0,none⟩) (2*pre.length+2) c) z [.slice (some ⟨g,0,none⟩) (2*pre.length+2) c]:=fun z hz=>F2 hz Zk (by show 0<1;omega) rfl
  have gset: ∀(z:World) (cs:Array Value) (o:Nat) (vs:List Value),Blk z g C7 cs->∃cs',Blk (z.setCells g o vs) g C7 cs'/\cs'.size=cs.size:=fun z cs o vs hz=>⟨_,Blk.setL vs o _ _ hz,K5 _ _ _⟩
  have b3g: ∀(z:World) (t:TypeId) (cs:Array Value) (o:Nat) (vs:List Value),Blk z w.heap.size t cs->Blk (z.setCells g o vs) w.heap.size t cs:=fun z t cs o vs hz=>Blk.farL hg3 _ _ _ hz
  have bg3: ∀(z:World) (cs:Array Value) (o:Nat) (vs:List Value),Blk z g C7 cs->Blk (z.setCells w.heap.size o vs) g C7 cs:=fun z cs o vs hz=>Blk.farL (Ne.symm hg3) _ _ _ hz
  have hset3: ∀(z:World),Blk z w.heap.size 23 #[.slice s.d s.n s.c]->Blk (z.setCells w.heap.size 0 [.slice (some ⟨g,0,none⟩) (2*pre.length+2) c]) w.heap.size 23 #[.slice (some ⟨g,0,none⟩) (2*pre.length+2) c]:=fun z hz=>hz.set_ 0 _
  obtain⟨c1,g1,z1⟩:=gset w' cs (2*pre.length*11) (x.k.cs x.dk).toList hgB
  obtain⟨r1,r2,r3⟩:=ARow.fill hA hl (g3:=w.heap.size) hg3 (z:=[.slice (some ⟨g,0,none⟩) (2*pre.length+2) c]) x
  have fin: ∀(a':Act) (Wf:World),Blk Wf w.heap.size 23 #[.slice (some ⟨g,0,none⟩) (2*pre.length+2) c]->ARow Wf u.heap.size C7 11 ⟨some ⟨g,0,none⟩,2*pre.length+2,c⟩ (2*pre.length+2) (pre.flatMap hnC++hnC x)->Moved (fun b=>b=w.heap.size\/s.v.ownBlock=some b) W Wf->
    Bn0 (fun(s:S3) b=>b=w.heap.size\/s.v.ownBlock=some b) u.heap.size (fun s pre A=>Blk A w.heap.size 23 #[.slice s.d s.n s.c]/\ARow A u.heap.size C7 11 s (2*pre.length) (pre.flatMap hnC)/\MapAt A mb R D Om/\Blk A w1.heap.size 117 #[pT mb]/\OwnAt A/\Below w.heap.size w A/\u.heap.size<=A.heap.size/\pre.length<=E.length/\(∀(j:Nat) (x:Hn) (p:Fd×Fd),pre[j]? =some x->E.reverse[j]? =some p->HnF x p)) (fun _ _ _ _=>False) s Hd (pre++[x]) W .normal a' Wf:=fun a' Wf f1 f2 f3=>by
   have hbl: ∀b,b<u.heap.size->b≠w.heap.size->b<W.heap.size->Wf.heap[b]? =W.heap[b]? :=fun b h1 h2 h3=>f3.block b h3 fun q=>by
    rcases q with q | q
    ·exact h2 q
    ·have:=(q2.block q).1
     omega
   have hlen:(pre++[x]).length=pre.length+1:=by simp
   have hbf:Below w.heap.size w Wf:=f3.below q6 (fun b hb q=>by
    rcases q with q | q
    ·omega
    ·have:=(q2.block q).1
     omega) q6.size
   refine⟨Jl f3 fun b hb=> ?_,⟨some ⟨g,0,none⟩,2*pre.length+2,c⟩,⟨f1, ?_, ?_, ?_,hown.old hbf,hbf,Nat.le_trans q7 f3.size,by rw[hlen];omega, ?_⟩,f3.more (fun b hb=>.inl hb),fun b hb=> ?_⟩
   ·rcases hb with rfl | hb
    ·exact⟨_,_,q1⟩
    ·rcases ARow.cases q2 with⟨e,_⟩ | ⟨g',cs,_,e2,_,e4,_⟩
     ·rw[e] at hb
      cases hb
     ·rw[e2] at hb
      injection hb with hb
      subst hb
      exact⟨_,_,e4⟩
   ·rw[hlen,List.flatMap_append,List.flatMap_singleton]
    exact f2
   ·have hd:=MapAt.dlim hM
    have hzW:=q6.size
    exact MapAt.keepB q3 f3.size fun b hb=>hbl b (by have:=hd b hb;omega) (by have:=hd b hb;omega) (by have:=hd b hb;omega)
   ·exact(hbl _ hG.lt Zo Zo).trans q4
   ·intro j y p hy hp
    rcases Nat.lt_or_ge j pre.length with hj | hj
    ·rw[List.getElem?_append_left hj] at hy
     exact q9 j y p hy hp
    ·rw[List.getElem?_append_right hj] at hy
     have hj0:j-pre.length=0:=by
      have:=(List.getElem?_eq_some_iff.1 hy).1
      simp at this
      omega
     rw[hj0] at hy
     have hy:x=y:=by simpa using hy
     subst hy
     obtain rfl:j=pre.length:=by omega
     have hk:R.reverse.map kvE=E.reverse.map kvF:=by rw[List.map_reverse,List.map_reverse,hkv]
     have h5:(R.reverse.map kvE)[pre.length]? =(E.reverse.map kvF)[pre.length]? :=by rw[hk]
     rw[List.getElem?_map,List.getElem?_map,he,hp] at h5
     injection h5 with h5
     exact⟨hxk.trans (congrArg Prod.fst h5),hxv.trans (congrArg Prod.snd h5),⟨ax1.dat.pcMax,ax1.dat.icMax⟩,⟨ax2.dat.pcMax,ax2.dat.icMax⟩⟩
   ·rcases hb with hb | hb
    ·exact .inl (.inl hb)
    ·injection hb with hb
     have hb:g=b:=hb
     subst hb
     rcases hgO with q | q
     ·exact .inl q
     ·exact .inr (.inr q)
  refine wpIn_block (Dn6 (Co7 (C:=C) (C0:=fun _ c' v=>c'=c/\v=w') (ad:=s.d) (an:=2*pre.length) (ac:=s.c) (gx:=g) (k:=x.k) (mk:=x.dk) (v:=x.v) (mv:=x.dv) h4 rfl rfl rfl ?a0 ?a1 ?a2 ?a3 Zo ?a5 ?a6 ?a7 ?a8 ?a9 ?a10 ?a11 ?a12 ?a13 ?a14 ?a15 ?a16 ?a17 ?a18 ?a19 ?a20 ?a21 ?a22 ?a23 ?a24 ?a25 ?a26 ?f0 ?f1 ?f2) Zk (U2 Js))
  case a0=>rw[hC];exact⟨x2,x3⟩
  case a1=>exact fun z hz=>by rw[hC] at hz;exact C6 hz.1 rfl
  case a2=>exact fun z hz=>by rw[hC] at hz;exact C6 hz.2 rfl
  case a3=>exact A9 (t:=23) (cs:=#[.slice s.d (2*pre.length) s.c]) (by have:=q1;rw[q2.1] at this;exact this) Tryz.underlying23 rfl rfl
  case a5=>rw[hC];exact⟨x2.alloc _,x3.alloc _⟩
  case a6=>exact fun ty=>⟨c,w',by have:=hrun ty;rw[q2.1] at this;exact this,rfl,rfl⟩
  case a7=>exact fun c' v hc=>by rw[hc.2];exact hCw
  case a8=>exact fun c' v hc w=>by rw[hc.1];exact Q7 Zo w
  case a9=>exact fun c' v hc=>by rw[hc.2];exact sg w' cs _ _ _ hgB Zo
  case a10=>exact fun c' v hc=>by rw[hc.2];exact hCg _ _ _ hCw
  case a11=>exact fun c' v hc w=>by rw[hc.1];exact Q7 (j:=2*pre.length+1) Zo w
  case a12=>exact fun c' v hc=>by rw[hc.2];exact sg _ c1 _ _ _ g1 Zo
  case a13=>exact fun c' v hc=>by rw[hc.2];exact hCg _ _ _ (hCg _ _ _ hCw)
  case a14=>exact fun c' v hc=>by rw[hc.1,hc.2];exact s3 _ (b3g _ _ _ _ _ (b3g _ _ _ _ _ hw3))
  case a15=>exact fun c' v hc=>by rw[hc.1,hc.2];exact hC3 _ _ _ (hCg _ _ _ (hCg _ _ _ hCw))
  case a16=>exact fun c' v hc=>by rw[hc.1,hc.2];exact s3 _ (b3g _ _ _ _ _ hw3)
  case a17=>exact fun c' v hc=>by rw[hc.1,hc.2];exact hC3 _ _ _ (hCg _ _ _ hCw)
  case a18=>exact fun c' v hc=>by rw[hc.1,hc.2];exact sg _ c1 _ _ _ (bg3 _ _ _ _ g1) Zo
  case a19=>exact fun c' v hc=>by rw[hc.1,hc.2];exact hCg _ _ _ (hC3 _ _ _ (hCg _ _ _ hCw))
  case a20=>exact fun c' v hc=>by rw[hc.1,hc.2];exact s3 _ hw3
  case a21=>exact fun c' v hc=>by rw[hc.1,hc.2];exact hC3 _ _ _ hCw
  case a22=>exact fun c' v hc=>by rw[hc.1,hc.2];exact sg _ cs _ _ _ (bg3 _ _ _ _ hgB) Zo
  case a23=>exact fun c' v hc=>by rw[hc.1,hc.2];exact hCg _ _ _ (hC3 _ _ _ hCw)
  case a24=>
   intro c' v hc
   rw[hc.1,hc.2]
   obtain⟨c2,g2,z2⟩:=gset _ cs (2*pre.length*11) (x.k.cs x.dk).toList (bg3 w' cs 0 [.slice (some ⟨g,0,none⟩) (2*pre.length+2) c] hgB)
   exact sg _ c2 _ _ _ g2 Zo
  case a25=>exact fun c' v hc=>by rw[hc.1,hc.2];exact hCg _ _ _ (hCg _ _ _ (hC3 _ _ _ hCw))
  case a26=>exact A9 (t:=23) (cs:=#[.slice s.d (2*pre.length) s.c]) (by have:=q1.alloc (.cells zB C7);rw[q2.1] at this;exact this) Tryz.underlying23 rfl rfl
  case f0=>
   intro a' c' v hc _
   rw[hc.1,hc.2]
   exact B1 (fin a' _ (hset3 _ (b3g _ _ _ _ _ (b3g _ _ _ _ _ hw3))) r1 (((hMW.set hgO _ _).set hgO _ _).set (.inl (.inl rfl)) _ _))
  case f1=>
   intro a' c' v hc _
   rw[hc.1,hc.2]
   exact B1 (fin a' _ (b3g _ _ _ _ _ (hset3 _ (b3g _ _ _ _ _ hw3))) r2 (((hMW.set hgO _ _).set (.inl (.inl rfl)) _ _).set hgO _ _))
  case f2=>
   intro a' c' v hc _
   rw[hc.1,hc.2]
   exact B1 (fin a' _ (b3g _ _ _ _ _ (b3g _ _ _ _ _ (hset3 _ hw3))) r3 (((hMW.set (.inl (.inl rfl)) _ _).set hgO _ _).set hgO _ _))
 case hd=>
  rintro s xs W hE' ⟨q1,q2,q3,q4,q5,q6,q7,q8,q9⟩ hD
  have hxl:xs.length=E.length:=by rw[show xs.length=R.length from hE',hRE]
  refine B1 ?_
  have h5:Sl 23 {a3 with defers:={target:=.collected u.heap.size,args:=#[]}::a3.defers} [(3,pT w.heap.size)] [{target:=.collected u.heap.size,args:=#[]}]:=by
   have h6:=h3.to (l0:=[(3,pT w.heap.size)]) ⟨rfl,trivial⟩
   exact⟨h6.size,by simp[h6.defers],h6.known⟩
  refine Zs (Co6 h5 rfl (A9 q1 Tryz.underlying23 rfl rfl) fun a6 h6=>wp_ret ?_)
  show LeavesInM Fence.wide 9 Tryz.prog Tryz.f165 a6.tmps (Ax0 w (Qr E)) a6.defers .returning W
  rw[h6.defers]
  refine S7 (ds:=[u.heap.size]) u.heap.size _ (by simp) (fun D hD'=>by rw[List.mem_singleton.1 hD'];exact⟨Nat.le_refl _,hD⟩) fun W' hx=>⟨.slice s.d s.n s.c,Al rfl h6 rfl,s,rfl, ?_, ?_,Below.ext' q6 hx Zo⟩
  ·rw[q2.1,hxl]
   unfold Qr
   rw[List.length_flatMap]
   have:(List.map (fun a=>(Mm a).length) E.reverse).sum=2*E.length:=by
    have e:(fun a:Fd×Fd=>(Mm a).length)=fun _=>2:=rfl
    rw[e,List.map_const',List.sum_replicate_nat,List.length_reverse]
    omega
   rw[this]
  ·rcases ARow.cases q2 with⟨e,e0,_⟩ | ⟨g,cs,e1,e2,e3,e4,e5,e6,e7,e8⟩
   ·have:E=[]:=List.eq_nil_of_length_eq_zero Zo
    subst this
    exact .inl rfl
   ·refine .inr ⟨g,0,by rw[e1],Nat.le_trans hbwu.size e3,Cq3 (e4.ext hx) xs E.reverse 0 (by rw[hxl,List.length_reverse]) (fun j x p h1 h2=>q9 j x p h1 h2) ?_⟩
    rw[List.drop_zero,show xs.length*22=2*xs.length*11 by omega]
    exact e8
def Th.ok:Th->Prop
 | .obj a b=>a.ok/\b.ok
 | .arr a b=>a.ok/\b.ok
 | .tab E=>E.length<=1000/\∀p,p∈E->p.1.ok/\p.2.ok
 | .box a=>a.ok
 | .fn _ bx b=>bx.length<=1000/\b.ok/\∀v,v∈bx-> -9223372036854775808<=v/\v<=9223372036854775807
def Th.bx:Th->List Int
 | .fn _ bx _=>bx
 | _=>[]
def Th.fo:Th->Fo
 | .obj a b=>.cons (pr a b).h (pr a b).k .nil
 | .arr a b=>xsF [a,b]
 | .tab E=>xsF (Qr E)
 | .box a=>.cons a.dt.h a.dt.k .nil
 | .fn _ _ b=>xsF [b]
def Th.raw:Th->List Int
 | .obj a b=>a.to++b.to
 | .arr a b=>a.to++b.to
 | .tab E=>(Qr E).flatMap Fd.to
 | .box a=>a.to
 | .fn _ bx b=>bx++b.to
theorem Cq9(x:Fd)(hx:x.ok):(if x.h.obj=0 then[] else[x.h.obj])=x.to:=by
 cases x with
 | nil=>rfl
 | num n=>rfl
 | ref k o=>
  have:(Fd.ref k o).h.obj=(o:Int):=by
   unfold Fd.h
   split<;>simp_all [hdX]
  rw[this,if_neg (by have:=hx.1;omega)]
  rfl
theorem Ad: ∀xs:List Fd,(∀x,x∈xs->x.ok)->M8 (xsF xs)=xs.flatMap Fd.to
 | [],_=>rfl
 | x::r,h=>by
  show(if x.h.obj=0 then[] else[x.h.obj])++([]++M8 (xsF r))=_
  rw[Cq9 x (h x (by simp)),Ad r fun y hy=>h y (List.mem_cons_of_mem _ hy),List.nil_append,List.flatMap_cons]
theorem Mo{E:List (Fd×Fd)}(h: ∀p,p∈E->p.1.ok/\p.2.ok): ∀x,x∈Qr E->x.ok:=fun x hx=>by
 unfold Qr at hx
 obtain⟨p,hp,hx⟩:=List.mem_flatMap.1 hx
 have:=h p (List.mem_reverse.1 hp)
 simp only[Mm,List.mem_cons,List.not_mem_nil,or_false] at hx
 rcases hx with rfl | rfl
 ·exact this.1
 ·exact this.2
theorem Nw(E:List (Fd×Fd)):(Qr E).length=2*E.length:=by
 unfold Qr
 rw[List.length_flatMap]
 have e:(fun a:Fd×Fd=>(Mm a).length)=fun _=>2:=rfl
 rw[e,List.map_const',List.sum_replicate_nat,List.length_reverse]
 omega
theorem Cm(x:Fd):x.to.length<=1:=by cases x<;>simp[Fd.to]
theorem Gu: ∀xs:List Fd,(xs.flatMap Fd.to).length<=xs.length
 | []=>Nat.le_refl _
 | x::r=>by
  rw[List.flatMap_cons,List.length_append,List.length_cons]
  have:=Gu r
  have:=Cm x
  omega
theorem Vk(t:Th)(ht:t.ok):t.bx++M8 t.fo=t.raw:=by
 cases t with
 | obj a b=>
  show[]++([]++(M8 (xsF [a,b])++[]))=a.to++b.to
  rw[Ad [a,b] (by simp[ht.1,ht.2])]
  simp
 | arr a b=>
  show[]++M8 (xsF [a,b])=a.to++b.to
  rw[Ad [a,b] (by simp[ht.1,ht.2])]
  simp
 | tab E=>
  show[]++M8 (xsF (Qr E))=(Qr E).flatMap Fd.to
  rw[Ad _ (Mo ht.2),List.nil_append]
 | box a=>
  show[]++M8 (xsF [a])=a.to
  rw[Ad [a] fun x hx=>by obtain rfl:=List.mem_singleton.1 hx;exact ht]
  simp
 | fn c bx b=>
  show bx++M8 (xsF [b])=bx++b.to
  rw[Ad [b] (by simpa using ht.2.1)]
  simp
theorem Gv(t:Th)(ht:t.ok):t.raw.length<=10000:=by
 cases t with
 | obj a b=>have:=Cm a;have:=Cm b;simp only[Th.raw,List.length_append];omega
 | arr a b=>have:=Cm a;have:=Cm b;simp only[Th.raw,List.length_append];omega
 | tab E=>have h1:=Gu (Qr E);rw[Nw] at h1;have:=ht.1;simp only[Th.raw];omega
 | box a=>have:=Cm a;simp only[Th.raw];omega
 | fn c bx b=>have:=Cm b;have:=ht.1;simp only[Th.raw,List.length_append];omega
theorem Ed8(t:Th)(ht:t.ok):t.fo.ok:=by
 cases t with
 | obj a b=>have h:=Bl9 a b ht.1 ht.2;exact⟨h.1,h.2,trivial,h.3⟩
 | arr a b=>exact Ci _ (by simp[ht.1,ht.2])
 | tab E=>exact Ci _ (Mo ht.2)
 | box a=>exact Ci [a] fun x hx=>by obtain rfl:=List.mem_singleton.1 hx;exact ht
 | fn c bx b=>exact Ci _ (by simpa using ht.2.1)
theorem X4: ∀xs:List Fd,(xsF xs).len=xs.length
 | []=>rfl
 | _::r=>by simp only[xsF,Fo.len,List.length_cons];rw[X4 r]
theorem Cr0(t:Th)(ht:t.ok):t.fo.len<=10000:=by
 cases t with
 | obj a b=>show(1:Nat)<=_;omega
 | arr a b=>show(2:Nat)<=_;omega
 | tab E=>show(xsF (Qr E)).len<=_;rw[X4,Nw];have:=ht.1;omega
 | box a=>show(1:Nat)<=_;omega
 | fn c bx b=>show(1:Nat)<=_;omega
def Th.leads(t:Th):List Int:=L4 (L3 t.raw)
def S2(T:Tm)(n:Nat):List Int:=match I6 T n with
 | some t=>t.leads
 | none=>[]
def Ad5(w:World)(bx:List Int)(e:Ending)(w':World):Prop:= ∃x:S3,e=.returned (.slice x.d x.n x.c)/\(x.n=bx.length/\PathAt w' (fun b=>b<w.heap.size) x.d bx/\Below w.heap.size w w')
def Gw(w:World)(S:Nat->Prop)(f:Fo)(e:Ending)(w':World):Prop:= ∃x:S3,e=.returned (.slice x.d x.n x.c)/\(x.n=f.len/\SlAt w' (fun b=>S b\/w.heap.size<=b) x.d f/\Below w.heap.size w w')
section
variable {w:World} {p:Nat} {S:Nat->Prop}
theorem Cr1:Calls Tryz.prog 171 #[pT p] w (Ad5 w []):=by
 refine B6 (vs:=[pT p]) 3 Tryz.func171 Ag3 Zk (by simp) fun a0 h0=> ?_
 unfold Ue
 refine Zs (Cm5 h0 fun a1 h1=> ?_)
 refine Zs (Cm6 h1 fun a2 h2=>wp_ret ?_)
 exact G7 rfl h2 rfl ⟨⟨none,0,0⟩,rfl,rfl,.inl rfl,Below.refl _ _⟩
theorem Cr2:Calls Tryz.prog 169 #[pT p] w (Ad5 w []):=by
 refine B6 (vs:=[pT p]) 3 Tryz.func169 Ag7 Zk (by simp) fun a0 h0=> ?_
 unfold Ug
 refine Zs (Cm9 h0 fun a1 h1=> ?_)
 refine Zs (Cn0 h1 fun a2 h2=>wp_ret ?_)
 exact G7 rfl h2 rfl ⟨⟨none,0,0⟩,rfl,rfl,.inl rfl,Below.refl _ _⟩
theorem Cr3:Calls Tryz.prog 173 #[pT p] w (Ad5 w []):=by
 refine B6 (vs:=[pT p]) 3 Tryz.func173 Ah1 Zk (by simp) fun a0 h0=> ?_
 unfold Ui
 refine Zs (Cn3 h0 fun a1 h1=> ?_)
 refine Zs (Cn4 h1 fun a2 h2=>wp_ret ?_)
 exact G7 rfl h2 rfl ⟨⟨none,0,0⟩,rfl,rfl,.inl rfl,Below.refl _ _⟩
theorem Cr4:Calls Tryz.prog 164 #[pT p] w (Ad5 w []):=by
 refine B6 (vs:=[pT p]) 3 Tryz.func164 Ah7 Zk (by simp) fun a0 h0=> ?_
 unfold Ul
 refine Zs (Cn9 h0 fun a1 h1=> ?_)
 refine Zs (Co0 h1 fun a2 h2=>wp_ret ?_)
 exact G7 rfl h2 rfl ⟨⟨none,0,0⟩,rfl,rfl,.inl rfl,Below.refl _ _⟩
theorem Ed9{c:Int}{pa:Option Addr}{pc:Nat}{bx:List Int}{v:Value}(hB:Blk w p fnT #[ii c,.slice pa bx.length pc,v])(hp:PathAt w S pa bx)(hS: ∀b,S b->b<w.heap.size):Calls Tryz.prog 175 #[pT p] w (Ad5 w bx):=by
 refine B6 (vs:=[pT p]) 7 Tryz.func175 Ah5 Zk (by simp) fun a0 h0=> ?_
 unfold Uk
 refine Zs (Cn7 h0 fun a1 h1=> ?_)
 refine Zs (Cn8 h1 rfl (A9 hB Tryz.underlying24 rfl rfl) fun a2 h2=>wp_ret ?_)
 exact G7 rfl h2 rfl ⟨⟨pa,bx.length,pc⟩,rfl,rfl,hp.keep (fun _ _ _=>rfl) (fun b h _=>hS b h),Below.refl _ _⟩
theorem Ax2{d:Dt}{m:Dm}(hd:d.at w S m):SlAt (w.alloc (.cells (d.cs m) C7)) (fun b=>S b\/w.heap.size<=b) (some ⟨w.heap.size,0,none⟩) (.cons d.h d.k .nil):=by
 have hB:=Blk.new w C7 (d.cs m)
 have hb:Below w.heap.size w (w.alloc (.cells (d.cs m) C7)):=B2 (Below.refl _ _) _
 have hd':=hd.keep (w':=w.alloc (.cells (d.cs m) C7)) (S':=fun b=>S b\/w.heap.size<=b) (fun b _ hl=>hb.block b hl) (fun b h _=>.inl h)
 refine .inr ⟨_,0,rfl,.inr (Nat.le_refl _),⟨m.pa,m.pc,m.ia,m.ic,fun j v hj=> ?_,hd'.path,hd'.pcLe,hd'.pcMax,hd'.icLe,hd'.icMax,hd'.kids⟩,trivial⟩
 rw[hB.cell,Nat.zero_add]
 exact hj
theorem Cr5{d:Dt}{m:Dm}(hB:Blk w p Co8 (d.cs m))(hd:d.at w S m):Calls Tryz.prog 172 #[pT p] w (Gw w S (.cons d.h d.k .nil)):=by
 refine B6 (vs:=[pT p]) 8 Tryz.func172 Ag1 Zk (by simp) fun a0 h0=> ?_
 unfold Ud
 refine Zs (Cm3 h0 fun a1 h1=> ?_)
 refine Zs (Cm4 (d:=d) (m:=m) h1 rfl (C6 hB rfl) fun a2 h2=>wp_ret ?_)
 exact G7 rfl h2 rfl ⟨⟨some ⟨w.heap.size,0,none⟩,1,1⟩,rfl,rfl,Ax2 hd,B2 (Below.refl _ _) _⟩
theorem Cr6{d:Dt}{m:Dm}(hB:Blk w p Cp0 (d.cs m))(hd:d.at w S m):Calls Tryz.prog 170 #[pT p] w (Gw w S (.cons d.h d.k .nil)):=by
 refine B6 (vs:=[pT p]) 8 Tryz.func170 Ag5 Zk (by simp) fun a0 h0=> ?_
 unfold Uf
 refine Zs (Cm7 h0 fun a1 h1=> ?_)
 refine Zs (Cm8 (d:=d) (m:=m) h1 rfl (C6 hB rfl) fun a2 h2=>wp_ret ?_)
 exact G7 rfl h2 rfl ⟨⟨some ⟨w.heap.size,0,none⟩,1,1⟩,rfl,rfl,Ax2 hd,B2 (Below.refl _ _) _⟩
theorem Cr7{ia:Option Addr}{ic:Nat}{xs:List Fd}(hB:Blk w p Co9 #[.slice ia xs.length ic])(hr:RowX w S ia xs):Calls Tryz.prog 174 #[pT p] w (Gw w S (xsF xs)):=by
 refine B6 (vs:=[pT p]) 7 Tryz.func174 Ag9 Zk (by simp) fun a0 h0=> ?_
 unfold Uh
 refine Zs (Cn1 h0 fun a1 h1=> ?_)
 refine Zs (Cn2 h1 rfl (A9 hB Tryz.underlying23 rfl rfl) fun a2 h2=>wp_ret ?_)
 exact G7 rfl h2 rfl ⟨⟨ia,xs.length,ic⟩,rfl,(X4 xs).symm,(RowX.sl hr).keep (fun _ _ _=>rfl) (fun b h _=>.inl h),Below.refl _ _⟩
theorem Ee0{ia:Option Addr}{ic:Nat}{xs:List Fd}{v u:Value}(hB:Blk w p fnT #[v,u,.slice ia xs.length ic])(hr:RowX w S ia xs):Calls Tryz.prog 176 #[pT p] w (Gw w S (xsF xs)):=by
 refine B6 (vs:=[pT p]) 7 Tryz.func176 Ah3 Zk (by simp) fun a0 h0=> ?_
 unfold Uj
 refine Zs (Cn5 h0 fun a1 h1=> ?_)
 refine Zs (Cn6 h1 rfl (A9 hB Tryz.underlying23 rfl rfl) fun a2 h2=>wp_ret ?_)
 exact G7 rfl h2 rfl ⟨⟨ia,xs.length,ic⟩,rfl,(X4 xs).symm,(RowX.sl hr).keep (fun _ _ _=>rfl) (fun b h _=>.inl h),Below.refl _ _⟩
end
theorem Aj3{w:World}{S:Nat->Prop}{p:Nat}{t:Th}(h:ThAt w S p t)(hS: ∀b,S b->b<w.heap.size):
  match t with
  | .obj .. =>Calls Tryz.prog 171 #[pT p] w (Ad5 w t.bx)
  | .arr .. =>Calls Tryz.prog 173 #[pT p] w (Ad5 w t.bx)
  | .tab .. =>Calls Tryz.prog 164 #[pT p] w (Ad5 w t.bx)
  | .box .. =>Calls Tryz.prog 169 #[pT p] w (Ad5 w t.bx)
  | .fn .. =>Calls Tryz.prog 175 #[pT p] w (Ad5 w t.bx):=by
 cases t with
 | obj a b=>exact Cr1
 | arr a b=>exact Cr3
 | tab E=>exact Cr4
 | box a=>exact Cr2
 | fn c bx b=>obtain⟨pa,pc,ia,ic,h1,h2,_⟩:=h;exact Ed9 h1 h2 hS
theorem X5{w:World}{S:Nat->Prop}{p:Nat}{t:Th}(h:ThAt w S p t)(ht:t.ok)(hown:OwnAt w):
  match t with
  | .obj .. =>Calls Tryz.prog 172 #[pT p] w (Gw w S t.fo)
  | .arr .. =>Calls Tryz.prog 174 #[pT p] w (Gw w S t.fo)
  | .tab .. =>Calls Tryz.prog 165 #[pT p] w (Gw w S t.fo)
  | .box .. =>Calls Tryz.prog 170 #[pT p] w (Gw w S t.fo)
  | .fn .. =>Calls Tryz.prog 176 #[pT p] w (Gw w S t.fo):=by
 cases t with
 | obj a b=>obtain⟨ia,ic,h1,h2,h3,h4⟩:=h;exact Cr5 h1 (Bm0 h2 h3 h4)
 | arr a b=>obtain⟨ia,ic,h1,h2,h3⟩:=h;exact Cr7 (xs:=[a,b]) h1 h2
 | tab E=>
  obtain⟨mb,R,D,Om,h1,h2,h3,h4⟩:=h
  refine(Qs h1 h2 h4 (by have:=ht.1;omega) hown).mono ?_
  rintro e w' ⟨s,r1,r2,r3,r4⟩
  exact⟨s,r1,r2.trans (X4 _).symm,r3.keep (fun _ _ _=>rfl) (fun b h _=>.inr h),r4⟩
 | box a=>exact Cr6 h (Gm a w S)
 | fn c bx b=>obtain⟨pa,pc,ia,ic,h1,h2,_,_,h5,_⟩:=h;exact Ee0 (xs:=[b]) h1 h5
theorem ZRow.low{w:World}{B lo:Nat}{s:S3}{l:List Int}(h:ZRow w lo s l)(e:B<=lo):ZRow w B s l:=⟨h.1,h.2.1,h.2.2.imp_right fun⟨g,c,cs,e1,e2,r⟩=>⟨g,c,cs,e1,Nat.le_trans e e2,r⟩⟩
variable {B:Nat} {w:World} {gh:Nat} {O:Nat->Prop} {last:Nat} {T:Tm} {bm:Nat} {pt:Nat->Nat} {own:Nat->Nat->Prop}
theorem Fs(h:HSx B w gh O last T bm pt own)(hown:OwnAt w)(n:Nat)(hn:n<=1000000)(hT: ∀i t,(i,t)∈T->t.ok):
  Calls Tryz.prog 21 #[pT gh,ii (n:Int)] w fun e w'=> ∃y:S3,e=.returned (.slice y.d y.n y.c)/\(ZRow w' w.heap.size y (S2 T n)/\Below w.heap.size w w'):=by
 refine B6 (vs:=[pT gh,ii (n:Int)]) 29 Tryz.func21 Bl4 Zk (by simp) fun a0 h0=> ?_
 unfold Av7
 refine Zs (Ed3 h0 fun a1 h1=> ?_)
 have hlk:=h.hp.bm.look2 (z:=.nilIface) Tryz.underlying79 (fun _=>Tryz.zeroValue81 _) (k:=(n:Int)) Zo
 rw[Un] at hlk
 unfold S2
 cases hg:I6 T n with
 | none=>
  rw[hg] at hlk
  refine Zs (Cm1 h1 rfl rfl h.hp.lm hlk fun a2 h2=> ?_)
  refine wp_seq (Zs (Cm2 h2 rfl fun a3 h3=>wp_cond_true (h3.look 18 rfl) ?_))
  refine Zs (Ed4 h3 fun a4 h4=>wp_ret ?_)
  exact D2 (G7 rfl h4 rfl ⟨⟨none,0,0⟩,rfl,ZRow.nil _ _,Below.refl _ _⟩)
 | some t=>
  rw[hg] at hlk
  have hmem:=L9 hg
  have hok:=hT n t hmem
  obtain⟨hth,hpt⟩:=h.th n t hmem
  have hlo: ∀b,own n b->b<w.heap.size:=fun b hb=>(h.lim b (h.sub n b hb).1).2
  refine Zs (Cm1 h1 rfl rfl h.hp.lm hlk fun a2 h2=> ?_)
  refine wp_seq (Zs (Cm2 h2 rfl fun a3 h3=>B9 (h3.look 18 rfl) ?_))
  have h3:Sl 29 a3 [(5,t.if (pt n))] []:=h3.to ⟨rfl,trivial⟩
  have fin: ∀(a4:Act) (s:S3) (u:World),ZRow u w.heap.size s (t.bx++M8 t.fo)->Below w.heap.size w u->Sl 29 a4 [(7,.slice s.d s.n s.c)] []->Code.wp Tryz.prog (.seq (El 5) (.seq (El 6) .ret)) (bodyPost Tryz.prog Tryz.f21 fun e w'=> ∃y:S3,e=.returned (.slice y.d y.n y.c)/\(ZRow w' w.heap.size y t.leads/\Below w.heap.size w w')) a4 u:=fun a4 s u hZ hb h4=>by
   rw[Vk t hok] at hZ
   have hl:=Gv t hok
   refine Zs (Ed5 h4 rfl (Co hZ Zo) fun a5 u2 hu2 h5=> ?_)
   obtain⟨hZ2,hR2⟩:=hu2
   refine Zs (Ed6 h5 rfl (Jq hZ2 (by unfold L3;rw[List.length_mergeSort];omega)) fun a6 y u3 hu3 h6=>wp_ret ?_)
   obtain⟨hZ3,hR3⟩:=hu3
   refine G7 rfl h6 rfl ⟨y,rfl,hZ3, ?_⟩
   have h7:=hR2.trans hR3
   exact hb.trans (h7.bel (fun g hg=>(ARow.block hZ hg).1) hb.size)
  have c1:=Aj3 hth hlo
  have hc2: ∀(x:S3) (w1:World),(x.n=t.bx.length/\PathAt w1 (fun b=>b<w.heap.size) x.d t.bx/\Below w.heap.size w w1)->Calls Tryz.prog 39 #[.slice x.d x.n x.c] w1 fun e w'=> ∃y:S3,e=.returned (.slice y.d y.n y.c)/\(∃lo:Nat,w.heap.size<=lo/\ZRow w' lo y t.bx/\Below w.heap.size w w'/\(∀g,y.v.ownBlock=some g->g<w'.heap.size)):=fun x w1 ⟨q1,q2,q3⟩=>by
   rw[q1]
   have hlb:t.bx.length<=10000:=by have:=Gv t hok;rw[<-Vk t hok,List.length_append] at this;omega
   refine(Ae q2 x.c Zo).mono ?_
   rintro e w' ⟨y,r1,r2,r3⟩
   exact⟨y,r1,w1.heap.size,q3.size,r2,A7 q3 r3,fun g hg=>(ARow.block r2 hg).2⟩
  have hth2: ∀w2,Below w.heap.size w w2->ThAt w2 (own n) (pt n) t:=fun w2 hb=>hth.keep hpt hb.size (fun b _ hl=>hb.block b hl) (fun b hb _=>hb)
  have hc5: ∀(y:S3) (w2:World),(∃lo:Nat,w.heap.size<=lo/\ZRow w2 lo y t.bx/\Below w.heap.size w w2/\(∀g,y.v.ownBlock=some g->g<w2.heap.size))->∀(z:S3) (w3:World),(z.n=t.fo.len/\SlAt w3 (fun b=>own n b\/w2.heap.size<=b) z.d t.fo/\Below w2.heap.size w2 w3)->Calls Tryz.prog 38 #[.slice y.d y.n y.c,.slice z.d z.n z.c] w3 fun e w'=> ∃s:S3,e=.returned (.slice s.d s.n s.c)/\(ZRow w' w.heap.size s (t.bx++M8 t.fo)/\Below w.heap.size w w'):=fun y w2 ⟨lo,hlo1,q1,q2,q3⟩ z w3 ⟨r1,r2,r3⟩=>by
   rw[r1]
   have hZ3:ZRow w3 lo y t.bx:=q1.old r3
   have hz3:=r3.size
   have hl:=Gv t hok
   rw[<-Vk t hok] at hl
   have hlo2: ∀g,y.v.ownBlock=some g->lo<=g:=fun g hg=>(ARow.block q1 hg).1
   refine(Ai0 t.fo (Ed8 t hok) (by have:=Cr0 t hok;omega) w3 w.heap.size _ y t.bx z.d z.c (ZRow.low hZ3 hlo1) (by have:=q2.size;omega) r2 (fun b hb e=> ?_) Zo).mono ?_
   ·rcases hb with hb | hb
    ·have:=hlo b hb
     have:=hlo2 b e
     omega
    ·have:=q3 b e
     omega
   ·rintro e w' ⟨s,s1,s2,s3⟩
    refine⟨s,s1,s2,q2.trans ((r3.mono q2.size).trans (s3.bel (fun g hg=>Nat.le_trans hlo1 (hlo2 g hg)) (by have:=q2.size;omega)))⟩
  have fin2: ∀(a4:Act) (x:S3) (w1:World) (y:S3) (w2:World) (z:S3) (w3:World) (s:S3) (w4:World),True->True->True->(ZRow w4 w.heap.size s (t.bx++M8 t.fo)/\Below w.heap.size w w4)->Sl 29 a4 ((7,.slice s.d s.n s.c)::A6 (7::List.range' 19 6) [(5,t.if (pt n))]) []->Code.wp Tryz.prog (.seq (El 5) (.seq (El 6) .ret)) (bodyPost Tryz.prog Tryz.f21 fun e w'=> ∃y:S3,e=.returned (.slice y.d y.n y.c)/\(ZRow w' w.heap.size y t.leads/\Below w.heap.size w w')) a4 w4:=fun a4 x w1 y w2 z w3 s w4 _ _ _ hq h4=>fin a4 s w4 hq.1 hq.2 (h4.to ⟨rfl,trivial⟩)
  cases t with
  | obj a b=>exact Zs (Jd h3 rfl (fun w=>by kernel_rfl) c1 hc2 (fun w=>by kernel_rfl) (fun x w1 hx y w2 hy=>X5 (t:=.obj a b) (hth2 w2 hy.choose_spec.2.2.1) hok (hown.old hy.choose_spec.2.2.1)) (fun x w1 hx=>hc5) fun a4 x w1 y w2 z w3 s w4 _ _ _ hq h4=>fin2 a4 x w1 y w2 z w3 s w4 trivial trivial trivial hq h4)
  | arr a b=>exact Zs (Mc h3 rfl (fun w=>by kernel_rfl) c1 hc2 (fun w=>by kernel_rfl) (fun x w1 hx y w2 hy=>X5 (t:=.arr a b) (hth2 w2 hy.choose_spec.2.2.1) hok (hown.old hy.choose_spec.2.2.1)) (fun x w1 hx=>hc5) fun a4 x w1 y w2 z w3 s w4 _ _ _ hq h4=>fin2 a4 x w1 y w2 z w3 s w4 trivial trivial trivial hq h4)
  | tab E=>exact Zs (Md h3 rfl (fun w=>by kernel_rfl) c1 hc2 (fun w=>by kernel_rfl) (fun x w1 hx y w2 hy=>X5 (t:=.tab E) (hth2 w2 hy.choose_spec.2.2.1) hok (hown.old hy.choose_spec.2.2.1)) (fun x w1 hx=>hc5) fun a4 x w1 y w2 z w3 s w4 _ _ _ hq h4=>fin2 a4 x w1 y w2 z w3 s w4 trivial trivial trivial hq h4)
  | box a=>exact Zs (Uc h3 rfl (fun w=>by kernel_rfl) c1 hc2 (fun w=>by kernel_rfl) (fun x w1 hx y w2 hy=>X5 (t:=.box a) (hth2 w2 hy.choose_spec.2.2.1) hok (hown.old hy.choose_spec.2.2.1)) (fun x w1 hx=>hc5) fun a4 x w1 y w2 z w3 s w4 _ _ _ hq h4=>fin2 a4 x w1 y w2 z w3 s w4 trivial trivial trivial hq h4)
  | fn c bx b=>exact Zs (Gk h3 rfl (fun w=>by kernel_rfl) c1 hc2 (fun w=>by kernel_rfl) (fun x w1 hx y w2 hy=>X5 (t:=.fn c bx b) (hth2 w2 hy.choose_spec.2.2.1) hok (hown.old hy.choose_spec.2.2.1)) (fun x w1 hx=>hc5) fun a4 x w1 y w2 z w3 s w4 _ _ _ hq h4=>fin2 a4 x w1 y w2 z w3 s w4 trivial trivial trivial hq h4)
end Go.Proofs.YtbjegfpfmnleeaaGreatDoor
