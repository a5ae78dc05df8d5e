/-
   Written by an AI agent.
-/
import Derived.Test.YtlhfickniegooaaDoorPk29
import Derived.Maps.AppendAt
namespace Go.Proofs.YtlhfickniegooaaDoor
open Go.RowKit Go.Sort
set_option maxRecDepth 100000
theorem dat_info9:(Tryd.prog.info? dtT).map (fun i=>(i.zero,i.size,i.bytes))=some (some (.agg zeroC),11,136):=by kernel_rfl
def IOwn(w:World)(s:S3)(n:Nat)(xs:List Value):Prop:=s.n=n/\((n=0/\s.c=0/\xs=[])\/(0<n/\w.ownsRow 0 dtT 11 s.v n xs))
theorem IOwn.keep{w w':World}{s:S3}{n:Nat}{xs:List Value}(h:IOwn w s n xs)(hk:0<n->∀g,s.v.ownBlock=some g->w'.heap[g]? =w.heap[g]?):IOwn w' s n xs:=⟨h.1,h.2.imp_right fun⟨h0,h2⟩=>⟨h0,row_keep h2 (hk h0)⟩⟩
theorem app_fresh{w:World}(b:Option Addr)(a:Addr)(news:List Value)(hl:news.length=11)(hnews: ∀(j:Nat) (v:Value),news[j]? =some v->w.cell? (a.add j)=some v)(h1: ∀u∈news,u.oneCell'=true)(ty:TypeId):
  ∃(s:S3) (w':World),(Builtin.append_ #[29,29] ty #[.slice b 0 0,.slice (some a) 1 1]).run Tryd.prog w=.ok s.v w'/\s.n=1/\w'.ownsRow 0 dtT 11 s.v 1 news/\w.grownBy w' none/\s.v.ownBlock=some w.heap.size:=by
 obtain⟨i,hi,hz,hz1,hz2⟩:=parts9 dat_info9
 obtain⟨v',w',hr,ho,hg,hnil,hblk⟩:=run_append_own_at (P:=Tryd.prog) (w:=w) 0 29 ty dtT i _ 11 136 Tryd.underlying29 hi hz hz1 hz2 rfl (by omega) (.slice none 0 0) 0 [] (World.ownsRow_nil _ _ _ _) a 1 1 news hl hnews h1 (by simp only[maxLen];omega) (by omega) (Nat.zero_le _)
 have hn:=run_append_nil (P:=Tryd.prog) w 29 ty dtT i _ Tryd.underlying29 hi hz a 1 1 news (by rw[hl,hz1]) hnews (by omega) (by omega) (by rw[hz2];omega)
 have he:=hr.symm.trans hn
 injection he with he1 he2
 have hS:v'=S3.v ⟨some ⟨w.heap.size,0,none⟩,1,grownCap w 1 0 dtT⟩:=he1
 refine⟨⟨some ⟨w.heap.size,0,none⟩,1,grownCap w 1 0 dtT⟩,w', ?_,rfl, ?_,hg,rfl⟩
 ·rw[<-hS]
  cases b with
  | none=>exact hr
  | some b=>
   have h2:=run_append_grow (P:=Tryd.prog) w 29 ty dtT i _ Tryd.underlying29 hi hz b 0 0 [] (by simp) (fun j v h=>by simp at h) a 1 1 news (by rw[hl,hz1]) hnews (by omega) (by omega) (by rw[nextslicecap_zero (by omega),hz2];omega)
   rw[h2,hS,he2]
   simp[S3.v]
 ·rw[<-hS]
  simpa using ho
theorem app_item{w:World}{s:S3}{n:Nat}{xs:List Value}(h:IOwn w s n xs)(hn:n<=1000000)(c:Array Value)(hc:c.size=11)(h1: ∀u∈c.toList,u.oneCell'=true)(ty:TypeId):
  ∃(s':S3) (w':World),(Builtin.append_ #[29,29] ty #[.slice s.d s.n s.c,.slice (some ⟨w.heap.size,0,none⟩) 1 1]).run Tryd.prog (w.alloc (.cells c dtT))=.ok (S3.v s') w'/\(IOwn w' s' (n+1) (xs++c.toList)/\(∃r,(w.alloc (.cells c dtT)).grownBy w' r/\∀g,r=some g->0<n/\s.v.ownBlock=some g)/\((0<n/\s'.v.ownBlock=s.v.ownBlock)\/s'.v.ownBlock=some (w.heap.size+1))):=by
 obtain⟨i,hi,hz,hz1,hz2⟩:=parts9 dat_info9
 have hx:=Blk.new w dtT c
 have hcl:c.toList.length=11:=by simpa using hc
 have hcell: ∀(j:Nat) (u:Value),c.toList[j]? =some u->(w.alloc (.cells c dtT)).cell? ((⟨w.heap.size,0,none⟩:Addr).add j)=some u:=fun j u hu=>by
  rw[addr_add,Nat.zero_add,hx.cell,<-Array.getElem?_toList]
  exact hu
 have hw1:(w.alloc (.cells c dtT)).heap.size=w.heap.size+1:=World.size_alloc _ _
 obtain⟨hsn,⟨h0,hsc,hxs⟩ | ⟨h0,hrow⟩⟩:=h
 ·obtain⟨s',w',q1,q2,q3,q4,q5⟩:=app_fresh s.d ⟨w.heap.size,0,none⟩ c.toList hcl hcell h1 ty
  subst h0 hxs
  refine⟨s',w',by rw[hsn,hsc];exact q1,⟨q2,.inr ⟨by omega, ?_⟩⟩,⟨none,q4,fun g e=>by cases e⟩,.inr (by rw[q5,hw1])⟩
  simpa using q3
 ·obtain⟨v',w',hr,ho,hg,_,hblk⟩:=run_append_own_at (P:=Tryd.prog) (w:=w.alloc (.cells c dtT)) 0 29 ty dtT i _ 11 136 Tryd.underlying29 hi hz hz1 hz2 rfl (by omega) s.v n xs (row_below hrow (bl_alloc (Below.refl _ _) _)) ⟨w.heap.size,0,none⟩ 1 1 c.toList (by rw[hcl]) hcell h1 (by simp only[maxLen];omega) (by omega) (Nat.zero_le _)
  have hS: ∃s':S3,v'=s'.v/\s'.n=n+1:=by
   rcases ho.2 with⟨rfl,h0⟩ | ⟨g,cap,cur,rfl,_⟩
   ·omega
   ·exact⟨⟨some ⟨g,0,none⟩,n+1,cap⟩,rfl,rfl⟩
  obtain⟨s',rfl,hs'⟩:=hS
  exact⟨s',w',hr,⟨hs',.inr ⟨by omega,ho⟩⟩,⟨_,hg,fun g e=>⟨h0,e⟩⟩,hblk.imp (fun e=>⟨h0,e⟩) (fun e=>by rw[e,hw1])⟩
def POwn(w:World)(s:S3)(n:Nat)(xs:List Value):Prop:=s.n=n/\w.ownsRow 0 3 1 s.v n xs
theorem app_num{w:World}{s:S3}{n:Nat}{xs:List Value}(h:POwn w s n xs)(hn:n<=17592186044000)(x:Int)(ty:TypeId):
  ∃(s':S3) (w':World),(Builtin.append_ #[22,22] ty #[.slice s.d s.n s.c,.slice (some ⟨w.heap.size,0,none⟩) 1 1]).run Tryd.prog (w.alloc (.cells #[.int .i64 x] 3))=.ok (S3.v s') w'/\(POwn w' s' (n+1) (xs++[.int .i64 x])/\(w.alloc (.cells #[.int .i64 x] 3)).grownBy w' s.v.ownBlock/\(s'.v.ownBlock=s.v.ownBlock\/s'.v.ownBlock=some (w.heap.size+1))):=by
 obtain⟨i,hi,hz,hz1,hz2⟩:=parts9 info_int9
 have hx:=Blk.new w 3 #[.int .i64 x]
 have hcell: ∀(j:Nat) (u:Value),[Value.int .i64 x][j]? =some u->(w.alloc (.cells #[.int .i64 x] 3)).cell? ((⟨w.heap.size,0,none⟩:Addr).add j)=some u:=fun j u hu=>by
  rw[addr_add,Nat.zero_add,hx.cell,<-Array.getElem?_toList]
  exact hu
 have hw1:(w.alloc (.cells #[.int .i64 x] 3)).heap.size=w.heap.size+1:=World.size_alloc _ _
 obtain⟨v',w',hr,ho,hg,_,hblk⟩:=run_append_own_at (P:=Tryd.prog) (w:=w.alloc (.cells #[.int .i64 x] 3)) 0 22 ty 3 i _ 1 8 Tryd.underlying22 hi hz hz1 hz2 rfl (by omega) s.v n xs (row_below h.2 (bl_alloc (Below.refl _ _) _)) ⟨w.heap.size,0,none⟩ 1 1 [.int .i64 x] rfl hcell (fun u hu=>by rw[List.mem_singleton.1 hu];rfl) (by simp only[maxLen];omega) (by omega) (Nat.zero_le _)
 have hS: ∃s':S3,v'=s'.v/\s'.n=n+1:=by
  rcases ho.2 with⟨rfl,h0⟩ | ⟨g,cap,cur,rfl,_⟩
  ·omega
  ·exact⟨⟨some ⟨g,0,none⟩,n+1,cap⟩,rfl,rfl⟩
 obtain⟨s',rfl,hs'⟩:=hS
 exact⟨s',w',hr,⟨hs',ho⟩,hg,by rw[<-hw1];exact hblk⟩
theorem MovC.of_grown{S:Nat->Prop}{w w':World}{r:Option Nat}(hg:w.grownBy w' r)(h: ∀g,r=some g->S g/\Cel w g):MovC S w w':=
 ⟨hg.size,hg.os,hg.tape,hg.output,fun b hb hn=>hg.block b hb fun e=>hn (h b e.symm)⟩
theorem own_cel{w:World}{B sz n:Nat}{t:TypeId}{v:Value}{xs:List Value}(h:w.ownsRow B t sz v n xs){g:Nat}(hg:v.ownBlock=some g):Cel w g:=by
 rcases h.2 with⟨e,_⟩ | ⟨g',cap,cur,e,_,hh,_⟩
 ·rw[e] at hg
  cases hg
 ·rw[e] at hg
  injection hg with hg
  have hg:g'=g:=hg
  subst hg
  exact⟨_,_,hh⟩
theorem own_cells{w:World}{B sz n:Nat}{t:TypeId}{v:Value}{xs:List Value}(h:w.ownsRow B t sz v n xs)(h0:0<n): ∃g,v.ownBlock=some g/\(∀s:S3,v=s.v->s.d=some ⟨g,0,none⟩)/\∀(j:Nat) (u:Value),xs[j]? =some u->w.cell? ⟨g,j,none⟩=some u:=by
 rcases h.2 with⟨_,e⟩ | ⟨g,cap,cur,e,_,hh,hc,_,hz,ht⟩
 ·omega
 ·refine⟨g,by rw[e];rfl,fun s hs=> ?_,fun j u hu=> ?_⟩
  ·rw[hs] at e
   unfold S3.v at e
   injection e
  ·rw[<-ht] at hu
   have hj:=(List.getElem?_eq_some_iff.1 hu).1
   rw[List.length_take] at hj
   rw[List.getElem?_take_of_lt (by omega),Array.getElem?_toList] at hu
   exact((show Blk w g t cur from hh).cell j).trans hu
end Go.Proofs.YtlhfickniegooaaDoor

namespace Go.Proofs.YtlhfickniegooaaDoor
open Go.RowKit Go.Sort
set_option maxRecDepth 100000
theorem own_set{w:World}{g cap n sz:Nat}{e:TypeId}{A V B:List Value}(h:w.ownsRow 0 e sz (.slice (some ⟨g,0,none⟩) n cap) n (A++V++B))(vs:List Value)(hv:vs.length=V.length){o:Nat}(ho:o=A.length):(w.setCells g o vs).ownsRow 0 e sz (.slice (some ⟨g,0,none⟩) n cap) n (A++vs++B):=by
 rcases h.2 with⟨q,_⟩ | ⟨g',cap',cur,q,hB,hh,hc,hm,hz,ht⟩
 ·cases q
 ·injection q with q1 q2 q3
  injection q1 with q1
  injection q1 with q1
  subst q1 q3
  have hl:=h.1
  have hcur:cur.toList=A++V++(B++cur.toList.drop (n*sz)):=by
   have e:=(List.take_append_drop (n*sz) cur.toList).symm
   rw[ht] at e
   simpa only[List.append_assoc] using e
  have hn:=fold_mid (vs:=vs) hcur ho hv
  refine⟨?_,.inr ⟨g,cap,_,rfl,hB,Blk.setL vs o _ _ hh,hc,hm,by rw[fold_size,hz], ?_⟩⟩
  ·simp only[List.length_append] at hl ⊢
   omega
  ·rw[hn,<-List.append_assoc]
   refine List.take_left' ?_
   simp only[List.length_append] at hl ⊢
   omega
theorem app_ty{P:Program}{A:Array TypeId}{t:TypeId}{B:Array Value}{w w':World}{v:Value}(h:(Builtin.append_ A t B).run P w=.ok v w')(t':TypeId):(Builtin.append_ A t' B).run P w=.ok v w':=h
theorem flat_snoc(E:List (Array Value))(c:Array Value):(E++[c]).flatMap Array.toList=E.flatMap Array.toList++c.toList:=by
 rw[List.flatMap_append,List.flatMap_singleton]
theorem blk9{w:World}{g:Nat}{t:TypeId}{hs:List Value}{s s':S3}(hl:hs.length=8)(h:Blk w g t (wcs hs s)):Blk (w.setCells g 8 [s'.v]) g t (wcs hs s'):=by
 have h2:=Blk.setL [s'.v] 8 _ _ h
 have e:((wcs hs s).setIfInBounds 8 s'.v)=wcs hs s':=by
  apply Array.toList_inj.1
  rw[Array.toList_setIfInBounds]
  show(hs++[s.v]).set 8 s'.v=hs++[s'.v]
  rw[List.set_append_right _ _ (by omega),hl]
  rfl
 exact e ▸ h2
set_option maxHeartbeats 2000000 in
theorem ow_push{u:World}{a:Act}{gw n g8:Nat}{hs:List Value}{Z Y:Nat->Prop}{x:Dt}{mx:Dm}{Q:Exit->Act->World->Prop}(h:Sl 97 a [(8,.pointer (some ⟨g8,0,none⟩)),(0,.pointer (some ⟨gw,0,none⟩))])(hO:OutAt u gw hs n Z)(hn:n<=200000000000)(hx:Blk u g8 dtT (x.cs mx))(h8: ¬Z g8)(hxl:x.h.path.length<=9000000000000000000/\x.k.len<=9000000000000000000)
  (hP:MarkP u Y mx.pa x.h.path.length n) (hI:MarkI u Y mx.ia x.k.len n) (hY: ∀b,Y b->¬Z b/\b<u.heap.size)
  (hQ: ∀a' u',a'.defers=[]->OutAt u' gw hs (n+1) (fun b=>Z b\/Y b\/u.heap.size<=b)->MovC Z u u'->Q .normal a' u'):(r_ow 20).wp Tryd.prog Q a u:=by
 obtain⟨s,E,hS⟩:=hO.low
 obtain rfl:s.n=n:=hS.num.1
 obtain⟨i,hi,hz,hz1,hz2⟩:=parts9 dat_info9
 have hd1:Below u.heap.size u (u.drewN 1):=below_drewN (Below.refl _ _) 1
 have hda:=bl_alloc hd1 (.cells zeroC dtT)
 have hzb:=Blk.new (u.drewN 1) dtT zeroC
 have hsz:((u.drewN 1).alloc (.cells zeroC dtT)).heap.size=u.heap.size+1:=World.size_alloc _ _
 obtain⟨v',w',hr,ho,hg,_,hblk⟩:=run_append_own_at (P:=Tryd.prog) (w:=(u.drewN 1).alloc (.cells zeroC dtT)) 0 29 3 dtT i _ 11 136 Tryd.underlying29 hi hz hz1 hz2 rfl (by omega) s.v s.n _ (row_below hS.row hda) ⟨u.heap.size,0,none⟩ 1 1 zeroC.toList rfl (fun j v hv=>by
  rw[addr_add,Nat.zero_add]
  exact(hzb.cell j).trans (by rw[<-Array.getElem?_toList];exact hv)) (fun u hu=>List.all_eq_true.1 (show zeroC.toList.all (·.oneCell')=true by kernel_rfl) u hu) (by simp only[maxLen];omega) (by omega) (Nat.zero_le _)
 obtain⟨gx,cap,rfl⟩: ∃gx cap,v'=.slice (some ⟨gx,0,none⟩) (s.n+1) cap:=by
  rcases ho.2 with⟨_,h0⟩ | ⟨g,cap,cur,e,_⟩
  ·omega
  ·exact⟨g,cap,e⟩
 have hgx:s.v.ownBlock=some gx\/gx=u.heap.size+1:=by
  rcases hblk with e | e
  ·exact .inl e.symm
  ·rw[hsz] at e
   injection e with e
   exact .inr e
 have hgwl:=hS.blk.lt
 have hgwx:gx≠gw:=by
  rcases hgx with e | e
  ·exact(hS.zrow gx e).2
  ·omega
 have hx8l:=hx.lt
 have hx8:gx≠g8:=by
  rcases hgx with e | e
  ·exact fun e2=>h8 (e2 ▸ (hS.zrow gx e).1.1)
  ·omega
 have hgw8:gw≠g8:=fun e=>h8 (e ▸ hS.zgw.1)
 have hC: ∀v,Below u.heap.size u v->Blk v gw wdT (wcs hs s)/\Blk v g8 dtT (x.cs mx):=fun v hb=>⟨hS.blk.below hb hgwl,hx.below hb hx8l⟩
 have hgw':Blk w' gw wdT (wcs hs s):=(hg.block gw (by rw[hsz];omega) (fun e=>(hS.zrow gw e.symm).2 rfl)).trans (hC _ hda).1
 have hcs8:(wcs hs s)[8]? =some s.v:=by
  rw[<-Array.getElem?_toList]
  show(hs++[s.v])[8]? =_
  rw[List.getElem?_append_right (by rw[hS.len];exact Nat.le_refl _),hS.len]
  rfl
 have hwz:(wcs hs s).size=9:=by
  show(hs++[s.v]).length=9
  rw[List.length_append,hS.len]
  rfl
 have hrow': ∃cur,Blk w' gx dtT cur/\cur.size=cap*11/\s.n+1<=cap:=by
  rcases ho.2 with⟨_,h0⟩ | ⟨g,cap',cur,e,_,hh,hc,_,hz,_⟩
  ·omega
  ·injection e with e1 e2 e3
   injection e1 with e1
   injection e1 with e1
   subst e1 e3
   exact⟨cur,hh,hz,hc⟩
 obtain⟨cur,hcu,hcz,hcap⟩:=hrow'
 have hs1:=dat_put hcu (o:=s.n*11) (by rw[hcz];omega) x mx
 have sto8: ∀{v:World},Blk v gw wdT (wcs hs s)->(Instr.storeAt 29 (.pointer (some ⟨gw,8,none⟩)) (.slice (some ⟨gx,0,none⟩) (s.n+1) cap)).run Tryd.prog v=.ok () (v.setCells gw 8 [.slice (some ⟨gx,0,none⟩) (s.n+1) cap]):=fun hb=>sts1 (there_bk hb (by rw[hwz];omega)) (by kernel_rfl) rfl
 have hgx1:Blk (w'.setCells gw 8 [.slice (some ⟨gx,0,none⟩) (s.n+1) cap]) gx dtT cur:=Blk.farL hgwx _ _ _ hcu
 have fin: ∀(a':Act) (u':World),a'.defers=[]->Blk u' gw wdT (wcs hs ⟨some ⟨gx,0,none⟩,s.n+1,cap⟩)->u'.ownsRow 0 dtT 11 (.slice (some ⟨gx,0,none⟩) (s.n+1) cap) (s.n+1) (E.flatMap Array.toList++(x.cs mx).toList)->(∀b,b<u.heap.size->b≠gx->b≠gw->s.v.ownBlock≠some b->u'.heap[b]? =u.heap[b]?)->MovC Z u u'->Q .normal a' u':=fun a' u' q0 q1 q2 q3 q4=>by
  refine hQ a' u' q0 ⟨⟨some ⟨gx,0,none⟩,s.n+1,cap⟩,E++[x.cs mx],q1,hS.len,⟨rfl,by rw[List.length_append,hS.num.2];rfl⟩,by rw[flat_snoc];exact q2,fun g e=> ?_,.inl hS.zgw.1,fun j c hc=> ?_⟩ q4
  ·have e:gx=g:=by injection e
   subst e
   refine⟨?_,hgwx⟩
   rcases hgx with e | e
   ·exact .inl (hS.zrow gx e).1.1
   ·exact .inr (.inr (by omega))
  ·by_cases hj:j<s.n
   ·rw[List.getElem?_append_left (by rw[hS.num.2];exact hj)] at hc
    refine(hS.el j c hc).keep (fun b hb _=>q3 b hb.1.2 (fun e=> ?_) hb.2.1 hb.2.2) (fun b hb _=>⟨.inl hb.1.1,hb.2.1,fun e=> ?_⟩)
    ·subst e
     rcases hgx with e | e
     ·exact hb.2.2 e
     ·have:=hb.1.2
      omega
    ·have e:gx=b:=by injection e
     subst e
     rcases hgx with e | e
     ·exact hb.2.2 e
     ·have:=hb.1.2
      omega
   ·rw[List.getElem?_append_right (by rw[hS.num.2];omega),hS.num.2] at hc
    have hjn:j=s.n:=by
     have:=(List.getElem?_eq_some_iff.1 hc).1
     simp at this
     omega
    subst hjn
    rw[Nat.sub_self] at hc
    injection hc with hc
    subst hc
    have hk: ∀b,Y b->u'.heap[b]? =u.heap[b]? :=fun b hb=>q3 b (hY b hb).2 (fun e=>by
     subst e
     rcases hgx with e | e
     ·exact(hY _ hb).1 (hS.zrow _ e).1.1
     ·have:=(hY _ hb).2
      omega) (fun e=>by
     subst e
     exact(hY _ hb).1 hS.zgw.1) (fun e=>(hY b hb).1 (hS.zrow b e).1.1)
    have hT: ∀b,Y b->(Z b\/Y b\/u.heap.size<=b)/\b≠gw/\(S3.v ⟨some ⟨gx,0,none⟩,s.n+1,cap⟩).ownBlock≠some b:=fun b hb=>by
     refine⟨.inr (.inl hb),fun e=>(hY b hb).1 (e ▸ hS.zgw.1),fun e=> ?_⟩
     have e:gx=b:=by injection e
     subst e
     rcases hgx with e | e
     ·exact(hY _ hb).1 (hS.zrow _ e).1.1
     ·have:=(hY _ hb).2
      omega
    exact⟨rfl,mx.pa,x.h.path.length,mx.pc,mx.ia,x.k.len,mx.ic,hxl,rfl,rfl,hP.keep (fun b hb _=>hk b hb) (fun b hb _=>hT b hb),hI.keep (fun b hb _=>hk b hb) (fun b hb _=>hT b hb)⟩
 have hrow0:=own_set (A:=E.flatMap Array.toList) (V:=zeroC.toList) (B:=[]) (by rw[List.append_nil];exact ho) (x.cs mx).toList rfl (o:=s.n*11) hS.row.1.symm
 rw[List.append_nil] at hrow0
 have hmg:MovC Z u w':=by
  refine(MovC.of_below hda).trans (MovC.of_grown (S:=Z) hg fun g e=>⟨(hS.zrow g e).1.1, ?_⟩) (fun _ _ h=>h)
  exact own_cel (row_below hS.row hda) e
 have hold: ∀b,b<u.heap.size->s.v.ownBlock≠some b->w'.heap[b]? =u.heap[b]? :=fun b hb hne=>(hg.block b (by rw[hsz];omega) (fun e=>hne e.symm)).trans (hda.block b hb)
 have hzx:gx<u.heap.size->Z gx:=fun hl=>by
  rcases hgx with e | e
  ·exact(hS.zrow gx e).1.1
  ·omega
 obtain⟨C,hCd⟩: ∃C:World->Prop,C=fun v=>Blk v gw wdT (wcs hs s)/\Blk v g8 dtT (x.cs mx):=⟨_,rfl⟩
 refine wpl (rg_wp (ow_r20 (C:=C) (C0:=fun _ c v=>c=cap/\v=w') (od:=s.d) (on:=s.n) (oc:=s.c) (gx:=gx) (d:=x) (m:=mx) h rfl rfl ?a1 ?a2 ?a3 ?a4 ?a5 ?a6 ?a7 ?a8 ?a9 ?a10 (fun a' c v hc h'=> ?_) (fun a' c v hc h'=> ?_)))
 case a1=>rw[hCd];exact hC _ hd1
 case a2=>exact fun v hv=>by rw[hCd] at hv;exact one_load hv.1 Tryd.underlying29 rfl hcs8
 case a3=>exact fun v hv=>by rw[hCd] at hv;exact dat_whole hv.2
 case a4=>rw[hCd];exact hC _ hda
 case a5=>exact fun ty=>⟨cap,w',app_ty hr ty,rfl,rfl⟩
 case a6=>exact fun c v _ w=>ix_at s.n rfl Tryd.underlying29 (by kernel_rfl) (by omega) rfl w
 case a7=>exact fun c v hc=>by rw[hc.2];exact hs1
 case a8=>exact fun c v hc=>by rw[hc.1,hc.2];exact sto8 (Blk.farL (Ne.symm hgwx) _ _ _ hgw')
 case a9=>exact fun c v hc=>by rw[hc.1,hc.2];exact sto8 hgw'
 case a10=>exact fun c v hc=>by rw[hc.1,hc.2];exact dat_put hgx1 (by rw[hcz];omega) x mx
 all_goals have hc1:c=cap:=hc.1
 all_goals have hc2:v=w':=hc.2
 all_goals clear hc
 all_goals subst hc1 hc2
 ·have q1:Blk ((v.setCells gx (s.n*11) (x.cs mx).toList).setCells gw 8 [S3.v ⟨some ⟨gx,0,none⟩,s.n+1,c⟩]) gw wdT (wcs hs ⟨some ⟨gx,0,none⟩,s.n+1,c⟩):=blk9 (s:=s) hS.len (Blk.farL (Ne.symm hgwx) _ _ _ hgw')
  have q2:((v.setCells gx (s.n*11) (x.cs mx).toList).setCells gw 8 [S3.v ⟨some ⟨gx,0,none⟩,s.n+1,c⟩]).ownsRow 0 dtT 11 (.slice (some ⟨gx,0,none⟩) (s.n+1) c) (s.n+1) (E.flatMap Array.toList++(x.cs mx).toList):=row_keep hrow0 fun g e=>by
   have e:gx=g:=by injection e
   subst e
   exact setCells_other _ _ _ hgwx
  have q3: ∀b,b<u.heap.size->b≠gx->b≠gw->s.v.ownBlock≠some b->((v.setCells gx (s.n*11) (x.cs mx).toList).setCells gw 8 [S3.v ⟨some ⟨gx,0,none⟩,s.n+1,c⟩]).heap[b]? =u.heap[b]? :=fun b hb h1 h2 h3=>(setCells_other _ _ _ h2).trans ((setCells_other _ _ _ h1).trans (hold b hb h3))
  exact fin a' _ h'.defers q1 q2 q3 ((hmg.set hzx ⟨_,_,hcu⟩ _ _).set (fun _=>hS.zgw.1) ⟨_,_,Blk.farL (Ne.symm hgwx) _ _ _ hgw'⟩ _ _)
 ·have hrow1:=own_set (w:=v.setCells gw 8 [S3.v ⟨some ⟨gx,0,none⟩,s.n+1,c⟩]) (A:=E.flatMap Array.toList) (V:=zeroC.toList) (B:=[]) (by
   rw[List.append_nil]
   refine row_keep ho fun g e=> ?_
   have e:gx=g:=by injection e
   subst e
   exact setCells_other _ _ _ hgwx) (x.cs mx).toList rfl (o:=s.n*11) hS.row.1.symm
  rw[List.append_nil] at hrow1
  have q1:Blk ((v.setCells gw 8 [S3.v ⟨some ⟨gx,0,none⟩,s.n+1,c⟩]).setCells gx (s.n*11) (x.cs mx).toList) gw wdT (wcs hs ⟨some ⟨gx,0,none⟩,s.n+1,c⟩):=Blk.farL (Ne.symm hgwx) _ _ _ (blk9 (s:=s) hS.len hgw')
  have q3: ∀b,b<u.heap.size->b≠gx->b≠gw->s.v.ownBlock≠some b->((v.setCells gw 8 [S3.v ⟨some ⟨gx,0,none⟩,s.n+1,c⟩]).setCells gx (s.n*11) (x.cs mx).toList).heap[b]? =u.heap[b]? :=fun b hb h1 h2 h3=>(setCells_other _ _ _ h1).trans ((setCells_other _ _ _ h2).trans (hold b hb h3))
  exact fin a' _ h'.defers q1 hrow1 q3 ((hmg.set (fun _=>hS.zgw.1) ⟨_,_,hgw'⟩ _ _).set hzx ⟨_,_,hgx1⟩ _ _)
end Go.Proofs.YtlhfickniegooaaDoor

namespace Go.Proofs.YtlhfickniegooaaDoor
open Go.RowKit Go.Sort
set_option maxRecDepth 100000
theorem cells_eq{w:World}{b o n n':Nat}{h h':Hd}{pa pa' ia ia':Option Addr}{pc pc' ic ic':Nat}(h1:CellsAt w b o (h.cells pa pc ia n ic))(h2:CellsAt w b o (h'.cells pa' pc' ia' n' ic')):pa=pa'/\pc=pc'/\ia=ia'/\ic=ic':=by
 have e1:some (Value.slice pa h.path.length pc)=some (Value.slice pa' h'.path.length pc'):=(h1 9 _ rfl).symm.trans (h2 9 _ rfl)
 have e2:some (Value.slice ia n ic)=some (Value.slice ia' n' ic'):=(h1 10 _ rfl).symm.trans (h2 10 _ rfl)
 injection e1 with e1
 injection e1 with a _ b
 injection e2 with e2
 injection e2 with c _ d
 exact⟨a,b,c,d⟩
theorem addr_eq{b o b' o':Nat}{p:Option Addr}(h:p=some ⟨b,o,none⟩)(h':p=some ⟨b',o',none⟩):b=b'/\o=o':=by
 rw[h] at h'
 injection h' with h'
 injection h' with x y
 exact⟨x,y⟩
theorem SepF.fo{w:World}{S:Nat->Prop}: ∀(f:Fo) (lo hi b o:Nat),SepF w lo hi b o f->FoAt w S b o f->FoAt w (fun y=>lo<=y/\y<hi) b o f
 | .nil,_,_,_,_,_,_=>trivial
 | .cons h k r,lo,hi,b,o,⟨m,pa,pc,ia,ic,hm,hc,⟨q1,q2,g1,g2,g3,g4,g5⟩,g6⟩,⟨⟨pa',pc',ia',ic',c1,c2,c3,c4,c5,c6,c7⟩,c8⟩=>by
  obtain⟨rfl,rfl,rfl,rfl⟩:=cells_eq hc c1
  refine⟨⟨pa,pc,ia,ic,hc,g4.wider (fun x hx=>⟨hx.1,by have:=hx.2.1;omega⟩),c3,c4,c5,c6, ?_⟩,FoAt.wide (fun x hx=>⟨by have:=hx.1;omega,hx.2⟩) r b (o+11) (SepF.fo r m hi b (o+11) g6 c8)⟩
  rcases g5 with g5 | ⟨b',o',e,k1,k2,k3,k4⟩
  ·exact .inl g5
  ·rcases c7 with c7 | ⟨b2,o2,e2,s2,k5⟩
   ·exact .inl c7
   ·obtain⟨rfl,rfl⟩:=addr_eq e e2
    exact .inr ⟨b',o',e,⟨by omega,by omega⟩,FoAt.wide (fun x hx=>⟨by have:=hx.1;omega,by have:=hx.2;omega⟩) k b' o' (SepF.fo k (b'+1) q2 b' o' k4 k5)⟩
theorem RowsF.wide{w:World}{S T:Nat->Prop}(hST: ∀b,S b->T b){f:Fo}{b o:Nat}(h:RowsF w S b o f):RowsF w T b o f:=RowsF.keep (fun _ _ _=>rfl) (fun b h _=>hST b h) f b o (fun _ _ _ h=>h) h
theorem PRow.in{w:World}{S T:Nat->Prop}{pa:Option Addr}{l:List Int}{pc:Nat}(h:PRow w S pa l.length pc)(hp:PathAt w T pa l):PRow w T pa l.length pc:=by
 rcases h with h | ⟨h1,h2,h3,g,cs,h4,h5,h6,h7⟩
 ·exact .inl h
 ·rcases hp with rfl | ⟨b,o,e,hT,_⟩
  ·simp at h1
  ·obtain⟨rfl,rfl⟩:=addr_eq h4 e
   exact .inr ⟨h1,h2,h3,g,cs,h4,hT,h6,h7⟩
theorem IRow.in{w:World}{S T:Nat->Prop}{ia:Option Addr}{n ic:Nat}(h:IRow w S ia n ic)(hp:n=0\/∃b o,ia=some ⟨b,o,none⟩/\T b):IRow w T ia n ic:=by
 rcases h with⟨h0,h | ⟨h3,g,cs,h4,h5,h6,h7⟩⟩
 ·exact⟨h0,.inl h⟩
 ·rcases hp with hp | ⟨b,o,e,hT⟩
  ·exact⟨h0,.inl hp⟩
  ·obtain⟨rfl,rfl⟩:=addr_eq h4 e
   exact⟨h0,.inr ⟨h3,g,cs,h4,hT,h6,h7⟩⟩
theorem SepF.rows{w:World}{S:Nat->Prop}: ∀(f:Fo) (lo hi b o:Nat),SepF w lo hi b o f->RowsF w S b o f->RowsF w (fun y=>lo<=y/\y<hi) b o f
 | .nil,_,_,_,_,_,_=>trivial
 | .cons h k r,lo,hi,b,o,⟨m,pa,pc,ia,ic,hm,hc,⟨q1,q2,g1,g2,g3,g4,g5⟩,g6⟩,⟨⟨pa',pc',ia',ic',c1,c2,c3,c4⟩,c8⟩=>by
  obtain⟨rfl,rfl,rfl,rfl⟩:=cells_eq hc c1
  refine⟨⟨pa,pc,ia,ic,hc,c2.in (g4.wider (fun x hx=>⟨hx.1,by have:=hx.2.1;omega⟩)),c3.in (g5.imp_right fun⟨b',o',e,k1,k2,_⟩=>⟨b',o',e,by omega,by omega⟩), ?_⟩,RowsF.wide (fun x hx=>⟨by have:=hx.1;omega,hx.2⟩) (SepF.rows r m hi b (o+11) g6 c8)⟩
  rcases g5 with g5 | ⟨b',o',e,k1,k2,k3,k4⟩
  ·exact .inl g5
  ·rcases c4 with c7 | ⟨b2,e2,s2,k5⟩
   ·exact .inl c7
   ·obtain⟨rfl,rfl⟩:=addr_eq e e2
    exact .inr ⟨b',e,⟨by omega,by omega⟩,RowsF.wide (fun x hx=>⟨by have:=hx.1;omega,by have:=hx.2;omega⟩) (SepF.rows k (b'+1) q2 b' 0 k4 k5)⟩
def SK(w:World):Nat->Nat->Nat->Nat->Fo->Prop
 | _,_,_,_,.nil=>True
 | lo,hi,b,o,.cons h k r=> ∃m x,m<=hi/\CellsAt w b o (h.cells x.pa x.pc x.ia k.len x.ic)/\Dt.sep ⟨h,k⟩ w lo m x/\SK w m hi b (o+11) r
theorem SK_cons{w:World}{lo hi b o:Nat}{h:Hd}{k r:Fo}:SK w lo hi b o (.cons h k r)↔∃m x,m<=hi/\CellsAt w b o (h.cells x.pa x.pc x.ia k.len x.ic)/\Dt.sep ⟨h,k⟩ w lo m x/\SK w m hi b (o+11) r:=Iff.rfl
theorem Dt.sep.le{d:Dt}{w:World}{lo hi:Nat}{m:Dm}(h:d.sep w lo hi m):lo<=hi:=h.sp.le
theorem SK.keep{w w':World}: ∀(f:Fo) (lo hi b o:Nat),SK w lo hi b o f->(∀y,lo<=y->y<hi->w'.heap[y]? =w.heap[y]?)->(∀n v,o<=n->w.cell? ⟨b,n,none⟩=some v->w'.cell? ⟨b,n,none⟩=some v)->SK w' lo hi b o f
 | .nil,_,_,_,_,_,_,_=>trivial
 | .cons h k r,lo,hi,b,o,⟨m,x,hm,hc,hd,h6⟩,hk,hb=>by
  have hlm:=hd.le
  exact⟨m,x,hm,fun j v hv=>hb _ _ (by omega) (hc j v hv),hd.keep (fun y h1 h2 _=>hk y h1 (by omega)),SK.keep r m hi b (o+11) h6 (fun y h1 h2=>hk y (by omega) h2) (fun n v hn=>hb n v (by omega))⟩
theorem SepD.sep{w:World}{lo hi:Nat}{h:Hd}{k:Fo}{x:Dm}{S T:Nat->Prop}(hs:SepD w lo hi h k x.pa x.ia)(hd:DatAt w S h k x.pa x.pc x.ia x.ic)(hr:RowsD w T h k x):Dt.sep ⟨h,k⟩ w lo hi x:=by
 refine⟨?_,hs, ?_⟩
 ·obtain⟨q1,q2,g1,g2,g3,g4,g5⟩:=hs
  refine⟨g4.wider (fun y hy=>⟨hy.1,hy.2.1⟩),hd.pcLe,hd.pcMax, ?_,hd.icLe,hd.icMax⟩
  rcases g5 with g5 | ⟨b',o',e,k1,k2,k3,k4⟩
  ·exact .inl g5
  ·rcases hd.kids with c7 | ⟨b2,o2,e2,s2,k5⟩
   ·exact .inl c7
   ·obtain⟨rfl,rfl⟩:=addr_eq e e2
    exact .inr ⟨b',o',e,⟨by omega,by omega⟩,FoAt.wide (fun x hx=>⟨by have:=hx.1;omega,by have:=hx.2;omega⟩) k b' o' (SepF.fo k (b'+1) q2 b' o' k4 k5)⟩
 ·obtain⟨q1,q2,g1,g2,g3,g4,g5⟩:=hs
  refine⟨hr.1.in (g4.wider (fun y hy=>⟨hy.1,hy.2.1⟩)),hr.2.1.in (g5.imp_right fun⟨b',o',e,k1,k2,_⟩=>⟨b',o',e,by omega,by omega⟩), ?_⟩
  rcases g5 with g5 | ⟨b',o',e,k1,k2,k3,k4⟩
  ·exact .inl g5
  ·rcases hr.2.2 with c7 | ⟨b2,e2,s2,k5⟩
   ·exact .inl c7
   ·obtain⟨rfl,rfl⟩:=addr_eq e e2
    exact .inr ⟨b',e,⟨by omega,by omega⟩,RowsF.wide (fun x hx=>⟨by have:=hx.1;omega,by have:=hx.2;omega⟩) (SepF.rows k (b'+1) q2 b' 0 k4 k5)⟩
theorem SK.of{w:World}{S T:Nat->Prop}: ∀(f:Fo) (lo hi b o:Nat),SepF w lo hi b o f->FoAt w S b o f->RowsF w T b o f->SK w lo hi b o f
 | .nil,_,_,_,_,_,_,_=>trivial
 | .cons h k r,lo,hi,b,o,⟨m,pa,pc,ia,ic,hm,hc,hs,g6⟩,⟨⟨pa',pc',ia',ic',c1,c2,c3,c4,c5,c6,c7⟩,c8⟩,⟨⟨pa2,pc2,ia2,ic2,d1,d2,d3,d4⟩,d5⟩=>by
  obtain⟨rfl,rfl,rfl,rfl⟩:=cells_eq hc c1
  obtain⟨rfl,rfl,rfl,rfl⟩:=cells_eq hc d1
  exact⟨m,⟨pa,pc,ia,ic⟩,hm,hc,SepD.sep (x:=⟨pa,pc,ia,ic⟩) hs ⟨c2,c3,c4,c7,c5,c6⟩ ⟨d2,d3,d4⟩,SK.of r m hi b (o+11) g6 c8 d5⟩
theorem Dt.sep.parts{d:Dt}{w:World}{lo hi:Nat}{m:Dm}(h:d.sep w lo hi m): ∃k1 k2,lo<=k1/\k1<=k2/\k2<=hi/\
  (d.k.len=0\/∃b cb,m.ia=some ⟨b,0,none⟩/\lo<=b/\b<k1/\Blk w b dtT cb/\cb.size=d.k.len*11/\m.ic=d.k.len/\SK w k1 k2 b 0 d.k)/\
  PRow w (fun y=>lo<=y/\y<hi/\¬(k1<=y/\y<k2)/\(0<d.k.len->m.ia≠some ⟨y,0,none⟩)) m.pa d.h.path.length m.pc:=by
 obtain⟨q1,q2,g1,g2,g3,g4,g5⟩:=h.sp
 rcases g5 with g5 | ⟨b,o,e,k1,k2,k3,k4⟩
 ·exact⟨lo,lo,Nat.le_refl _,Nat.le_refl _,by omega,.inl g5,h.rows.1.in (g4.wider fun y hy=>⟨hy.1,hy.2.1,by omega,fun hk=>by omega⟩)⟩
 ·have hp:=h.rows.1.in (g4.wider (S':=fun y=>lo<=y/\y<hi/\¬(b+1<=y/\y<q2)/\(0<d.k.len->m.ia≠some ⟨y,0,none⟩)) fun y hy=>⟨hy.1,hy.2.1,by have:=hy.2.2.1;omega,fun _ e2=>by
   obtain⟨e3,_⟩:=addr_eq e e2
   have:=hy.2.2.1
   omega⟩)
  refine⟨b+1,q2,by omega,by omega,by omega, ?_,hp⟩
  rcases h.rows.2.1 with⟨h0,hz | ⟨h3,g,cs,h4,h5,h6,h7⟩⟩
  ·exact .inl hz
  ·rcases h.rows.2.2 with hz | ⟨b2,e2,s2,k5⟩
   ·exact .inl hz
   ·rcases h.dat.kids with hz | ⟨b3,o3,e3,s3,k6⟩
    ·exact .inl hz
    ·obtain⟨rfl,rfl⟩:=addr_eq e h4
     obtain⟨rfl,_⟩:=addr_eq e e2
     obtain⟨rfl,rfl⟩:=addr_eq e e3
     exact .inr ⟨b,cs,e,by omega,by omega,h6,h7,h0,SK.of d.k (b+1) q2 b 0 k4 k6 k5⟩
end Go.Proofs.YtlhfickniegooaaDoor

namespace Go.Proofs.YtlhfickniegooaaDoor
open Go.RowKit Go.Sort
set_option maxRecDepth 100000
theorem OutAt.wide{w:World}{gw:Nat}{hs:List Value}{n:Nat}{Z T:Nat->Prop}(h:OutAt w gw hs n Z)(hT: ∀b,Z b->b<w.heap.size->T b):OutAt w gw hs n T:=h.keep (fun _ _ _=>rfl) hT
theorem OutAt.load{w:World}{gw:Nat}{hs:List Value}{n:Nat}{Z:Nat->Prop}(h:OutAt w gw hs n Z): ∃od oc,∀{u:World},u.heap[gw]? =w.heap[gw]? ->Lds Tryd.prog 29 (.pointer (some ⟨gw,8,none⟩)) (.slice od n oc) u:=by
 obtain⟨s,E,hS⟩:=h
 refine⟨s.d,s.c,fun hu=> ?_⟩
 rw[<-hS.num.1]
 refine one_load (show Blk _ gw wdT (wcs hs s) from hu.trans hS.blk) Tryd.underlying29 rfl ?_
 rw[<-Array.getElem?_toList]
 show(hs++[s.v])[8]? =_
 rw[List.getElem?_append_right (by rw[hS.len];exact Nat.le_refl _),hS.len]
 rfl
theorem OutAt.gw_in{w:World}{gw:Nat}{hs:List Value}{n:Nat}{Z:Nat->Prop}(h:OutAt w gw hs n Z):Z gw/\gw<w.heap.size:=let⟨_,_,hS⟩:=h;⟨hS.zgw,hS.blk.lt⟩
def OwnsC(h:Hd)(k:Fo):Prop:= ∀(w:World) (gw n lo hi:Nat) (hs:List Value) (Z:Nat->Prop) (m:Dm),rightB h k=true->Dt.sep ⟨h,k⟩ w lo hi m->OutAt w gw hs n Z->(∀b,Z b->¬InR lo hi b)->hi<=w.heap.size->n+(1+cntF k)<=200000000000->
 Calls Tryd.prog 41 #[.pointer (some ⟨gw,0,none⟩),.agg (h.cells m.pa m.pc m.ia k.len m.ic)] w fun e w'=>e=.returned (.tuple #[])/\(OutAt w' gw hs (n+(1+cntF k)) (fun b=>Z b\/InR lo hi b\/w.heap.size<=b)/\MovC (fun b=>Z b\/InR lo hi b) w w')
section
variable {d:Dt} {m:Dm} {u:World} {a:Act} {gw n g3:Nat} {hs:List Value} {Z:Nat->Prop} {Q:Exit->Act->World->Prop}
set_option maxHeartbeats 4000000 in
theorem ow_items{k1 k2:Nat}(h:Sl 97 a [(3,.pointer (some ⟨g3,0,none⟩)),(0,.pointer (some ⟨gw,0,none⟩))])(ih: ∀i a e,d.k.get i=some (a,e)->OwnsC a e)(hr:rightB d.h d.k=true)
  (hO:OutAt u gw hs n Z) (hD:Blk u g3 dtT (d.cs m)) (hg1: ¬Z g3) (hg2: ¬InR k1 k2 g3) (hZ: ∀b,Z b->¬InR k1 k2 b) (hhi:k2<=u.heap.size) (h12:k1<=k2)
  (hk:d.k.len=0\/∃b cb,m.ia=some ⟨b,0,none⟩/\b<k1/\¬Z b/\Blk u b dtT cb/\SK u k1 k2 b 0 d.k) (hn:n+cntF d.k<=200000000000)
  (hQ: ∀a' u',Sl 97 a' [(3,.pointer (some ⟨g3,0,none⟩)),(0,.pointer (some ⟨gw,0,none⟩))]->OutAt u' gw hs (n+cntF d.k) (fun y=>Z y\/InR k1 k2 y\/u.heap.size<=y)->Blk u' g3 dtT (d.cs m)->MovC (fun y=>Z y\/InR k1 k2 y) u u'->Q .normal a' u'):
  (Code.seq (r_ow 1) (.block 0 (.loop owL3))).wp Tryd.prog Q a u:=by
 have hgl:=hD.lt
 refine wp_seq (rg_wp (ow_r1 h fun a1 h1=> ?_))
 have h1:Sl 97 a1 [(4,.int .i64 ((0:Nat):Int)),(3,.pointer (some ⟨g3,0,none⟩)),(0,.pointer (some ⟨gw,0,none⟩))]:=h1.to ⟨rfl,rfl,rfl,trivial⟩
 refine wp_block ?_
 refine wp_loop (fun a' v=> ∃j l nj:Nat,j<=d.k.len/\Sl 97 a' [(4,.int .i64 (j:Int)),(3,.pointer (some ⟨g3,0,none⟩)),(0,.pointer (some ⟨gw,0,none⟩))]/\k1<=l/\l<=k2/\nj+cntF (d.k.drop j)=n+cntF d.k/\OutAt v gw hs nj (fun y=>Z y\/InR k1 l y\/u.heap.size<=y)/\Blk v g3 dtT (d.cs m)/\MovC (fun y=>Z y\/InR k1 k2 y) u v/\
   (d.k.len=0\/∃b cb,m.ia=some ⟨b,0,none⟩/\b<k1/\¬Z b/\b<u.heap.size/\Blk v b dtT cb/\SK v l k2 b (j*11) (d.k.drop j)))
  (fun a' _=>muTo d.k.len (slot a' 4)) ⟨0,k1,n,Nat.zero_le _,h1,Nat.le_refl _,h12,by rw[Fo.drop_zero],hO.wide (fun b hb _=>.inl hb),hD,MovC.of_below (Below.refl _ _),hk.imp_right fun⟨b,cb,q1,q2,q3,q4,q5⟩=>⟨b,cb,q1,q2,q3,q4.lt,q4,by rw[Nat.zero_mul,Fo.drop_zero];exact q5⟩⟩ ?_
 rintro a2 v ⟨j,l,nj,hj,h2,hl1,hl2,hnj,hOv,hDv,hMv,hkv⟩
 rw[h2.look 4 rfl,muTo_int]
 unfold owL3
 have hlen:d.k.len<=99:=by
  have:=(right_iff.1 hr).2.2
  have h2: ∀f:Fo,f.len<=cntF f:=fun f=>by
   induction f with
   | nil=>exact Nat.le_refl _
   | cons h k r _ ih=>show r.len+1<=1+cntF k+cntF r;omega
  have:=h2 d.k
  omega
 have hi10: ∀{u:World},Blk u g3 dtT (d.cs m)->Lds Tryd.prog 29 (.pointer (some ⟨g3,10,none⟩)) (.slice m.ia d.k.len m.ic) u:=fun hB=>one_load hB Tryd.underlying29 rfl rfl
 have hsz:=hMv.size
 by_cases hjl:j<d.k.len
 ·refine wp_seq (wp_seq (rg_wp (ow_r2 (b14:=true) h2 rfl rfl (hi10 hDv) (decide_eq_true (by omega)) fun a3 h3=>wpn (h3.look 14 rfl) ?_)))
  rcases hkv with hkv | ⟨b,cb,hia,hb1,hbZ,hbu,hbB,hSK⟩
  ·omega
  ·obtain⟨a,e,hget⟩:=Fo.get_lt d.k j hjl
   rw[Fo.drop_get d.k j a e hget,SK_cons] at hSK
   rw[Fo.drop_get d.k j a e hget] at hnj
   obtain⟨m',x,hm',hcs,hd',hrest⟩:=hSK
   have hlm:=hd'.le
   have hnj:nj+(1+cntF e+cntF (d.k.drop (j+1)))=n+cntF d.k:=hnj
   have hc:=ih j a e hget v gw nj l m' hs (fun y=>Z y\/InR k1 l y\/u.heap.size<=y) x (right_get hr hget) hd' hOv (fun y hy hz=>by
    rcases hy with hy | hy | hy
    ·exact hZ y hy ⟨by have:=hz.1;omega,by have:=hz.2;omega⟩
    ·have:=hy.2
     have:=hz.1
     omega
    ·have:=hz.2
     omega) (by omega) (by omega)
   refine wp_seq (wp_block (wpl (rg_wp (ow_r4 (il:=d.k.len) (ia:=m.ia) (ic:=m.ic) (g21:=b) (o21:=j*11) (dx:=⟨a,e⟩) (mx:=x) h3 rfl rfl rfl (hi10 hDv) (by rw[hia];exact fun w=>ix_at j rfl Tryd.underlying29 (by kernel_rfl) hjl rfl w) (ldsA Tryd.underlying31 rfl (by kernel_rfl) (cs:=(Dt.cs ⟨a,e⟩ x).toList) (fun i z hz=>hcs i z (by rw[<-Array.getElem?_toList];exact hz))) hc fun a4 v' hc' h4=>block_norm ?_))))
   obtain⟨hO',hM'⟩:=hc'
   have hbn: ¬((Z b\/InR k1 l b\/u.heap.size<=b)\/InR l m' b):=by
    rintro((q | q | q) | q)
    ·exact hbZ q
    ·have:=q.1;omega
    ·omega
    ·have:=q.1;omega
   have kb:=hM'.block b hbB.lt (fun q=>hbn q.1)
   have hgn: ¬((Z g3\/InR k1 l g3\/u.heap.size<=g3)\/InR l m' g3):=by
    rintro((q | q | q) | q)
    ·exact hg1 q
    ·exact hg2 ⟨q.1,by have:=q.2;omega⟩
    ·omega
    ·exact hg2 ⟨by have:=q.1;omega,by have:=q.2;omega⟩
   show Code.wp _ (r_ow 3) _ a4 v'
   refine wpl (rg_wp (ow_r3 h4 rfl (by omega) fun a5 h5=>⟨⟨j+1,m',nj+(1+cntF e),by omega,h5.to ⟨rfl,rfl,rfl,trivial⟩,by omega,hm',by omega,hO'.wide (fun y hy hyl=> ?_),hM'.stay hDv hgn,hMv.trans hM' (fun y hyl hy=> ?_),.inr ⟨b,cb,hia,hb1,hbZ,hbu,kb.trans hbB, ?_⟩⟩, ?_⟩))
   ·rcases hy with(q | q | q) | q | q
    ·exact .inl q
    ·exact .inr (.inl ⟨q.1,by have:=q.2;omega⟩)
    ·exact .inr (.inr q)
    ·exact .inr (.inl ⟨by have:=q.1;omega,q.2⟩)
    ·exact .inr (.inr (by omega))
   ·rcases hy with(q | q | q) | q
    ·exact .inl q
    ·exact .inr ⟨q.1,by have:=q.2;omega⟩
    ·omega
    ·exact .inr ⟨by have:=q.1;omega,by have:=q.2;omega⟩
   ·rw[Nat.add_mul,Nat.one_mul]
    refine SK.keep _ _ _ _ _ hrest (fun y h1 h2=>hM'.block y (by omega) (fun q=> ?_)) (fun i z _ hz=>(cell_same kb).trans hz)
    rcases q.1 with(q | q | q) | q
    ·exact hZ y q ⟨by omega,by omega⟩
    ·have:=q.2;omega
    ·omega
    ·have:=q.2;omega
   ·rw[h5.look 4 rfl,show((j:Int)+1)=((j+1:Nat):Int) by simp,muTo_int]
    omega
 ·refine wp_seq (wp_seq (rg_wp (ow_r2 (b14:=false) h2 rfl rfl (hi10 hDv) (decide_eq_false (by omega)) fun a3 h3=>wpx (h3.look 14 rfl) ?_)))
  refine then_exit' (in_block2 ?_)
  have hc0:cntF (d.k.drop j)=0:=by rw[Fo.drop_len d.k j (by omega)];rfl
  exact hQ a3 v (h3.to ⟨rfl,rfl,trivial⟩) (by
   rw[<-hnj,hc0]
   exact hOv.wide fun y hy _=>hy.imp_right (·.imp_left fun q=>⟨q.1,by have:=q.2;omega⟩)) hDv hMv
set_option maxHeartbeats 4000000 in
theorem ow_marki(h:Sl 97 a [(3,.pointer (some ⟨g3,0,none⟩)),(0,.pointer (some ⟨gw,0,none⟩))])(hlen:d.k.len<=99)
  (hO:OutAt u gw hs n Z) (hD:Blk u g3 dtT (d.cs m)) (hn:n<=200000000000)
  (hk:d.k.len=0\/∃b cb,m.ia=some ⟨b,0,none⟩/\¬Z b/\b≠g3/\Blk u b dtT cb/\cb.size=d.k.len*11)
  (hQ: ∀a' u',Sl 97 a' [(3,.pointer (some ⟨g3,0,none⟩)),(0,.pointer (some ⟨gw,0,none⟩))]->OutAt u' gw hs n Z->Blk u' g3 dtT (d.cs m)->MovC (fun y=>0<d.k.len/\m.ia=some ⟨y,0,none⟩) u u'->
   (d.k.len=0\/∃b cb,m.ia=some ⟨b,0,none⟩/\Blk u' b dtT cb/\cb.size=d.k.len*11/\∀i,i<d.k.len->u'.cell? ⟨b,i*11,none⟩=some (.int .i64 (-7))/\u'.cell? ⟨b,i*11+2,none⟩=some (.int .i64 (n:Int)))->Q .normal a' u'):
  (Code.seq (r_ow 5) (.block 2 (.loop owL2))).wp Tryd.prog Q a u:=by
 refine wp_seq (rg_wp (ow_r5 h fun a1 h1=> ?_))
 have h1:Sl 97 a1 [(5,.int .i64 ((0:Nat):Int)),(3,.pointer (some ⟨g3,0,none⟩)),(0,.pointer (some ⟨gw,0,none⟩))]:=h1.to ⟨rfl,rfl,rfl,trivial⟩
 refine wp_block ?_
 refine wp_loop (fun a' v=> ∃j:Nat,j<=d.k.len/\Sl 97 a' [(5,.int .i64 (j:Int)),(3,.pointer (some ⟨g3,0,none⟩)),(0,.pointer (some ⟨gw,0,none⟩))]/\OutAt v gw hs n Z/\Blk v g3 dtT (d.cs m)/\MovC (fun y=>0<d.k.len/\m.ia=some ⟨y,0,none⟩) u v/\
   (d.k.len=0\/∃b cb,m.ia=some ⟨b,0,none⟩/\¬Z b/\b≠g3/\Blk v b dtT cb/\cb.size=d.k.len*11/\∀i,i<j->v.cell? ⟨b,i*11,none⟩=some (.int .i64 (-7))/\v.cell? ⟨b,i*11+2,none⟩=some (.int .i64 (n:Int))))
  (fun a' _=>muTo d.k.len (slot a' 5)) ⟨0,Nat.zero_le _,h1,hO,hD,MovC.of_below (Below.refl _ _),hk.imp_right fun⟨b,cb,q1,q2,q3,q4,q5⟩=>⟨b,cb,q1,q2,q3,q4,q5,fun i hi=>by omega⟩⟩ ?_
 rintro a2 v ⟨j,hj,h2,hOv,hDv,hMv,hkv⟩
 rw[h2.look 5 rfl,muTo_int]
 unfold owL2
 have hi10: ∀{u:World},Blk u g3 dtT (d.cs m)->Lds Tryd.prog 29 (.pointer (some ⟨g3,10,none⟩)) (.slice m.ia d.k.len m.ic) u:=fun hB=>one_load hB Tryd.underlying29 rfl rfl
 by_cases hjl:j<d.k.len
 ·refine wp_seq (wp_seq (rg_wp (ow_r6 (b28:=true) h2 rfl rfl (hi10 hDv) (decide_eq_true (by omega)) fun a3 h3=>wpn (h3.look 28 rfl) ?_)))
  rcases hkv with hkv | ⟨b,cb,hia,hbZ,hb3,hB,hBz,hmk⟩
  ·omega
  ·obtain⟨od,oc,hld⟩:=hOv.load
   have hB1:=hB.drewN 1
   have hgw:gw≠b:=fun e=>hbZ (e ▸ hOv.gw_in.1)
   have hM1:MovC (fun y=>0<d.k.len/\m.ia=some ⟨y,0,none⟩) u ((v.drewN 1).setCells b (j*11) [.int .i64 (-7),.string (⟨#[]⟩),.int .i64 (n:Int),.int .u64 0,.string (⟨#[]⟩),.int .i64 0,.int .i64 0,.int .i64 0,.int .i64 0,.slice none 0 0,.slice none 0 0]):=(hMv.below (below_drewN (Below.refl _ _) 1)).set (fun _=>⟨by omega,hia⟩) ⟨_,_,hB1⟩ _ _
   obtain⟨cb',hB',hBz'⟩:=set_blk (o:=j*11) [.int .i64 (-7),.string (⟨#[]⟩),.int .i64 (n:Int),.int .u64 0,.string (⟨#[]⟩),.int .i64 0,.int .i64 0,.int .i64 0,.int .i64 0,.slice none 0 0,.slice none 0 0] ⟨cb,hB1,hBz⟩
   refine wp_seq (wp_block (wpl (rg_wp (ow_r8 (on:=n) (od:=od) (oc:=oc) (il:=d.k.len) (ia:=m.ia) (ic:=m.ic) (g40:=b) (o40:=j*11) h3 rfl rfl rfl (hi10 hDv) (hld rfl) (by rw[hia];exact fun w=>ix_at j rfl Tryd.underlying29 (by kernel_rfl) hjl rfl w) (stsA (there_bk hB1 (by rw[hBz];show j*11+11<=_;omega)) (by kernel_rfl) (by kernel_rfl)) fun a4 h4=>block_norm ?_))))
   show Code.wp _ (r_ow 7) _ a4 _
   refine wpl (rg_wp (ow_r7 h4 rfl (by omega) fun a5 h5=>⟨⟨j+1,by omega,h5.to ⟨rfl,rfl,rfl,trivial⟩,(hOv.old (below_drewN (Below.refl _ _) 1)).keep (fun y hy _=>setCells_other _ _ _ (fun e=>hbZ (e ▸ hy))) (fun _ h _=>h),Blk.farL (by omega) _ _ _ (hDv.drewN 1),hM1,.inr ⟨b,cb',hia,hbZ,hb3,hB',hBz',fun i hi=> ?_⟩⟩, ?_⟩))
   ·by_cases hij:i=j
    ·subst hij
     exact⟨set_cell hB1 _ (by rw[hBz];show i*11+11<=_;omega) (j:=0) rfl,set_cell hB1 _ (by rw[hBz];show i*11+11<=_;omega) (j:=2) rfl⟩
    ·exact⟨(set_out _ fun _=>.inl (by omega)).trans (hmk i (by omega)).1,(set_out _ fun _=>.inl (by omega)).trans (hmk i (by omega)).2⟩
   ·rw[h5.look 5 rfl,show((j:Int)+1)=((j+1:Nat):Int) by simp,muTo_int]
    omega
 ·refine wp_seq (wp_seq (rg_wp (ow_r6 (b28:=false) h2 rfl rfl (hi10 hDv) (decide_eq_false (by omega)) fun a3 h3=>wpx (h3.look 28 rfl) ?_)))
  refine then_exit' (in_block2 ?_)
  exact hQ a3 v (h3.to ⟨rfl,rfl,trivial⟩) hOv hDv hMv (hkv.imp_right fun⟨b,cb,q1,q2,q3,q4,q5,q6⟩=>⟨b,cb,q1,q4,q5,fun i hi=>q6 i (by omega)⟩)
set_option maxHeartbeats 4000000 in
theorem ow_markp(h:Sl 97 a [(3,.pointer (some ⟨g3,0,none⟩)),(0,.pointer (some ⟨gw,0,none⟩))])(hlen:d.h.path.length<=17592186043904)
  (hO:OutAt u gw hs n Z) (hD:Blk u g3 dtT (d.cs m)) (hn:n<=200000000000)
  (hk:d.h.path.length=0\/∃b cb,m.pa=some ⟨b,0,none⟩/\¬Z b/\b≠g3/\Blk u b 3 cb/\cb.size=m.pc/\d.h.path.length<=m.pc)
  (hQ: ∀a' u',Sl 97 a' [(3,.pointer (some ⟨g3,0,none⟩)),(0,.pointer (some ⟨gw,0,none⟩))]->OutAt u' gw hs n Z->Blk u' g3 dtT (d.cs m)->MovC (fun y=>0<d.h.path.length/\m.pa=some ⟨y,0,none⟩) u u'->
   (d.h.path.length=0\/∃b cb,m.pa=some ⟨b,0,none⟩/\Blk u' b 3 cb/\cb.size=m.pc/\∀i,i<d.h.path.length->u'.cell? ⟨b,i,none⟩=some (.int .i64 ((-7:Int)-(n:Int))))->Q .normal a' u'):
  (Code.seq (r_ow 9) (.block 4 (.loop owL1))).wp Tryd.prog Q a u:=by
 refine wp_seq (rg_wp (ow_r9 h fun a1 h1=> ?_))
 have h1:Sl 97 a1 [(6,.int .i64 ((0:Nat):Int)),(3,.pointer (some ⟨g3,0,none⟩)),(0,.pointer (some ⟨gw,0,none⟩))]:=h1.to ⟨rfl,rfl,rfl,trivial⟩
 refine wp_block ?_
 refine wp_loop (fun a' v=> ∃j:Nat,j<=d.h.path.length/\Sl 97 a' [(6,.int .i64 (j:Int)),(3,.pointer (some ⟨g3,0,none⟩)),(0,.pointer (some ⟨gw,0,none⟩))]/\OutAt v gw hs n Z/\Blk v g3 dtT (d.cs m)/\MovC (fun y=>0<d.h.path.length/\m.pa=some ⟨y,0,none⟩) u v/\
   (d.h.path.length=0\/∃b cb,m.pa=some ⟨b,0,none⟩/\¬Z b/\b≠g3/\Blk v b 3 cb/\cb.size=m.pc/\d.h.path.length<=m.pc/\∀i,i<j->v.cell? ⟨b,i,none⟩=some (.int .i64 ((-7:Int)-(n:Int)))))
  (fun a' _=>muTo d.h.path.length (slot a' 6)) ⟨0,Nat.zero_le _,h1,hO,hD,MovC.of_below (Below.refl _ _),hk.imp_right fun⟨b,cb,q1,q2,q3,q4,q5,q6⟩=>⟨b,cb,q1,q2,q3,q4,q5,q6,fun i hi=>by omega⟩⟩ ?_
 rintro a2 v ⟨j,hj,h2,hOv,hDv,hMv,hkv⟩
 rw[h2.look 6 rfl,muTo_int]
 unfold owL1
 have hp9: ∀{u:World},Blk u g3 dtT (d.cs m)->Lds Tryd.prog 22 (.pointer (some ⟨g3,5+4,none⟩)) (.slice m.pa d.h.path.length m.pc) u:=fun hB=>one_load hB Tryd.underlying22 rfl rfl
 by_cases hjl:j<d.h.path.length
 ·refine wp_seq (wp_seq (rg_wp (ow_r10 (b46:=true) h2 rfl rfl (hp9 hDv) (decide_eq_true (by omega)) fun a3 h3=>wpn (h3.look 46 rfl) ?_)))
  rcases hkv with hkv | ⟨b,cb,hia,hbZ,hb3,hB,hBz,hpc,hmk⟩
  ·omega
  ·obtain⟨od,oc,hld⟩:=hOv.load
   have hB1:=hB.drewN 1
   have hM1:MovC (fun y=>0<d.h.path.length/\m.pa=some ⟨y,0,none⟩) u ((v.drewN 1).setCells b j [.int .i64 ((-7:Int)-(n:Int))]):=(hMv.below (below_drewN (Below.refl _ _) 1)).set (fun _=>⟨by omega,hia⟩) ⟨_,_,hB1⟩ _ _
   obtain⟨cb',hB',hBz'⟩:=set_blk (o:=j) [.int .i64 ((-7:Int)-(n:Int))] ⟨cb,hB1,hBz⟩
   refine wp_seq (wp_block (wpl (rg_wp (ow_r12 (on:=n) (od:=od) (oc:=oc) (pl:=d.h.path.length) (pa:=m.pa) (pc:=m.pc) (g59:=b) (o59:=j) h3 rfl rfl rfl (hp9 hDv) (hld rfl) (by omega) (by rw[hia];exact fun w=>ix_at j rfl Tryd.underlying22 (by kernel_rfl) hjl (Nat.mul_one _).symm w) (sts1 (there_bk hB1 (by rw[hBz];omega)) (by kernel_rfl) rfl) fun a4 h4=>block_norm ?_))))
   show Code.wp _ (r_ow 11) _ a4 _
   refine wpl (rg_wp (ow_r11 h4 rfl (by omega) fun a5 h5=>⟨⟨j+1,by omega,h5.to ⟨rfl,rfl,rfl,trivial⟩,(hOv.old (below_drewN (Below.refl _ _) 1)).keep (fun y hy _=>setCells_other _ _ _ (fun e=>hbZ (e ▸ hy))) (fun _ h _=>h),Blk.farL (by omega) _ _ _ (hDv.drewN 1),hM1,.inr ⟨b,cb',hia,hbZ,hb3,hB',hBz',hpc,fun i hi=> ?_⟩⟩, ?_⟩))
   ·by_cases hij:i=j
    ·subst hij
     exact set_cell hB1 _ (by rw[hBz];show i+1<=_;omega) (j:=0) rfl
    ·exact(set_out _ fun _=>.inl (by omega)).trans (hmk i (by omega))
   ·rw[h5.look 6 rfl,show((j:Int)+1)=((j+1:Nat):Int) by simp,muTo_int]
    omega
 ·refine wp_seq (wp_seq (rg_wp (ow_r10 (b46:=false) h2 rfl rfl (hp9 hDv) (decide_eq_false (by omega)) fun a3 h3=>wpx (h3.look 46 rfl) ?_)))
  refine then_exit' (in_block2 ?_)
  exact hQ a3 v (h3.to ⟨rfl,rfl,trivial⟩) hOv hDv hMv (hkv.imp_right fun⟨b,cb,q1,q2,q3,q4,q5,q6,q7⟩=>⟨b,cb,q1,q4,q5,fun i hi=>q7 i (by omega)⟩)
end
end Go.Proofs.YtlhfickniegooaaDoor
