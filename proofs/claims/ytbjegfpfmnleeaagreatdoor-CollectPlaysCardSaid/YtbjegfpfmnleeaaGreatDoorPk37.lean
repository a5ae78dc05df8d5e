/-
   Written by an AI agent.
-/
import Derived.Test.YtbjegfpfmnleeaaGreatDoorPk36
namespace Go.Proofs.YtbjegfpfmnleeaaGreatDoor
open Go.RowKit Go.Maps
set_option maxRecDepth 100000
theorem Dk6{w:World}{B n:Nat}{s:S3}{xs:List Value}(h:ARow w B C7 11 s n xs)(hn:n<=1000000000)(hB:B<=w.heap.size)(c:Array Value)(hc:c.size=22)(h1: ∀u∈c.toList,u.oneCell'=true):
  ∃(s':S3) (w':World),(∀ty,(Builtin.append_ #[23,23] ty #[.slice s.d s.n s.c,.slice (some ⟨w.heap.size,0,none⟩) 2 2]).run Tryz.prog (w.alloc (.cells c C7))=.ok (S3.v s') w')/\ARow w' B C7 11 s' (n+2) (xs++c.toList)/\Rw w w' s s':=by
 obtain⟨i,hi,hz0,hz1,hz2⟩:=An Vj
 have hx:=Blk.new w C7 c
 have hcl:c.toList.length=22:=by simpa using hc
 have hcell: ∀(j:Nat) (u:Value),c.toList[j]? =some u->(w.alloc (.cells c C7)).cell? ((⟨w.heap.size,0,none⟩:Addr).add j)=some u:=fun j u hu=>by
  rw[Ck,Nat.zero_add,hx.cell,<-Array.getElem?_toList]
  exact hu
 have hw1:(w.alloc (.cells c C7)).heap.size=w.heap.size+1:=World.size_alloc _ _
 obtain⟨v',w',hr,ho,hg,_,hblk⟩:=run_append_own_at (P:=Tryz.prog) (w:=w.alloc (.cells c C7)) B 23 0 C7 i _ 11 136 Tryz.underlying23 hi hz0 hz1 hz2 rfl Zo s.v n xs (S9 h.2 (B2 (Below.refl _ _) _)) ⟨w.heap.size,0,none⟩ 2 2 c.toList (by rw[hcl]) hcell h1 (by simp only[maxLen];omega) Zo Zo
 obtain⟨s',rfl,hs'⟩:=ARow.of_v ho
 have e:s.v=.slice s.d s.n s.c:=rfl
 rw[e] at hr
 refine⟨s',w',fun ty=>Am hr ty,hs',⟨⟨by have:=hg.size;omega,hg.os,hg.tape,hg.output,fun b hb hn=>(hg.block b Zo (fun e=>hn e.symm)).trans (Below.heap_alloc _ _ _ hb)⟩, ?_⟩⟩
 refine hblk.imp_right fun e=>⟨_,e,Zo⟩
theorem Be6{g n c k:Nat}(hk:k<=c)(w:World):(Instr.sliceAt 23 (.slice (some ⟨g,0,none⟩) n c) none (some (ii (k:Int))) none).run Tryz.prog w=.ok (.slice (some ⟨g,0,none⟩) k c) w:=by
 have ht:Tryz.prog.underlying 23=some (.slice (Tryz.prog.elem 23)):=Tryz.underlying23
 obtain⟨i,hi1,hi2⟩:=Option.map_eq_some_iff.1 (show(Tryz.prog.info? (Tryz.prog.elem 23)).map (·.size)=some 11 by kernel_rfl)
 rw[run_sliceAt_slice _ _ _ _ _ _ ht,run_slice_h _ _ _ _ _ ht _ _ Zo Zo]
 simp[sizeOf,typeInfo,hi1,Result.andThen,sliced,Ck]
theorem Zt(d:Dt)(m:Dm)(a:Option Addr)(c:Nat):(([Value.slice a d.k.len c]:List Value).foldl (fun(p:Array Value×Nat) v=>(p.1.setIfInBounds p.2 v,p.2+1)) (d.cs m,10)).1=d.cs ⟨m.pa,m.pc,a,c⟩:=by kernel_rfl
theorem Ao7{w:World}{g n o:Nat}{t:TypeId}{cs c:Array Value}{ys:List Value}(hB:Blk w g t cs)(e:cs.toList.take n=ys)(h:(ys.drop o).take 11=c.toList):CellsAt w g o c:=fun j v hv=>by
 rw[hB.cell,<-Array.getElem?_toList]
 have h1:c.toList[j]? =some v:=by rw[Array.getElem?_toList];exact hv
 rw[<-h,List.getElem?_take] at h1
 split at h1
 ·rw[List.getElem?_drop,<-e,List.getElem?_take] at h1
  split at h1
  ·exact h1
  ·cases h1
 ·cases h1
theorem Rt{d:Dt}{m:Dm}: ∀u∈(d.cs m).toList,u.oneCell'=true:=by simp[Dt.cs,Hd.cells,Value.oneCell']
abbrev mkC:Array Value:=#[ii 0,.string ⟨#[]⟩,ii (-71),.int .u64 0,.string ⟨#[]⟩,ii 0,ii 0,ii 0,ii 0,.slice none 0 0,.slice none 0 0,ii 0,.string ⟨#[]⟩,ii (-72),.int .u64 0,.string ⟨#[]⟩,ii 0,ii 0,ii 0,ii 0,.slice none 0 0,.slice none 0 0]
def Ao8(l:Fo):Prop:= ∀(w:World) (T:Nat->Prop) (ia:Option Addr) (lc:Nat),SlAt w T ia l->SmF l->l.len<=100000->
 Calls Tryz.prog 11 #[.slice ia l.len lc] w fun e w'=> ∃q:S3,e=.returned (.slice q.d q.n q.c)/\(q.n=l.len/\q.c<=maxLen/\LeB w' (fun b=>w.heap.size<=b) (fun b=>T b/\b<w.heap.size) l q.d q.c/\Below w.heap.size w w')
set_option maxHeartbeats 4000000 in
theorem Zu(l:Fo)(hk: ∀i a k',l.get i=some (a,k')->Ao8 k'):Ao8 l:=by
 intro w T ia lc hl0 hsm hlen
 obtain⟨T',hT'⟩: ∃T':Nat->Prop,T'=fun b=>T b/\b<w.heap.size:=⟨_,rfl⟩
 have hTl: ∀b,T' b->b<w.heap.size:=fun b hb=>by rw[hT'] at hb;exact hb.2
 have hl:SlAt w T' ia l:=hl0.keep (fun _ _ _=>rfl) (fun b h1 h2=>by rw[hT'];exact⟨h1,h2⟩)
 rw[<-hT']
 refine B6 (vs:=[.slice ia l.len lc]) 39 Tryz.func11 An5 Zk (by simp) fun a0 h0=> ?_
 unfold Yr
 refine Zs (Dh2 h0 fun a1 h1=> ?_)
 refine Zs (Dh3 h1 fun a2 h2=> ?_)
 refine wp_seq (Zs (Dh4 h2 fun a3 h3=> ?_))
 refine wp_block ?_
 refine wp_loop (fun a' wr=> ∃(i:Nat) (o:S3) (xs:List Value),i<=l.len/\Sl 39 a' [(4,ii (i:Int)),(3,.slice o.d o.n o.c),(0,.slice ia l.len lc)]/\ARow wr w.heap.size C7 11 o i xs/\Below w.heap.size w wr/\
   ∀j h k,j<i->l.get j=some (h,k)->∃m,(xs.drop (j*11)).take 11=((⟨h,k⟩:Dt).cs m).toList/\EP wr (fun b=>w.heap.size<=b/\o.v.ownBlock≠some b) T' h k m) (fun a' _=>G1 l.len (F9 a' 4))
  ⟨0,⟨none,0,0⟩,[],Nat.zero_le _,h3.to ⟨rfl,rfl,rfl,trivial⟩,ARow.nil _ _ _ _,Below.refl _ _,fun j _ _ hj=>absurd hj (Nat.not_lt_zero _)⟩ ?_
 rintro a4 w4 ⟨i,o,xs,hi,h4,hR4,hb4,hE⟩
 rw[h4.look 4 rfl,B4]
 unfold Dh1
 have hz4:=hb4.size
 have hxl:xs.length=i*11:=hR4.2.1
 have hol: ∀g,o.v.ownBlock=some g->w.heap.size<=g/\g<w4.heap.size:=fun g hg=>ARow.block hR4 hg
 by_cases hlt:i<l.len
 ·refine wp_seq (Zs (Bd9 (ln:=l.len) (b9:=true) h4 rfl rfl (decide_eq_true Zo) fun a5 h5=>wpn (h5.look 9 rfl) ?_))
  obtain⟨h',k',hg⟩:=Fo.get_lt l i hlt
  have hl4:SlAt w4 T' ia l:=hl.keep (fun b hb _=>hb4.block b (hTl b hb)) (fun _ hb _=>hb)
  obtain⟨b,p,hia,hSb,pa,pc,ja,jc,hc,hdd⟩:=hl4.get hg
  have hbl:b<w.heap.size:=hTl b hSb
  rw[hia] at h5
  obtain⟨d,hd⟩: ∃d:Dt,d=⟨h',k'⟩:=⟨_,rfl⟩
  obtain⟨m,hm⟩: ∃m:Dm,m=⟨pa,pc,ja,jc⟩:=⟨_,rfl⟩
  have hcd:CellsAt w4 b (p+i*11) (d.cs m):=by rw[hd,hm];exact hc
  refine wp_seq (wp_block ?_)
  refine Zs (Dh6 (d:=d) (m:=m) h5 rfl rfl (fun w=>J2 i Tryz.underlying23 K4 hlt w) (M2 hcd) (D1 (Blk.new w4 C7 zA) (by show 0+11<=11;omega)) fun a6 h6=> ?_)
  have hX:=Q8 (w:=w4) d m
  obtain⟨g5,hg5⟩: ∃g5,g5=w4.heap.size:=⟨_,rfl⟩
  change Code.wp _ _ _ a6 ((w4.alloc (.cells zA C7)).setCells w4.heap.size 0 (d.cs m).toList)
  rw[<-hg5] at hX h6
  rw[<-hg5]
  generalize (w4.alloc (.cells zA C7)).setCells g5 0 (d.cs m).toList=v at hX ⊢
  obtain⟨hD,hbv⟩:=hX
  have hDl:g5<v.heap.size:=hD.lt
  rw[hg5] at hbv
  have hzv:=hbv.size
  obtain⟨mid,hmid⟩: ∃mid:Act->World->Prop,mid=fun a' v'=> ∃m':Dm,Sl 39 a' [(5,pT g5),(4,ii (i:Int)),(3,.slice o.d o.n o.c),(0,.slice (some ⟨b,p,none⟩) l.len lc)]/\Blk v' g5 C7 (d.cs m')/\Below w4.heap.size w4 v'/\EP v' (fun b=>w.heap.size<=b/\o.v.ownBlock≠some b) T' h' k' m':=⟨_,rfl⟩
  refine wp_seq (Code.wp_mono (Q:=fun e a' w'=>e=.normal/\mid a' w') ?_ ?_)
  ·rintro e a8 v8 ⟨rfl,hr⟩
   rw[hmid] at hr
   obtain⟨m',h8,hB8,hb8,hE8⟩:=hr
   show Code.wp _ (N4 8) _ a8 v8
   have hz8:=hb8.size
   obtain⟨s',w9,e1,e2,e3,e4⟩: ∃(s':S3) (w':World),(∀ty,(Builtin.append_ #[23,23] ty #[.slice o.d o.n o.c,.slice (some ⟨v8.heap.size,0,none⟩) 1 1]).run Tryz.prog (v8.alloc (.cells (d.cs m') C7))=.ok (S3.v s') w')/\ARow w' w.heap.size C7 11 s' (i+1) (xs++(d.cs m').toList)/\Moved (fun b=>o.v.ownBlock=some b) v8 w'/\(s'.v.ownBlock=o.v.ownBlock\/s'.v.ownBlock=some (v8.heap.size+1)):=by
    obtain⟨s',w',q1,q2,q3,q4⟩:=Bm8 (ARow.old hR4 hb8) Zo Zo (d.cs m') rfl Rt 0
    exact⟨s',w',fun ty=>Am q1 ty,q2,q3,q4⟩
   have hW:Rw v8 w9 o s':=⟨e3,e4.imp_right fun e=>⟨_,e,Zo⟩⟩
   refine Zl (Dh8 (d:=d) (m:=m') (C0:=fun _ s z=>s=s'/\z=w9) h8 rfl rfl (C6 hB8 rfl) (fun ty=>⟨s',w9,e1 ty,rfl,rfl⟩) fun a9 s z hq h9=>B1 ?_)
   obtain⟨rfl,rfl⟩:=hq
   show Code.wp _ (N4 4) _ a9 _
   have hon: ∀b,b<w.heap.size->o.v.ownBlock≠some b:=fun b hb e=>by have:=(hol b e).1;omega
   have hTk: ∀b,T' b->b<v8.heap.size->z.heap[b]? =v8.heap[b]? /\T' b:=fun b hb hl=>⟨hW.blk hl (hon b (hTl b hb)),hb⟩
   have hSk: ∀b,(w.heap.size<=b/\o.v.ownBlock≠some b)->b<v8.heap.size->z.heap[b]? =v8.heap[b]? /\(w.heap.size<=b/\s.v.ownBlock≠some b):=fun b hb hl=>⟨hW.blk hl hb.2,hb.1,hW.ne hl hb.2⟩
   refine Zl (Dh5 h9 rfl Zo fun a10 h10=>⟨⟨i+1,s,_,hlt,by rw[hia];exact h10.to ⟨rfl,rfl,rfl,trivial⟩,e2,hb4.trans ((hb8.mono hz4).trans (hW.bel (fun g hg=>(hol g hg).1) Zo)),fun j hh kk hj e=> ?_⟩, ?_⟩)
   ·by_cases hji:j=i
    ·subst hji
     rw[hg] at e
     simp only[Option.some.injEq,Prod.mk.injEq] at e
     obtain⟨rfl,rfl⟩:=e
     refine⟨m', ?_,hE8.keep hSk hTk⟩
     rw[List.drop_left' hxl,<-hd]
     exact List.take_of_length_le (by simp[Dt.cs_size])
    ·obtain⟨mj,q1,q2⟩:=hE j hh kk Zo e
     refine⟨mj, ?_,(q2.keep (S':=fun b=>w.heap.size<=b/\o.v.ownBlock≠some b) (T':=T') (fun b hb hl=>⟨hb8.block b hl,hb⟩) (fun b hb hl=>⟨hb8.block b hl,hb⟩)).keep hSk hTk⟩
     rw[List.drop_append_of_le_length Zo,List.take_append_of_le_length (by rw[List.length_drop];omega)]
     exact q1
   ·rw[h10.look 4 rfl]
    show G1 l.len (ii ((i+1:Nat):Int))<_
    rw[B4]
    omega
  ·have hdk:d.h.kind=h'.kind:=by rw[hd]
   have hl1:Lds Tryz.prog 3 (pT g5) (ii d.h.kind) v:=A9 hD Tryz.underlying3 rfl rfl
   have hTv: ∀b,T' b->b<w4.heap.size->v.heap[b]? =w4.heap[b]? /\T' b:=fun b hb hl=>⟨hbv.block b hl,hb⟩
   by_cases h8:h'.kind=8
   ·refine Zs (Be0 (k:=d.h.kind) (b18:=true) h6 rfl hl1 (decide_eq_true Zo) fun a7 h7=>wp_cond_true (h7.look 18 rfl) ?_)
    have hcv:CellsAt v b (p+i*11) (d.cs m):=hcd.keep1 (hbv.block b Zo)
    have hsl:SlAt v T' ja k':=hdd.kids.keep (fun b hb hl=>(hTv b hb hl).1) (fun b hb _=>hb)
    obtain⟨hkl,hks⟩:=SmF.get l hsm hg h8
    have hlc:=hk i h' k' hg v T' ja jc hsl hks Zo
    have hc10:=hcv 10 (.slice ja k'.len jc) (by rw[hd,hm];rfl)
    refine Zl (Dh7 (sd:=ja) (sn:=k'.len) (sc:=jc) (g5:=g5) (C0:=fun q u=>q.n=k'.len/\q.c<=maxLen/\LeB u (fun b=>v.heap.size<=b) (fun b=>T' b/\b<v.heap.size) k' q.d q.c/\Below v.heap.size v u) h7 rfl rfl rfl (fun w=>J2 i Tryz.underlying23 K4 hlt w) (H9 Tryz.underlying23 rfl hc10) hlc (fun q u hq=>Cd3 (O5 (hD.below hq.2.2.2 hDl) (by show 10+1<=11;omega)) Zk rfl) fun a8 q u hq h9=>⟨rfl, ?_⟩)
    obtain⟨hqn,hqc,hLe,hbu⟩:=hq
    have hDu:=hD.below hbu hDl
    have hset:=Blk.setL [.slice q.d q.n q.c] 10 _ _ hDu
    rw[hqn,show k'.len=d.k.len by rw[hd]] at hset
    rw[Zt] at hset
    have hzu:=hbu.size
    have hne: ∀x,x≠g5->(u.setCells g5 10 [.slice q.d q.n q.c]).heap[x]? =u.heap[x]? :=fun x hx=>B5 _ _ _ (fun e=>hx e)
    rw[hmid]
    have hq0:=hLe
    obtain⟨gq,hqd,hgq,hqi,_,_⟩:=hLe
    refine⟨⟨m.pa,m.pc,q.d,q.c⟩,h9.to ⟨rfl,rfl,rfl,rfl,trivial⟩, ?_,C8 _ _ _ (hbv.trans (hbu.mono hzv)) Zo, ?_⟩
    ·rw[hqn,show k'.len=d.k.len by rw[hd]]
     exact hset
    ·have hTu: ∀b,T' b->b<w4.heap.size->(u.setCells g5 10 [.slice q.d q.n q.c]).heap[b]? =w4.heap[b]? /\T' b:=fun b hb hl=>⟨(hne b (by have:=hTl b hb;omega)).trans ((hbu.block b Zo).trans (hbv.block b hl)),hb⟩
     refine⟨?_, ?_, ?_,by show k'.len<=q.c;omega, ?_,fun e=>absurd h8 e,fun _=>hq0.keep (fun b hb hl=>⟨hne b Zo,Zo,fun e=>by have:=(hol b e).2;omega⟩) (fun b hb hl=>⟨hne b (by have:=hTl b hb.1;omega),hb.1⟩)⟩
     ·rw[hm]
      exact hdd.path.keep (fun b hb hl=>(hTu b hb hl).1) (fun b hb _=>hb)
     ·rw[hm]
      exact hdd.pcLe
     ·rw[hm]
      exact hdd.pcMax
     ·show capOk q.d q.c
      rw[hqd]
      exact capOk.some (by have:=hqc;unfold maxLen at this;omega)
   ·refine Zs (Be0 (k:=d.h.kind) (b18:=false) h6 rfl hl1 (decide_eq_false Zo) fun a7 h7=>B9 (h7.look 18 rfl) ⟨rfl, ?_⟩)
    rw[hmid]
    refine⟨m,h7.to ⟨rfl,rfl,rfl,rfl,trivial⟩,hD,hbv, ?_⟩
    have hdv:DatAt v T' h' k' pa pc ja jc:=DatAt.keep hdd (fun b hb hl=>(hTv b hb hl).1) (fun b hb _=>hb)
    rw[hm]
    exact⟨hdv.path,hdv.pcLe,hdv.pcMax,hdv.icLe,hdv.icMax,fun _=>hdv.kids,fun e=>absurd e h8⟩
 ·refine wp_seq (Zs (Bd9 (ln:=l.len) (b9:=false) h4 rfl rfl (decide_eq_false Zo) fun a5 h5=>C9 (h5.look 9 rfl) ?_))
  refine A8 (A8 (B8 ?_))
  obtain rfl:i=l.len:=by omega
  obtain⟨s',w6,e1,e2,hW⟩:=Dk6 hR4 Zo hz4 mkC rfl (by simp[Value.oneCell'])
  refine Zs (Dh9 (C0:=fun _ s z=>s=s'/\z=w6) h5 rfl (fun ty=>⟨s',w6,e1 ty,rfl,rfl⟩) fun a6 s z hq h6=> ?_)
  obtain⟨rfl,rfl⟩:=hq
  have hon: ∀b,b<w.heap.size->o.v.ownBlock≠some b:=fun b hb e=>by have:=(hol b e).1;omega
  rcases ARow.cases e2 with⟨_,q2,_⟩ | ⟨g,cs,q1,q2,q3,q4,q5,q6,q7,q8⟩
  ·omega
  ·have h6:Sl 39 a6 [(3,.slice (some ⟨g,0,none⟩) (l.len+2) s.c),(0,.slice ia l.len lc)]:=by
    rw[q1] at h6
    exact h6.to ⟨rfl,rfl,trivial⟩
   refine Zs (Bv8 h6 rfl rfl (fun w=>Be6 Zo w) fun a7 h7=>wp_ret ?_)
   refine G7 rfl h7 rfl ⟨⟨some ⟨g,0,none⟩,l.len,s.c⟩,rfl,rfl,q6,⟨g,rfl,q3,by show l.len+2<=s.c;omega,LnAt.of_get l g 0 fun j hh kk e=> ?_, ?_⟩,hb4.trans (hW.bel (fun g hg=>(hol g hg).1) hz4)⟩
   ·have hjl:=Fo.get_len _ _ _ e
    obtain⟨mj,r1,r2⟩:=hE j hh kk hjl e
    refine⟨mj,Ao7 q4 q8 ?_,r2.keep (fun b hb hl=>⟨hW.blk hl hb.2,hb.1⟩) (fun b hb hl=>⟨hW.blk hl (hon b (hTl b hb)),hb⟩)⟩
    rw[Nat.zero_add,List.drop_append_of_le_length Zo,List.take_append_of_le_length (by rw[List.length_drop];omega)]
    exact r1
   ·have hmk: ∀(j:Nat) (v:Value),mkC.toList[j]? =some v->z.cell? ⟨g,l.len*11+j,none⟩=some v:=fun j v hv=>by
     have hj:=(List.getElem?_eq_some_iff.1 hv).1
     have hj:j<22:=hj
     rw[q4.cell,<-Array.getElem?_toList]
     have:(cs.toList.take ((l.len+2)*11))[l.len*11+j]? =some v:=by
      rw[q8,List.getElem?_append_right Zo,hxl,Nat.add_sub_cancel_left]
      exact hv
     rw[List.getElem?_take_of_lt Zo] at this
     exact this
    exact⟨hmk 2 _ rfl,hmk 13 _ rfl⟩
theorem Ht: ∀(f:Fo),∀i a k,f.get i=some (a,k)->Ao8 k
 | .nil,i,_,_,e=>by cases e
 | .cons h k r,0,a,k',e=>by
  simp only[Fo.get,Option.some.injEq,Prod.mk.injEq] at e
  obtain⟨rfl,rfl⟩:=e
  exact Zu k (Ht k)
 | .cons h k r,i+1,a,k',e=>Ht r i a k' e
theorem Ao9(l:Fo):Ao8 l:=Zu l (Ht l)
end Go.Proofs.YtbjegfpfmnleeaaGreatDoor
namespace Go.Proofs.YtbjegfpfmnleeaaGreatDoor
open Go.RowKit Go.Sort
set_option maxRecDepth 100000
variable {a:Act} {w:World} {df:List Deferred} {N:Act->World->Prop} {Q:Exit->Act->World->Prop} {l:List (Nat×Value)}
variable {C0:World->Prop} {C1:World->S3->World->Prop} {ac an bc bn dc dn g250 g257 gh go gp i k lc ln nc nn o250 o257 oc on pc pn qc qn rc rn sc sn tc tn vc vn wp xc xn yc yn:Nat} {ad bd dd ld nd od pd qd rd sd td vd xd yd:Option Addr} {b:Bool} {n u:Int}
theorem Rx{g38 o38 g43 o43:Nat}{x0 y0 x1 y1 x3 y3:Int}{b88:Bool}(hs:Sl 109 a l df)(e0:Lk l 0 (.slice ad an ac))(e6:Lk l 6 (ii (i:Int)))(e1:Lk l 1 (.slice ld ln lc))(i0:Ix 23 (.slice ad an ac) (ii (i:Int)) (pF g38 o38))(l1:Lp 3 (pF g38 (o38+0)) (ii x0) w)(i2:Ix 23 (.slice ld ln lc) (ii (i:Int)) (pF g43 o43))(l3:Lp 3 (pF g43 (o43+0)) (ii y0) w)(h4:decide (x0≠y0)=false)(l5:Lp 3 (pF g38 (o38+5+0)) (ii x1) w)(l6:Lp 3 (pF g43 (o43+5+0)) (ii y1) w)(h7:decide (x1≠y1)=false)(l8:Lp 23 (pF g38 (o38+10)) (.slice sd sn sc) w)(l9:Lp 23 (pF g43 (o43+10)) (.slice td tn tc) w)(h10:decide ((sn:Int)≠(tn:Int))=false)(l11:Lp 3 (pF g38 (o38+2)) (ii x3) w)(l12:Lp 3 (pF g43 (o43+2)) (ii y3) w)(h13:decide (x3≠y3)=b88)
  (hN: ∀a' mm,Sl 109 a' ((89,.bool b88)::A6 (List.range' 36 54) l) df->N a' (w.drewN mm)):Rg N Q a w (M5 7):=
 Ao [89] (List.range' 36 54) [.val (pF g38 o38),.val (ii x0),.val (pF g43 o43),.val (ii y0),.bit false,.val (pF g38 o38),.val (ii x1),.val (pF g43 o43),.val (ii y1),.bit false,.val (pF g38 o38),.val (.slice sd sn sc),.val (pF g43 o43),.val (.slice td tn tc),.bit false,.val (pF g38 o38),.val (ii x3),.val (pF g43 o43),.val (ii y3),.bit b88] hs (Zc e0<|Zc e6<|Zc e1 Zz) (aI i0 (aI l1 (aI i2 (aI l3 (aI h4 (aI i0 (aI l5 (aI i2 (aI l6 (aI h7 (aI i0 (aI l8 (aI i2 (aI l9 (aI h10 (aI i0 (aI l11 (aI i2 (aI l12 (aI h13 hN)))))))))))))))))))) Zk
noncomputable def D3 (n:Nat):Code:=((Tryz.f3.body.bind (D4 n)).getD .skip)
noncomputable def Bz1:Code:=(.seq (.seq (D3 38) (.cond (.tmp 243) .skip (.exit 2))) (.seq (.block 3 (D3 40)) (D3 39)))
noncomputable def Bz2:Code:=(.seq (.seq (D3 33) (.cond (.tmp 225) .skip (.exit 0))) (.seq (.block 1 (.seq (D3 35) (.seq (D3 36) (.seq (.seq (D3 37) (.block 2 (.loop Bz1))) (.seq (D3 41) (.seq (D3 42) (.cond (.tmp 283) (.seq (D3 43) .ret) .skip))))))) (D3 34)))
noncomputable def Aa7:Code:=(.seq (D3 0) (.seq (D3 1) (.seq (D3 2) (.seq (D3 3) (.seq (.seq (D3 4) (.cond (.tmp 58) (.seq (D3 5) .ret) .skip)) (.seq (D3 6) (.seq (.seq (D3 7) (.cond (.tmp 71) (.seq (D3 8) .ret) .skip)) (.seq (D3 9) (.seq (D3 10) (.seq (D3 11) (.seq (D3 12) (.seq (D3 13) (.seq (D3 14) (.seq (D3 15) (.seq (D3 16) (.seq (D3 17) (.seq (D3 18) (.seq (D3 19) (.seq (D3 20) (.seq (D3 21) (.seq (D3 22) (.seq (D3 23) (.seq (D3 24) (.seq (D3 25) (.seq (D3 26) (.seq (D3 27) (.seq (D3 28) (.seq (D3 29) (.seq (.seq (D3 30) (.cond (.tmp 218) (.seq (D3 31) .ret) .skip)) (.seq (.seq (D3 32) (.block 0 (.loop Bz2))) (.seq (D3 44) .ret)))))))))))))))))))))))))))))))
theorem Ap6:Tryz.f3.body=some Aa7:=by kernel_rfl
theorem Dk9(hs:Sl 292 a l df)
  (hN: ∀a',Sl 292 a' ((8,.bool false)::A6 [8] l) df->N a' w):Rg N Q a w (D3 0):=
 Zg [8] hs hN
theorem Dl0(hs:Sl 292 a l df)(k0:Cl 6 #[] w (.bool b) C0)
  (hN: ∀a' (w1:World),C0 w1->Sl 292 a' ((9,.bool b)::A6 [9,39] l) df->N a' w1):Rg N Q a w (D3 1):=
 reg [9] [9,39] [.ret (.bool b) C0] hs Zz (aI k0 (fun(w1:World) (hc0:C0 w1)a'=>hN a' w1 hc0)) Zk
theorem Dl1(hs:Sl 292 a l df)(e1:Lk l 1 (.slice ld ln lc))(k0:Cl 7 #[.slice ld ln lc] w (.bool b) C0)
  (hN: ∀a' (w1:World),C0 w1->Sl 292 a' ((10,.bool b)::A6 [10,40,41] l) df->N a' w1):Rg N Q a w (D3 2):=
 reg [10] [10,40,41] [.ret (.bool b) C0] hs (Zc e1 Zz) (aI k0 (fun(w1:World) (hc0:C0 w1)a'=>hN a' w1 hc0)) Zk
theorem Dl2{C0:Nat->World->Prop}(hs:Sl 292 a l df)(e0:Lk l 0 (.slice ad an ac))(k0:Ca 8 #[.slice ad an ac] w fun e w'=> ∃wp:Nat,e=.returned (pT wp)/\C0 wp w')
  (hN: ∀a' (wp:Nat) (w1:World),C0 wp w1->Sl 292 a' ((11,pT wp)::A6 [11,42,43] l) df->N a' w1):Rg N Q a w (D3 3):=
 reg [11] [11,42,43] [.ex (Nat) (fun wp=>pT wp) C0] hs (Zc e0 Zz) (aI k0 (fun(wp:Nat) (w1:World) (hc0:C0 wp w1)a'=>hN a' wp w1 hc0)) Zk
theorem Gc{b57:Bool}(hs:Sl 292 a l df)(e9:Lk l 9 (.bool true))(e11:Lk l 11 (pT wp))(e10:Lk l 10 (.bool true))(e2:Lk l 2 (.slice bd bn bc))(h0: ∀w,(binOp .eql 27 (pT wp) (.pointer none)).run Tryz.prog w=.ok (.bool false) w)(h1:decide ((60:Int)<(bn:Int))=b57)
  (hN: ∀a',Sl 292 a' ((58,.bool b57)::A6 (List.range' 44 15) l) df->N a' w):Rg N Q a w (D3 4):=
 reg [58] (List.range' 44 15) [.bin (.bool false),.bit b57] hs (Zc e9<|Zc e11<|Zc e10<|Zc e2 Zz) (aI (G4 (x:=.tmp 47) (y:=.const (.pointer none)) Zk (h0 w)) (aI h1 hN)) Zk
theorem Ry(hs:Sl 292 a l df)(e9:Lk l 9 (.bool true))(e11:Lk l 11 (pT wp))(e10:Lk l 10 (.bool false))(h0: ∀w,(binOp .eql 27 (pT wp) (.pointer none)).run Tryz.prog w=.ok (.bool false) w)
  (hN: ∀a',Sl 292 a' ((58,.bool true)::A6 (List.range' 44 15) l) df->N a' w):Rg N Q a w (D3 4):=
 reg [58] (List.range' 44 15) [.bin (.bool false)] hs (Zc e9<|Zc e11<|Zc e10 Zz) (aI (G4 (x:=.tmp 47) (y:=.const (.pointer none)) Zk (h0 w)) hN) Zk
theorem Pq{b62:Bool}(hs:Sl 292 a l df)(e9:Lk l 9 (.bool true))(e11:Lk l 11 (pT wp))(h0: ∀w,(binOp .neq 27 (pT wp) (.pointer none)).run Tryz.prog w=.ok (.bool b62) w)
  (hN: ∀a',Sl 292 a' ((8,.bool b62)::A6 [8,59,60,61,62,63] l) df->N a' w):Rg N Q a w (D3 5):=
 reg [8] [8,59,60,61,62,63] [.bin (.bool b62)] hs (Zc e9<|Zc e11 Zz) (aI (G4 (x:=.tmp 61) (y:=.const (.pointer none)) Zk (h0 w)) hN) Zk
theorem Dl3{C0:Nat->World->Prop}(hs:Sl 292 a l df)(e11:Lk l 11 (pT wp))(k0:Ca 9 #[pT wp] w fun e w'=> ∃gp:Nat,e=.returned (pT gp)/\C0 gp w')
  (hN: ∀a' (gp:Nat) (w1:World),C0 gp w1->Sl 292 a' ((12,pT gp)::A6 [12,64,65] l) df->N a' w1):Rg N Q a w (D3 6):=
 reg [12] [12,64,65] [.ex (Nat) (fun gp=>pT gp) C0] hs (Zc e11 Zz) (aI k0 (fun(gp:Nat) (w1:World) (hc0:C0 gp w1)a'=>hN a' gp w1 hc0)) Zk
theorem Dl4{b71:Bool}(hs:Sl 292 a l df)(e12:Lk l 12 (pT gp))(l0:Lp 24 (pT gp) (.slice nd nn nc) w)(h1:decide ((80:Int)<(nn:Int))=b71)
  (hN: ∀a',Sl 292 a' ((71,.bool b71)::A6 [66,67,68,69,70,71] l) df->N a' w):Rg N Q a w (D3 7):=
 reg [71] [66,67,68,69,70,71] [.val (.slice nd nn nc),.bit b71] hs (Zc e12 Zz) (aI l0.run (aI h1 hN)) Zk
theorem Dl5{tz:Int}{en ec n:Nat}{ed:Option Addr}(hs:Sl 292 a l df)(e3:Lk l 3 (ii tz))(e11:Lk l 11 (pT wp))(l0:Lp 23 (pF wp 1) (.slice ed en ec) w)(h1: -9223372036854775808<=(en:Int)+2/\(en:Int)+2<=9223372036854775807)(k2:Cl 10 #[ii tz,ii ((en:Int)+2)] w (ii (n:Int)) C0)
  (hN: ∀a' (w1:World),C0 w1->Sl 292 a' ((13,ii (n:Int))::A6 (13::List.range' 72 8) l) df->N a' w1):Rg N Q a w (D3 9):=
 reg [13] (13::List.range' 72 8) [.val (.slice ed en ec),.ari,.ret (ii (n:Int)) C0] hs (Zc e3<|Zc e11 Zz) (aI l0.run (aI h1 (aI k2 (fun(w1:World) (hc0:C0 w1)a'=>hN a' w1 hc0)))) Zk
theorem Bz3{C0:S3->World->Prop}(hs:Sl 292 a l df)(e1:Lk l 1 (.slice ld ln lc))(k0:Ca 11 #[.slice ld ln lc] w fun e w'=> ∃q:S3,e=.returned (.slice q.d q.n q.c)/\C0 q w')
  (hN: ∀a' (q:S3) (w1:World),C0 q w1->Sl 292 a' ((14,.slice q.d q.n q.c)::A6 [14,80,81] l) df->N a' w1):Rg N Q a w (D3 10):=
 reg [14] [14,80,81] [.ex (S3) (fun q=>.slice q.d q.n q.c) C0] hs (Zc e1 Zz) (aI k0 (fun(q:S3) (w1:World) (hc0:C0 q w1)a'=>hN a' q w1 hc0)) Zk
theorem Bz4{C0:World->S3->World->Prop}(hs:Sl 292 a l df)(e2:Lk l 2 (.slice bd bn bc))(k0: ∀ty,∃v w',(Builtin.append_ #[24,24] ty #[.slice (some ⟨w.heap.size,0,none⟩) 0 0,.slice bd bn bc]).run Tryz.prog (w.alloc (.cells #[] 3))=.ok v.v w'/\C0 (w.alloc (.cells #[] 3)) v w')(k1: ∀(x84:S3) (w1:World),C0 (w.alloc (.cells #[] 3)) x84 w1->∀ty,∃v w',(Builtin.append_ #[24,24] ty #[.slice x84.d x84.n x84.c,.slice (some ⟨w1.heap.size,0,none⟩) 2 2]).run Tryz.prog (w1.alloc (.cells #[ii (-71),ii (-72)] 3))=.ok v.v w'/\C1 (w1.alloc (.cells #[ii (-71),ii (-72)] 3)) v w')
  (hN: ∀a' (x84:S3) (w1:World) (x86:S3) (w2:World),C0 (w.alloc (.cells #[] 3)) x84 w1->C1 (w1.alloc (.cells #[ii (-71),ii (-72)] 3)) x86 w2->Sl 292 a' ((15,.slice x86.d x86.n x86.c)::A6 [15,82,83,84,85,86] l) df->N a' w2):Rg N Q a w (D3 11):=
 reg [15] [15,82,83,84,85,86] [.raw,.apxw S3 S3.v C0,.raw,.apxw S3 S3.v C1] hs (Zc e2 Zz) (aI k0 (fun(x84:S3) (w1:World) (hc0:C0 (w.alloc (.cells #[] 3)) x84 w1)=>(aI (k1 x84 w1 hc0) (fun(x86:S3) (w2:World) (hc1:C1 (w1.alloc (.cells #[ii (-71),ii (-72)] 3)) x86 w2)a'=>hN a' x84 w1 x86 w2 hc0 hc1)))) Zk
theorem Bz5{d90:Option Addr}{n90 q90:Nat}(hs:Sl 292 a l df)(e15:Lk l 15 (.slice vd vn vc))(e2:Lk l 2 (.slice bd bn bc))(i0: ∀w,(Instr.sliceAt 24 (.slice vd vn vc) none (some (ii (bn:Int))) none).run Tryz.prog w=.ok (.slice d90 n90 q90) w)
  (hN: ∀a',Sl 292 a' ((16,.slice d90 n90 q90)::A6 [16,87,88,89,90] l) df->N a' w):Rg N Q a w (D3 12):=
 reg [16] [16,87,88,89,90] [.val (.slice d90 n90 q90)] hs (Zc e15<|Zc e2 Zz) (aI (i0 w) hN) Zk
theorem Bz6{C0:S3->World->Prop}(hs:Sl 292 a l df)(e11:Lk l 11 (pT wp))(e14:Lk l 14 (.slice dd dn dc))(e16:Lk l 16 (.slice od on oc))(l0:Lp 35 (pT wp) (pT gh) w)(k1:Ca 12 #[pT gh,.slice dd dn dc,.slice od on oc] w fun e w'=> ∃q:S3,e=.returned (.slice q.d q.n q.c)/\C0 q w')
  (hN: ∀a' (q:S3) (w1:World),C0 q w1->Sl 292 a' ((17,.slice q.d q.n q.c)::A6 (17::List.range' 91 7) l) df->N a' w1):Rg N Q a w (D3 13):=
 reg [17] (17::List.range' 91 7) [.val (pT gh),.ex (S3) (fun q=>.slice q.d q.n q.c) C0] hs (Zc e11<|Zc e14<|Zc e16 Zz) (aI l0.run (aI k1 (fun(q:S3) (w1:World) (hc0:C0 q w1)a'=>hN a' q w1 hc0))) Zk
theorem Bz7{C0:S3->World->Prop}(hs:Sl 292 a l df)(e11:Lk l 11 (pT wp))(e14:Lk l 14 (.slice dd dn dc))(e16:Lk l 16 (.slice od on oc))(l0:Lp 35 (pT wp) (pT gh) w)(k1:Ca 12 #[pT gh,.slice dd dn dc,.slice od on oc] w fun e w'=> ∃q:S3,e=.returned (.slice q.d q.n q.c)/\C0 q w')
  (hN: ∀a' (q:S3) (w1:World),C0 q w1->Sl 292 a' ((18,.slice q.d q.n q.c)::A6 (18::List.range' 98 7) l) df->N a' w1):Rg N Q a w (D3 14):=
 reg [18] (18::List.range' 98 7) [.val (pT gh),.ex (S3) (fun q=>.slice q.d q.n q.c) C0] hs (Zc e11<|Zc e14<|Zc e16 Zz) (aI l0.run (aI k1 (fun(q:S3) (w1:World) (hc0:C0 q w1)a'=>hN a' q w1 hc0))) Zk
theorem Bz8{C0:S3->World->Prop}(hs:Sl 292 a l df)(e11:Lk l 11 (pT wp))(e14:Lk l 14 (.slice dd dn dc))(e16:Lk l 16 (.slice od on oc))(e13:Lk l 13 (ii (go:Int)))(l0:Lp 35 (pT wp) (pT gh) w)(k1:Ca 13 #[pT gh,.slice dd dn dc,.slice od on oc,ii (go:Int)] w fun e w'=> ∃q:S3,e=.returned (.slice q.d q.n q.c)/\C0 q w')
  (hN: ∀a' (q:S3) (w1:World),C0 q w1->Sl 292 a' ((19,.slice q.d q.n q.c)::A6 (19::List.range' 105 8) l) df->N a' w1):Rg N Q a w (D3 15):=
 reg [19] (19::List.range' 105 8) [.val (pT gh),.ex (S3) (fun q=>.slice q.d q.n q.c) C0] hs (Zc e11<|Zc e14<|Zc e16<|Zc e13 Zz) (aI l0.run (aI k1 (fun(q:S3) (w1:World) (hc0:C0 q w1)a'=>hN a' q w1 hc0))) Zk
theorem Bz9{C0:S3->World->Prop}(hs:Sl 292 a l df)(e11:Lk l 11 (pT wp))(e14:Lk l 14 (.slice dd dn dc))(e16:Lk l 16 (.slice od on oc))(e13:Lk l 13 (ii (go:Int)))(l0:Lp 35 (pT wp) (pT gh) w)(k1:Ca 13 #[pT gh,.slice dd dn dc,.slice od on oc,ii (go:Int)] w fun e w'=> ∃q:S3,e=.returned (.slice q.d q.n q.c)/\C0 q w')
  (hN: ∀a' (q:S3) (w1:World),C0 q w1->Sl 292 a' ((20,.slice q.d q.n q.c)::A6 (20::List.range' 113 8) l) df->N a' w1):Rg N Q a w (D3 16):=
 reg [20] (20::List.range' 113 8) [.val (pT gh),.ex (S3) (fun q=>.slice q.d q.n q.c) C0] hs (Zc e11<|Zc e14<|Zc e16<|Zc e13 Zz) (aI l0.run (aI k1 (fun(q:S3) (w1:World) (hc0:C0 q w1)a'=>hN a' q w1 hc0))) Zk
theorem Ca0{C0:S3->World->Prop}(hs:Sl 292 a l df)(e12:Lk l 12 (pT gp))(e1:Lk l 1 (.slice ld ln lc))(e2:Lk l 2 (.slice bd bn bc))(k0:Ca 14 #[pT gp,.slice ld ln lc,.slice bd bn bc] w fun e w'=> ∃q:S3,e=.returned (.slice q.d q.n q.c)/\C0 q w')
  (hN: ∀a' (q:S3) (w1:World),C0 q w1->Sl 292 a' ((21,.slice q.d q.n q.c)::A6 [21,121,122,123,124] l) df->N a' w1):Rg N Q a w (D3 17):=
 reg [21] [21,121,122,123,124] [.ex (S3) (fun q=>.slice q.d q.n q.c) C0] hs (Zc e12<|Zc e1<|Zc e2 Zz) (aI k0 (fun(q:S3) (w1:World) (hc0:C0 q w1)a'=>hN a' q w1 hc0)) Zk
theorem Ca1{C0:S3->World->Prop}(hs:Sl 292 a l df)(e12:Lk l 12 (pT gp))(e1:Lk l 1 (.slice ld ln lc))(e2:Lk l 2 (.slice bd bn bc))(e13:Lk l 13 (ii (go:Int)))(k0:Ca 15 #[pT gp,.slice ld ln lc,.slice bd bn bc,ii (go:Int)] w fun e w'=> ∃q:S3,e=.returned (.slice q.d q.n q.c)/\C0 q w')
  (hN: ∀a' (q:S3) (w1:World),C0 q w1->Sl 292 a' ((22,.slice q.d q.n q.c)::A6 [22,125,126,127,128,129] l) df->N a' w1):Rg N Q a w (D3 18):=
 reg [22] [22,125,126,127,128,129] [.ex (S3) (fun q=>.slice q.d q.n q.c) C0] hs (Zc e12<|Zc e1<|Zc e2<|Zc e13 Zz) (aI k0 (fun(q:S3) (w1:World) (hc0:C0 q w1)a'=>hN a' q w1 hc0)) Zk
theorem Ca2(hs:Sl 292 a l df)(e17:Lk l 17 (.slice pd pn pc))(e21:Lk l 21 (.slice xd xn xc))(k0:Cl 16 #[.slice pd pn pc,.slice xd xn xc] w (.bool b) C0)
  (hN: ∀a' (w1:World),C0 w1->Sl 292 a' ((23,.bool b)::A6 [23,130,131,132] l) df->N a' w1):Rg N Q a w (D3 19):=
 reg [23] [23,130,131,132] [.ret (.bool b) C0] hs (Zc e17<|Zc e21 Zz) (aI k0 (fun(w1:World) (hc0:C0 w1)a'=>hN a' w1 hc0)) Zk
theorem Ca3(hs:Sl 292 a l df)(e18:Lk l 18 (.slice qd qn qc))(e21:Lk l 21 (.slice xd xn xc))(k0:Cl 16 #[.slice qd qn qc,.slice xd xn xc] w (.bool b) C0)
  (hN: ∀a' (w1:World),C0 w1->Sl 292 a' ((24,.bool b)::A6 [24,133,134,135] l) df->N a' w1):Rg N Q a w (D3 20):=
 reg [24] [24,133,134,135] [.ret (.bool b) C0] hs (Zc e18<|Zc e21 Zz) (aI k0 (fun(w1:World) (hc0:C0 w1)a'=>hN a' w1 hc0)) Zk
theorem Ca4(hs:Sl 292 a l df)(e19:Lk l 19 (.slice rd rn rc))(e22:Lk l 22 (.slice yd yn yc))(k0:Cl 16 #[.slice rd rn rc,.slice yd yn yc] w (.bool b) C0)
  (hN: ∀a' (w1:World),C0 w1->Sl 292 a' ((25,.bool b)::A6 [25,136,137,138] l) df->N a' w1):Rg N Q a w (D3 21):=
 reg [25] [25,136,137,138] [.ret (.bool b) C0] hs (Zc e19<|Zc e22 Zz) (aI k0 (fun(w1:World) (hc0:C0 w1)a'=>hN a' w1 hc0)) Zk
theorem Ca5(hs:Sl 292 a l df)(e20:Lk l 20 (.slice sd sn sc))(e22:Lk l 22 (.slice yd yn yc))(k0:Cl 16 #[.slice sd sn sc,.slice yd yn yc] w (.bool b) C0)
  (hN: ∀a' (w1:World),C0 w1->Sl 292 a' ((26,.bool b)::A6 [26,139,140,141] l) df->N a' w1):Rg N Q a w (D3 22):=
 reg [26] [26,139,140,141] [.ret (.bool b) C0] hs (Zc e20<|Zc e22 Zz) (aI k0 (fun(w1:World) (hc0:C0 w1)a'=>hN a' w1 hc0)) Zk
theorem Ca6(hs:Sl 292 a l df)(e17:Lk l 17 (.slice pd pn pc))(e18:Lk l 18 (.slice qd qn qc))(k0:Cl 17 #[.slice pd pn pc,.slice qd qn qc] w (.bool b) C0)
  (hN: ∀a' (w1:World),C0 w1->Sl 292 a' ((27,.bool b)::A6 [27,142,143,144] l) df->N a' w1):Rg N Q a w (D3 23):=
 reg [27] [27,142,143,144] [.ret (.bool b) C0] hs (Zc e17<|Zc e18 Zz) (aI k0 (fun(w1:World) (hc0:C0 w1)a'=>hN a' w1 hc0)) Zk
theorem Ca7(hs:Sl 292 a l df)(e19:Lk l 19 (.slice rd rn rc))(e20:Lk l 20 (.slice sd sn sc))(k0:Cl 17 #[.slice rd rn rc,.slice sd sn sc] w (.bool b) C0)
  (hN: ∀a' (w1:World),C0 w1->Sl 292 a' ((28,.bool b)::A6 [28,145,146,147] l) df->N a' w1):Rg N Q a w (D3 24):=
 reg [28] [28,145,146,147] [.ret (.bool b) C0] hs (Zc e19<|Zc e20 Zz) (aI k0 (fun(w1:World) (hc0:C0 w1)a'=>hN a' w1 hc0)) Zk
theorem Ca8(hs:Sl 292 a l df)(e11:Lk l 11 (pT wp))(e14:Lk l 14 (.slice dd dn dc))(e16:Lk l 16 (.slice od on oc))(l0:Lp 35 (pT wp) (pT gh) w)(k1:Cl 18 #[pT gh,.slice dd dn dc,.slice od on oc] w (ii n) C0)
  (hN: ∀a' (w1:World),C0 w1->Sl 292 a' ((29,ii n)::A6 (29::List.range' 148 7) l) df->N a' w1):Rg N Q a w (D3 25):=
 reg [29] (29::List.range' 148 7) [.val (pT gh),.ret (ii n) C0] hs (Zc e11<|Zc e14<|Zc e16 Zz) (aI l0.run (aI k1 (fun(w1:World) (hc0:C0 w1)a'=>hN a' w1 hc0))) Zk
theorem Ca9{C0:S3->World->Prop}(hs:Sl 292 a l df)(e11:Lk l 11 (pT wp))(l0:Lp 35 (pT wp) (pT gh) w)(k1:Ca 19 #[pT gh] w fun e w'=> ∃q:S3,e=.returned (.slice q.d q.n q.c)/\C0 q w')
  (hN: ∀a' (q:S3) (w1:World),C0 q w1->Sl 292 a' ((30,.slice q.d q.n q.c)::A6 [30,155,156,157,158,159] l) df->N a' w1):Rg N Q a w (D3 26):=
 reg [30] [30,155,156,157,158,159] [.val (pT gh),.ex (S3) (fun q=>.slice q.d q.n q.c) C0] hs (Zc e11 Zz) (aI l0.run (aI k1 (fun(q:S3) (w1:World) (hc0:C0 q w1)a'=>hN a' q w1 hc0))) Zk
theorem Cb0{zd:Option Addr}{zn zc:Nat}(hs:Sl 292 a l df)(e30:Lk l 30 (.slice zd zn zc))(e21:Lk l 21 (.slice xd xn xc))(k0:Cl 16 #[.slice zd zn zc,.slice xd xn xc] w (.bool b) C0)
  (hN: ∀a' (w1:World),C0 w1->Sl 292 a' ((31,.bool b)::A6 [31,160,161,162] l) df->N a' w1):Rg N Q a w (D3 27):=
 reg [31] [31,160,161,162] [.ret (.bool b) C0] hs (Zc e30<|Zc e21 Zz) (aI k0 (fun(w1:World) (hc0:C0 w1)a'=>hN a' w1 hc0)) Zk
theorem Cb1(hs:Sl 292 a l df)(e14:Lk l 14 (.slice dd dn dc))(e1:Lk l 1 (.slice ld ln lc))(k0:Cl 20 #[.slice dd dn dc,.slice ld ln lc] w (.bool b) C0)
  (hN: ∀a' (w1:World),C0 w1->Sl 292 a' ((32,.bool b)::A6 [32,163,164,165] l) df->N a' w1):Rg N Q a w (D3 28):=
 reg [32] [32,163,164,165] [.ret (.bool b) C0] hs (Zc e14<|Zc e1 Zz) (aI k0 (fun(w1:World) (hc0:C0 w1)a'=>hN a' w1 hc0)) Zk
theorem Cb2{C0:World->S3->World->Prop}{C2:World->Prop}(hs:Sl 292 a l df)(e15:Lk l 15 (.slice vd vn vc))(e2:Lk l 2 (.slice bd bn bc))(k0: ∀ty,∃v w',(Builtin.append_ #[24,24] ty #[.slice (some ⟨w.heap.size,0,none⟩) 0 0,.slice bd bn bc]).run Tryz.prog (w.alloc (.cells #[] 3))=.ok v.v w'/\C0 (w.alloc (.cells #[] 3)) v w')(k1: ∀(x169:S3) (w1:World),C0 (w.alloc (.cells #[] 3)) x169 w1->∀ty,∃v w',(Builtin.append_ #[24,24] ty #[.slice x169.d x169.n x169.c,.slice (some ⟨w1.heap.size,0,none⟩) 2 2]).run Tryz.prog (w1.alloc (.cells #[ii (-71),ii (-72)] 3))=.ok v.v w'/\C1 (w1.alloc (.cells #[ii (-71),ii (-72)] 3)) v w')(k2: ∀(x169:S3) (w1:World),C0 (w.alloc (.cells #[] 3)) x169 w1->∀(x171:S3) (w2:World),C1 (w1.alloc (.cells #[ii (-71),ii (-72)] 3)) x171 w2->Cl 16 #[.slice vd vn vc,.slice x171.d x171.n x171.c] w2 (.bool b) C2)
  (hN: ∀a' (x169:S3) (w1:World) (x171:S3) (w2:World) (w3:World),C0 (w.alloc (.cells #[] 3)) x169 w1->C1 (w1.alloc (.cells #[ii (-71),ii (-72)] 3)) x171 w2->C2 w3->Sl 292 a' ((33,.bool b)::A6 (33::List.range' 166 7) l) df->N a' w3):Rg N Q a w (D3 29):=
 reg [33] (33::List.range' 166 7) [.raw,.apxw S3 S3.v C0,.raw,.apxw S3 S3.v C1,.ret (.bool b) C2] hs (Zc e15<|Zc e2 Zz) (aI k0 (fun(x169:S3) (w1:World) (hc0:C0 (w.alloc (.cells #[] 3)) x169 w1)=>(aI (k1 x169 w1 hc0) (fun(x171:S3) (w2:World) (hc1:C1 (w1.alloc (.cells #[ii (-71),ii (-72)] 3)) x171 w2)=>(aI (k2 x169 w1 hc0 x171 w2 hc1) (fun(w3:World) (hc2:C2 w3)a'=>hN a' x169 w1 x171 w2 w3 hc0 hc1 hc2)))))) Zk
theorem Ai{mn:Int}{b217:Bool}(hs:Sl 292 a l df)(e23:Lk l 23 (.bool true))(e24:Lk l 24 (.bool true))(e25:Lk l 25 (.bool true))(e26:Lk l 26 (.bool true))(e27:Lk l 27 (.bool true))(e28:Lk l 28 (.bool true))(e31:Lk l 31 (.bool true))(e32:Lk l 32 (.bool true))(e33:Lk l 33 (.bool true))(e29:Lk l 29 (ii mn))(e12:Lk l 12 (pT gp))(e21:Lk l 21 (.slice xd xn xc))(l0:Lp 24 (pT gp) (.slice nd nn nc) w)(h1: -9223372036854775808<=(nn:Int)-(xn:Int)/\(nn:Int)-(xn:Int)<=9223372036854775807)(h2:decide (mn≠((nn:Int)-(xn:Int)))=b217)
  (hN: ∀a',Sl 292 a' ((218,.bool b217)::A6 (List.range' 173 46) l) df->N a' w):Rg N Q a w (D3 30):=
 reg [218] (List.range' 173 46) [.val (.slice nd nn nc),.ari,.bit b217] hs (Zc e23<|Zc e24<|Zc e25<|Zc e26<|Zc e27<|Zc e28<|Zc e31<|Zc e32<|Zc e33<|Zc e29<|Zc e12<|Zc e21 Zz) (aI l0.run (aI h1 (aI h2 hN))) Zk
theorem Cb3(hs:Sl 292 a l df)
  (hN: ∀a',Sl 292 a' ((34,ii 0)::A6 [34] l) df->N a' w):Rg N Q a w (D3 32):=
 Zg [34] hs hN
theorem Aa8{b225:Bool}(hs:Sl 292 a l df)(e34:Lk l 34 (ii (i:Int)))(e12:Lk l 12 (pT gp))(l0:Lp 24 (pT gp) (.slice nd nn nc) w)(h1:decide ((i:Int)<(nn:Int))=b225)
  (hN: ∀a',Sl 292 a' ((225,.bool b225)::A6 (List.range' 219 7) l) df->N a' w):Rg N Q a w (D3 33):=
 reg [225] (List.range' 219 7) [.val (.slice nd nn nc),.bit b225] hs (Zc e34<|Zc e12 Zz) (aI l0.run (aI h1 hN)) Zk
theorem Cb4(hs:Sl 292 a l df)(e34:Lk l 34 (ii (i:Int)))(h0: -9223372036854775808<=(i:Int)+1/\(i:Int)+1<=9223372036854775807)
  (hN: ∀a',Sl 292 a' ((34,ii ((i:Int)+1))::A6 [34,226,227] l) df->N a' w):Rg N Q a w (D3 34):=
 reg [34] [34,226,227] [.ari] hs (Zc e34 Zz) (aI h0 hN) Zk
theorem Cb5{C:World->Prop}{g237 o237:Nat}{C0:S3->World->Prop}(hs:Sl 292 a l df)(e11:Lk l 11 (pT wp))(e12:Lk l 12 (pT gp))(e34:Lk l 34 (ii (i:Int)))(c0:C (w.drewN 1))(l1: ∀u,C u->Lp 35 (pT wp) (pT gh) u)(l2: ∀u,C u->Lp 24 (pT gp) (.slice nd nn nc) u)(i3:Ix 24 (.slice nd nn nc) (ii (i:Int)) (pF g237 o237))(l4: ∀u,C u->Lp 3 (pF g237 o237) (ii n) u)(k5:Ca 21 #[pT gh,ii n] (w.drewN 1) fun e w'=> ∃q:S3,e=.returned (.slice q.d q.n q.c)/\C0 q w')
  (hN: ∀a' (q:S3) (w1:World),C0 q w1->Sl 292 a' ((35,.slice q.d q.n q.c)::A6 (35::List.range' 228 12) l) df->N a' w1):Rg N Q a w (D3 35):=
 Sq 11 [(true,0),(true,1),(true,2),(true,3),(true,4),(true,5),(true,6),(true,7),(true,8),(true,9),(true,10)] C [35] (35::List.range' 228 12) [.val (pT gh),.val (.slice nd nn nc),.val (pF g237 o237),.val (ii n),.ex (S3) (fun q=>.slice q.d q.n q.c) C0] hs (Zc e11<|Zc e12<|Zc e34 Zz) (aI c0 (aI c0 (aI c0 (aI c0 (aI (fun u hu=>(l1 u hu).run) (aI c0 (aI c0 (aI c0 (aI c0 (aI (fun u hu=>(l2 u hu).run) (aI c0 (aI c0 (aI i3 (aI c0 (aI (fun u hu=>(l4 u hu).run) (aI c0 (aI k5 (fun(q:S3) (w1:World) (hc0:C0 q w1)a'=>hN a' q w1 hc0)))))))))))))))))) Zk
theorem Cb6(hs:Sl 292 a l df)
  (hN: ∀a',Sl 292 a' ((36,.bool false)::A6 [36] l) df->N a' w):Rg N Q a w (D3 36):=
 Zg [36] hs hN
theorem Cb7(hs:Sl 292 a l df)
  (hN: ∀a',Sl 292 a' ((37,ii 0)::A6 [37] l) df->N a' w):Rg N Q a w (D3 37):=
 Zg [37] hs hN
theorem Aa9{b243:Bool}(hs:Sl 292 a l df)(e37:Lk l 37 (ii (k:Int)))(e21:Lk l 21 (.slice xd xn xc))(h0:decide ((k:Int)<(xn:Int))=b243)
  (hN: ∀a',Sl 292 a' ((243,.bool b243)::A6 [240,241,242,243] l) df->N a' w):Rg N Q a w (D3 38):=
 reg [243] [240,241,242,243] [.bit b243] hs (Zc e37<|Zc e21 Zz) (aI h0 hN) Zk
theorem Cb8(hs:Sl 292 a l df)(e37:Lk l 37 (ii (k:Int)))(h0: -9223372036854775808<=(k:Int)+1/\(k:Int)+1<=9223372036854775807)
  (hN: ∀a',Sl 292 a' ((37,ii ((k:Int)+1))::A6 [37,244,245] l) df->N a' w):Rg N Q a w (D3 39):=
 reg [37] [37,244,245] [.ari] hs (Zc e37 Zz) (aI h0 hN) Zk
theorem Ab0(hs:Sl 292 a l df)(e36:Lk l 36 (.bool true))
  (hN: ∀a' mm,Sl 292 a' ((36,.bool true)::A6 (36::List.range' 246 15) l) df->N a' (w.drewN mm)):Rg N Q a w (D3 40):=
 Ao [36] (36::List.range' 246 15) [] hs (Zc e36 Zz) hN Zk
theorem Rz(hs:Sl 292 a l df)(e36:Lk l 36 (.bool false))(e21:Lk l 21 (.slice xd xn xc))(e37:Lk l 37 (ii (k:Int)))(e12:Lk l 12 (pT gp))(e34:Lk l 34 (ii (i:Int)))(i0:Ix 24 (.slice xd xn xc) (ii (k:Int)) (pF g250 o250))(l1:Lp 3 (pF g250 o250) (ii u) w)(l2:Lp 24 (pT gp) (.slice nd nn nc) w)(i3:Ix 24 (.slice nd nn nc) (ii (i:Int)) (pF g257 o257))(l4:Lp 3 (pF g257 o257) (ii n) w)(h5:decide (u=n)=true)
  (hN: ∀a' mm,Sl 292 a' ((36,.bool true)::A6 (36::List.range' 246 15) l) df->N a' (w.drewN mm)):Rg N Q a w (D3 40):=
 Ao [36] (36::List.range' 246 15) [.val (pF g250 o250),.val (ii u),.val (.slice nd nn nc),.val (pF g257 o257),.val (ii n),.bit true] hs (Zc e36<|Zc e21<|Zc e37<|Zc e12<|Zc e34 Zz) (aI i0 (aI l1 (aI l2 (aI i3 (aI l4 (aI h5 hN)))))) Zk
theorem Sa(hs:Sl 292 a l df)(e36:Lk l 36 (.bool false))(e21:Lk l 21 (.slice xd xn xc))(e37:Lk l 37 (ii (k:Int)))(e12:Lk l 12 (pT gp))(e34:Lk l 34 (ii (i:Int)))(i0:Ix 24 (.slice xd xn xc) (ii (k:Int)) (pF g250 o250))(l1:Lp 3 (pF g250 o250) (ii u) w)(l2:Lp 24 (pT gp) (.slice nd nn nc) w)(i3:Ix 24 (.slice nd nn nc) (ii (i:Int)) (pF g257 o257))(l4:Lp 3 (pF g257 o257) (ii n) w)(h5:decide (u=n)=false)
  (hN: ∀a' mm,Sl 292 a' ((36,.bool false)::A6 (36::List.range' 246 15) l) df->N a' (w.drewN mm)):Rg N Q a w (D3 40):=
 Ao [36] (36::List.range' 246 15) [.val (pF g250 o250),.val (ii u),.val (.slice nd nn nc),.val (pF g257 o257),.val (ii n),.bit false] hs (Zc e36<|Zc e21<|Zc e37<|Zc e12<|Zc e34 Zz) (aI i0 (aI l1 (aI l2 (aI i3 (aI l4 (aI h5 hN)))))) Zk
theorem Cb9{hd jd:Option Addr}{hn hc g267 o267 jn jc:Nat}(hs:Sl 292 a l df)(e35:Lk l 35 (.slice td tn tc))(e12:Lk l 12 (pT gp))(e34:Lk l 34 (ii (i:Int)))(l0:Lp 31 (pF gp 1) (.slice hd hn hc) w)(i1:Ix 31 (.slice hd hn hc) (ii (i:Int)) (pF g267 o267))(l2:Lp 24 (pF g267 o267) (.slice jd jn jc) w)(k3:Cl 16 #[.slice td tn tc,.slice jd jn jc] w (.bool b) C0)
  (hN: ∀a' (w1:World),C0 w1->Sl 292 a' ((38,.bool b)::A6 (38::List.range' 261 9) l) df->N a' w1):Rg N Q a w (D3 41):=
 reg [38] (38::List.range' 261 9) [.val (.slice hd hn hc),.val (pF g267 o267),.val (.slice jd jn jc),.ret (.bool b) C0] hs (Zc e35<|Zc e12<|Zc e34 Zz) (aI l0.run (aI (i1 w) (aI l2.run (aI k3 (fun(w1:World) (hc0:C0 w1)a'=>hN a' w1 hc0))))) Zk
theorem Sb(hs:Sl 292 a l df)(e36:Lk l 36 (.bool true))(e38:Lk l 38 (.bool true))
  (hN: ∀a',Sl 292 a' ((283,.bool false)::A6 (List.range' 270 14) l) df->N a' w):Rg N Q a w (D3 42):=
 reg [283] (List.range' 270 14) [] hs (Zc e36<|Zc e38 Zz) hN Zk
theorem Ab1{b281:Bool}(hs:Sl 292 a l df)(e36:Lk l 36 (.bool false))(e35:Lk l 35 (.slice td tn tc))(h0:decide ((tn:Int)≠0)=b281)
  (hN: ∀a',Sl 292 a' ((283,.bool b281)::A6 (List.range' 270 14) l) df->N a' w):Rg N Q a w (D3 42):=
 reg [283] (List.range' 270 14) [.bit b281] hs (Zc e36<|Zc e35 Zz) (aI h0 hN) Zk
theorem Cc0{b291:Bool}(hs:Sl 292 a l df)(e11:Lk l 11 (pT wp))(e14:Lk l 14 (.slice dd dn dc))(e16:Lk l 16 (.slice od on oc))(l0:Lp 35 (pT wp) (pT gh) w)(k1:Cl 18 #[pT gh,.slice dd dn dc,.slice od on oc] w (ii n) C0)(h2:decide (n=0)=b291)
  (hN: ∀a' (w1:World),C0 w1->Sl 292 a' ((8,.bool b291)::A6 (8::List.range' 284 8) l) df->N a' w1):Rg N Q a w (D3 44):=
 reg [8] (8::List.range' 284 8) [.val (pT gh),.ret (ii n) C0,.bit b291] hs (Zc e11<|Zc e14<|Zc e16 Zz) (aI l0.run (aI k1 (fun(w1:World) (hc0:C0 w1)=>(aI h2 (fun a'=>hN a' w1 hc0))))) Zk
end Go.Proofs.YtbjegfpfmnleeaaGreatDoor
namespace Go.Proofs.YtbjegfpfmnleeaaGreatDoor
open Go.RowKit Go.Maps
set_option maxRecDepth 100000
theorem LeB.dr{w:World}{S T:Nat->Prop}{k:Fo}{ia:Option Addr}{ic:Nat}(h:LeB w S T k ia ic)(n:Nat):LeB (w.drewN n) S T k ia ic:=h.keep (fun _ hb _=>⟨rfl,hb⟩) (fun _ hb _=>⟨rfl,hb⟩)
theorem SlAt.dr{w:World}{T:Nat->Prop}{k:Fo}{ia:Option Addr}(h:SlAt w T ia k)(n:Nat):SlAt (w.drewN n) T ia k:=h.keep (fun _ _ _=>rfl) (fun _ hb _=>hb)
def Ap0(l:Fo):Prop:= ∀(w:World) (S T T':Nat->Prop) (oa ia:Option Addr) (oc lc:Nat),LeB w S T l oa oc->SlAt w T' ia l->SmF l->l.len<=100000->
 Calls Tryz.prog 20 #[.slice oa l.len oc,.slice ia l.len lc] w fun e w'=>e=.returned (.bool true)/\∃m,w'=w.drewN m
theorem ixD{g o n c j:Nat}(hj:j<n){x:Int}(hx:x=j)(w:World):(Instr.indexAt 23 (.slice (some ⟨g,o,none⟩) n c) (ii x)).run Tryz.prog w=.ok (.pointer (some ⟨g,o+j*11,none⟩)) w:=by
 subst hx
 exact J2 j Tryz.underlying23 K4 hj w
set_option maxHeartbeats 4000000 in
theorem Zv(l:Fo)(hk: ∀i a k',l.get i=some (a,k')->Ap0 k'):Ap0 l:=by
 intro w S T T' oa ia oc lc hO hI hsm hlen
 refine B6 (vs:=[.slice oa l.len oc,.slice ia l.len lc]) 109 Tryz.func20 An6 Zk (by simp) fun a0 h0=> ?_
 unfold Ys
 obtain⟨g,rfl,hSg,hgc,hLn,hMk⟩:=hO
 refine Zs (Di1 h0 fun a1 h1=> ?_)
 refine Zs (Di2 (d12:=some ⟨g,0,none⟩) (n12:=l.len+2) (q12:=oc) h1 rfl Zo (fun w=>by rw[show((l.len:Int)+2)=((l.len+2:Nat):Int) by omega];exact Be6 Zo w) fun a2 h2=> ?_)
 refine wp_seq (Zs (An7 (x:= -71) (y:= -72) (b28:=false) (g16:=g) (o16:=0+l.len*11) (g25:=g) (o25:=0+(l.len+1)*11) h2 rfl rfl (fun w=>ixD Zo rfl w) (H9 Tryz.underlying3 rfl (by have:=hMk.1;rw[Nat.zero_add];exact this)) Zd Zo (fun w=>ixD Zo Zo w) (H9 Tryz.underlying3 rfl (by have:=hMk.2;rw[show 0+(l.len+1)*11+2=l.len*11+13 by omega];exact this)) Zd fun a3 h3=>B9 (h3.look 29 rfl) ?_))
 refine wp_seq (Zs (Di3 h3 fun a4 h4=> ?_))
 refine wp_block ?_
 refine wp_loop (fun a' wr=> ∃i m:Nat,i<=l.len/\Sl 109 a' [(6,ii (i:Int)),(0,.slice (some ⟨g,0,none⟩) l.len oc),(1,.slice ia l.len lc)]/\wr=w.drewN m) (fun a' _=>G1 l.len (F9 a' 6))
  ⟨0,0,Nat.zero_le _,h4.to ⟨rfl,rfl,rfl,trivial⟩,(World.drewN_zero w).symm⟩ ?_
 rintro a5 w5 ⟨i,m,hi,h5,rfl⟩
 rw[h5.look 6 rfl,B4]
 unfold Di0
 by_cases hlt:i<l.len
 ·refine wp_seq (Zs (Be1 (ln:=l.len) (b33:=true) h5 rfl rfl (decide_eq_true Zo) fun a6 h6=>wpn (h6.look 33 rfl) ?_))
  obtain⟨h',k',hg⟩:=Fo.get_lt l i hlt
  obtain⟨mo,hcO,hEP⟩:=LnAt.get l g 0 i h' k' hLn hg
  obtain⟨b,p,rfl,hTb,pa,pc,ja,jc,hcI,hdI⟩:=hI.get hg
  obtain⟨o0,_,o2,_,_,o5,_,_,_,_,o10⟩:=CellsAt.eleven hcO
  obtain⟨i0,_,i2,_,_,i5,_,_,_,_,i10⟩:=CellsAt.eleven hcI
  have next: ∀(a:Act) (v:World) (n:Nat),Sl 109 a [(6,ii (i:Int)),(0,.slice (some ⟨g,0,none⟩) l.len oc),(1,.slice (some ⟨b,p,none⟩) l.len lc)]->v=w.drewN n->∀Qn:Exit->Act->World->Prop,(∀a'',((∃i m:Nat,i<=l.len/\Sl 109 a'' [(6,ii (i:Int)),(0,.slice (some ⟨g,0,none⟩) l.len oc),(1,.slice (some ⟨b,p,none⟩) l.len lc)]/\v=w.drewN m)/\G1 l.len (F9 a'' 6)<l.len-i)->Qn .normal a'' v)->Code.wp Tryz.prog (M5 6) Qn a v:=fun a v n h hv Qn hQ=>by
   refine Zl (Di4 h rfl Zo fun a'' h''=>hQ a'' ⟨⟨i+1,n,hlt,h''.to ⟨rfl,rfl,rfl,trivial⟩,hv⟩, ?_⟩)
   rw[h''.look 6 rfl]
   show G1 l.len (ii ((i+1:Nat):Int))<_
   rw[B4]
   omega
  refine wp_seq (wp_block ?_)
  refine wp_seq (Zs (Rx (x0:=h'.kind) (y0:=h'.kind) (x1:=h'.obj) (y1:=h'.obj) (sd:=mo.ia) (sn:=k'.len) (sc:=mo.ic) (td:=ja) (tn:=k'.len) (tc:=jc) (x3:=h'.n) (y3:=h'.n) (b88:=false) h6 rfl rfl rfl (fun w=>ixD hlt rfl w) (H9 Tryz.underlying3 rfl o0) (fun w=>ixD hlt rfl w) (H9 Tryz.underlying3 rfl i0) (by simp)
   (H9 Tryz.underlying3 rfl o5) (H9 Tryz.underlying3 rfl i5) (by simp) (H9 Tryz.underlying23 rfl o10) (H9 Tryz.underlying23 rfl i10) (by simp) (H9 Tryz.underlying3 rfl o2) (H9 Tryz.underlying3 rfl i2) (by simp) fun a7 m7 h7=>B9 (h7.look 89 rfl) ?_))
  by_cases h8:h'.kind=8
  ·refine Zs (Be2 (x:=h'.kind) (b95:=true) h7 rfl rfl (fun w=>ixD hlt rfl w) (H9 Tryz.underlying3 rfl i0) (decide_eq_true h8) fun a8 h8'=>wp_cond_true (h8'.look 95 rfl) ?_)
   obtain⟨hkl,hks⟩:=SmF.get l hsm hg h8
   refine Zs (Bv9 (sd:=mo.ia) (sn:=k'.len) (sc:=mo.ic) (td:=ja) (tn:=k'.len) (tc:=jc) (ok:=true) h8' rfl rfl rfl (fun w=>ixD hlt rfl w) (H9 Tryz.underlying23 rfl o10) (fun w=>ixD hlt rfl w) (H9 Tryz.underlying23 rfl i10) (fun mm=> ?_) fun a9 m9 h9=> ?_)
   ·have hc:=hk i h' k' hg (((w.drewN m).drewN m7).drewN mm) S T T' mo.ia ja mo.ic jc ((((hEP.own h8).dr m).dr m7).dr mm) (((SlAt.dr hdI.kids m).dr m7).dr mm) hks Zo
    exact hc.mono fun e w' ⟨r1,m',r2⟩=>⟨r1,mm+m',by rw[r2];simp only[World.drewN_drewN,Nat.add_assoc]⟩
   ·refine Zs (Bw0 (ok:=true) h9 rfl fun a10 h10=>B9 (h10.look 108 rfl) (B1 ?_))
    exact next a10 _ (m+m7+m9) (h10.to ⟨rfl,rfl,rfl,trivial⟩) (by simp only[World.drewN_drewN,Nat.add_assoc]) _ fun a'' h=>h
  ·refine Zs (Be2 (x:=h'.kind) (b95:=false) h7 rfl rfl (fun w=>ixD hlt rfl w) (H9 Tryz.underlying3 rfl i0) (decide_eq_false h8) fun a8 h8'=>B9 (h8'.look 95 rfl) (B1 ?_))
   exact next a8 _ (m+m7) (h8'.to ⟨rfl,rfl,rfl,trivial⟩) (by simp only[World.drewN_drewN]) _ fun a'' h=>h
 ·refine wp_seq (Zs (Be1 (ln:=l.len) (b33:=false) h5 rfl rfl (decide_eq_false Zo) fun a6 h6=>C9 (h6.look 33 rfl) ?_))
  refine A8 (A8 (B8 ?_))
  refine Zs (Bw1 h6 fun a7 h7=>wp_ret ?_)
  exact G7 rfl h7 rfl ⟨rfl,m,rfl⟩
theorem Hu: ∀(f:Fo),∀i a k,f.get i=some (a,k)->Ap0 k
 | .nil,i,_,_,e=>by cases e
 | .cons h k r,0,a,k',e=>by
  simp only[Fo.get,Option.some.injEq,Prod.mk.injEq] at e
  obtain⟨rfl,rfl⟩:=e
  exact Zv k (Hu k)
 | .cons h k r,i+1,a,k',e=>Hu r i a k' e
theorem Ap1(l:Fo):Ap0 l:=Zv l (Hu l)
end Go.Proofs.YtbjegfpfmnleeaaGreatDoor
