/-
   Written by an AI agent.
-/
import Derived.Test.YtbjegfpfmnleeaaGreatDoorPk35
import Derived.Test.YtbjegfpfmnleeaaGreatDoorPk37
namespace Go.Proofs.YtbjegfpfmnleeaaGreatDoor
open Go.RowKit Go.Maps
set_option maxRecDepth 100000
theorem By4{s t:S3}(h:s.d=t.d):s.v.ownBlock=t.v.ownBlock:=by
 unfold S3.v
 rw[h]
 cases t.d<;>rfl
theorem Zw{α:Type}{w1 w2:World}{x y:α}(h:(Result.ok x w1:Result α)=.ok y w2):x=y/\w1=w2:=by
 injection h with h1 h2
 exact⟨h1,h2⟩
theorem ZRow.app3{w:World}{B:Nat}{s:S3}{l:List Int}(h:ZRow w B s l)(hn:l.length<=100000000)(hB:B<=w.heap.size)(x:Int):
    ∃ (s' : S3) (w' : World), (∀ ty, (Builtin.append_ #[24, 24] ty #[.slice s.d s.n s.c, .slice (some ⟨w.heap.size, 0, none⟩) 1 1]).run Tryz.prog (w.alloc (.cells #[ii x] 3)) = .ok (S3.v s') w') ∧ ZRow w' B s' (l ++ [x]) ∧ Moved (fun b => s.v.ownBlock = some b) w w' ∧
      ((s'.d=s.d)\/(Below w.heap.size w w'/\∃g,s'.v.ownBlock=some g/\w.heap.size<=g)):=by
  obtain⟨s',w',h1,h2,h3,h4⟩:=ZRow.app' h Zo hB x
  refine⟨s',w',h1,h2,h3, ?_⟩
  have hx:=Blk.new w 3 #[ii x]
  have hw1:(w.alloc (.cells #[ii x] 3)).heap.size=w.heap.size+1:=World.size_alloc _ _
  have hcell: ∀(j:Nat) (u:Value),([ii x]:List Value)[j]? =some u->(w.alloc (.cells #[ii x] 3)).cell? ((⟨w.heap.size,0,none⟩:Addr).add j)=some u:=fun j u hu=>by
    rw[Ck,Nat.zero_add,hx.cell,<-Array.getElem?_toList]
    exact hu
  have hbl:Below w.heap.size w (w.alloc (.cells #[ii x] 3)):=B2 (Below.refl _ _) _
  obtain⟨i,hi,hz0,hz1,hz2⟩:=An Jo
  rcases ARow.cases h with⟨rfl,e1,e2⟩ | ⟨g,cs,e1,e2,e3,e4,e5,e6,e7,e8⟩
  · refine .inr ⟨Moved.bel h3 (fun g e=>by cases e) (Nat.le_refl _), ?_⟩
    rcases h4 with h4 | h4
    · rcases ARow.cases h2 with⟨_,q,_⟩ | ⟨g,cs,_,q,_⟩
      · rw[List.length_append,List.length_singleton] at q
        omega
      · rw[q] at h4
        cases h4
    · exact h4
  · have hG:=e4.alloc (.cells #[ii x] 3)
    have hsn:=h.1
    by_cases hc:s.n+1<=s.c
    · have hr:=run_append_room_cells (P:=Tryz.prog) (w:=w.alloc (.cells #[ii x] 3)) 24 0 3 i Tryz.underlying24 hi g 0 s.n s.c ⟨w.heap.size,0,none⟩ 1 1 [ii x] (by rw[hz1];rfl) hcell (fun v hv=>by rw[List.mem_singleton.1 hv];rfl) hc
        (fun j hj=>by
          have hj':j<1:=hj
          rw[hG.cell,hz1,Nat.mul_one,Array.getElem?_eq_getElem Zo]
          rfl) (fun j hj=>hG.frozen _)
      have q:=h1 0
      rw[show s.d=some ⟨g,0,none⟩ by rw[e1]] at q
      rw[hr] at q
      obtain⟨q1,_⟩:=Zw q
      left
      rw[e1]
      show s'.d=_
      unfold S3.v at q1
      injection q1 with q1
      exact q1.symm
    · have hlo:(l.map (Value.int .i64)).length=s.n*1:=by rw[List.length_map,hsn,Nat.mul_one]
      obtain⟨v',w2,hr,ho,hg⟩:=run_append_arg_grows (P:=Tryz.prog) (w:=w.alloc (.cells #[ii x] 3)) 24 0 3 i _ 1 8 Tryz.underlying24 hi hz0 hz1 hz2 rfl Zo ⟨g,0,none⟩ s.n s.c (l.map (Value.int .i64)) hlo (fun j v hv=>by
        rw[Ck,Nat.zero_add,hG.cell,<-Array.getElem?_toList]
        have hj:=(List.getElem?_eq_some_iff.1 hv).1
        rw[List.length_map] at hj
        rw[<-e8,List.getElem?_take_of_lt Zo] at hv
        exact hv) ⟨w.heap.size,0,none⟩ 1 1 [ii x] rfl hcell Zo (by simp only[maxLen];omega) Zo
      have q:=h1 0
      rw[show s.d=some ⟨g,0,none⟩ by rw[e1]] at q
      rw[hr] at q
      obtain⟨q1,q2⟩:=Zw q
      subst q1 q2
      right
      refine⟨⟨hg.os.trans hbl.os,hg.tape.trans hbl.tape,hg.output.trans hbl.output,by have:=hg.size;omega,fun b hb=>(hg.block b Zo (fun e=>by cases e)).trans (hbl.block b hb)⟩, ?_⟩
      rcases ho.2 with⟨_,q0⟩ | ⟨g',cap,cur,e,r1,_⟩
      · omega
      · exact⟨g',by rw[e];rfl,Zo⟩
theorem ZRow.dsome{w:World}{B:Nat}{s:S3}{l:List Int}(h:ZRow w B s l)(h0:0<l.length): ∃g,s.d=some ⟨g,0,none⟩/\s.v.ownBlock=some g:=by
 rcases ARow.cases h with⟨_,e,_⟩ | ⟨g,cs,e1,e2,_⟩
 ·omega
 ·exact⟨g,by rw[e1],e2⟩
theorem La{w:World}{B i:Nat}{s:S3}{l:List Int}{v:Int}(h:ZRow w B s (List.replicate i v++l.drop i))(hi:i<l.length):
  ∃g,s.d=some ⟨g,0,none⟩/\s.v.ownBlock=some g/\(Instr.storeAt 3 (.pointer (some ⟨g,0+i*1,none⟩)) (ii v)).run Tryz.prog w=.ok () (w.setCells g (0+i*1) [ii v])/\ZRow (w.setCells g (0+i*1) [ii v]) B s (List.replicate (i+1) v++l.drop (i+1)):=by
 have hll:(List.replicate i v++l.drop i).length=l.length:=by rw[List.length_append,List.length_replicate,List.length_drop];omega
 have hll':(List.replicate (i+1) v++l.drop (i+1)).length=l.length:=by rw[List.length_append,List.length_replicate,List.length_drop];omega
 have hsn:s.n=l.length:=by rw[h.1,hll]
 unfold ZRow at h ⊢
 rw[hll] at h
 rw[hll']
 rcases ARow.cases h with⟨_,e,_⟩ | ⟨g,cs,e1,e2,e3,e4,e5,e6,e7,e8⟩
 ·omega
 ·refine⟨g,by rw[e1],e2,Cd3 (O5 e4 Zo) Zk rfl, ?_⟩
  have e:(List.replicate i v++l.drop i).map (Value.int .i64)=(List.replicate i v).map (Value.int .i64)++[ii l[i]]++(l.drop (i+1)).map (Value.int .i64):=by
   rw[List.drop_eq_getElem_cons hi,List.map_append,List.map_cons,List.append_assoc]
   rfl
  rw[e1,e] at h
  have:=ARow.put h (vs:=[ii v]) rfl (o:=0+i*1) (by rw[List.length_map,List.length_replicate];omega)
  rw[e1]
  have e':(List.replicate (i+1) v++l.drop (i+1)).map (Value.int .i64)=(List.replicate i v).map (Value.int .i64)++[ii v]++(l.drop (i+1)).map (Value.int .i64):=by
   rw[List.replicate_succ',List.map_append,List.map_append]
   rfl
  rw[e']
  exact this
structure AR (w:World) (B:Nat) (a:S3) (n:Nat) (v:Int) (x:S3) (j:Nat):Prop where
 row:ZRow w B x (List.replicate (n+j) v)
 lt: ∀g,a.v.ownBlock=some g->B<=g/\g<w.heap.size
 old:a.d=x.d\/(PathAt w (fun g=>a.v.ownBlock=some g) a.d (List.replicate n v)/\∀g,a.v.ownBlock=some g->x.v.ownBlock≠some g)
theorem AR.start{w:World}{B n:Nat}{a:S3}{v:Int}(h:ZRow w B a (List.replicate n v)):AR w B a n v a 0:=⟨h,fun g hg=>ARow.block h hg,.inl rfl⟩
theorem AR.keep{w w':World}{B n j:Nat}{a x:S3}{v:Int}(h:AR w B a n v x j)(hs:w.heap.size<=w'.heap.size)(hk: ∀g,(a.v.ownBlock=some g\/x.v.ownBlock=some g)->w'.heap[g]? =w.heap[g]?):AR w' B a n v x j:=
 ⟨ARow.keep h.row fun g hg=>hk g (.inr hg),fun g hg=>⟨(h.lt g hg).1,by have:=(h.lt g hg).2;omega⟩,h.old.imp_right fun⟨h1,h2⟩=>⟨h1.keep (fun b hb _=>hk b (.inl hb)) (fun _ hb _=>hb),h2⟩⟩
theorem AR.get{w:World}{B n j:Nat}{a x:S3}{v:Int}(h:AR w B a n v x j){i:Nat}(hi:i<n): ∃g o,a.d=some ⟨g,o,none⟩/\w.cell? ⟨g,o+i*1,none⟩=some (ii v):=by
 rcases h.old with e | ⟨h1,_⟩
 ·obtain⟨g,h1,_,h2⟩:=ZRow.get h.row (i:=i) (x:=v) (by rw[List.getElem?_replicate,if_pos Zo])
  exact⟨g,0,e.trans h1,h2⟩
 ·obtain⟨g,o,h1,h2⟩:=G9 h1 (i:=i) (x:=v) (by rw[List.getElem?_replicate,if_pos hi])
  exact⟨g,o,h1,h2⟩
theorem AR.app{w:World}{B n j:Nat}{a x:S3}{v:Int}(h:AR w B a n v x j)(hn:n+j<=100000000)(hB:B<=w.heap.size):
  ∃(x':S3) (w':World),(∀ty,(Builtin.append_ #[24,24] ty #[.slice x.d x.n x.c,.slice (some ⟨w.heap.size,0,none⟩) 1 1]).run Tryz.prog (w.alloc (.cells #[ii v] 3))=.ok (S3.v x') w')/\AR w' B a n v x' (j+1)/\Moved (fun b=>x.v.ownBlock=some b) w w'/\(x'.v.ownBlock=x.v.ownBlock\/∃g,x'.v.ownBlock=some g/\w.heap.size<=g):=by
 obtain⟨x',w',h1,h2,h3,h4⟩:=ZRow.app3 h.row (by rw[List.length_replicate];exact hn) hB v
 have hz:=h3.size
 have e:List.replicate (n+j) v++[v]=List.replicate (n+(j+1)) v:=by rw[<-Nat.add_assoc,List.replicate_succ']
 rw[e] at h2
 refine⟨x',w',h1,⟨h2,fun g hg=>⟨(h.lt g hg).1,by have:=(h.lt g hg).2;omega⟩, ?_⟩,h3,h4.imp By4 fun q=>q.2⟩
 rcases h4 with hd | ⟨hb,g,hg,hgl⟩
 ·rcases h.old with q | ⟨q1,q2⟩
  ·exact .inl (q.trans hd.symm)
  ·refine .inr ⟨q1.keep (fun b hb hl=>h3.block b hl (q2 b hb)) (fun _ hb _=>hb),fun g hg=> ?_⟩
   rw[By4 hd]
   exact q2 g hg
 ·have hap: ∀g,a.v.ownBlock=some g->x'.v.ownBlock≠some g:=fun g' hg' e=>by
   rw[hg] at e
   injection e with e
   have:=(h.lt g' hg').2
   omega
  refine .inr ⟨?_,hap⟩
  rcases h.old with q | ⟨q1,_⟩
  ·rcases Nat.eq_zero_or_pos n with h0 | h0
   ·subst h0
    exact .inl rfl
   ·obtain⟨gx,e1,e2⟩:=ZRow.dsome h.row (by rw[List.length_replicate];omega)
    have hgx:gx<w.heap.size:=(ARow.block h.row e2).2
    refine .inr ⟨gx,0,q.trans e1,by rw[By4 q,e2],fun i y hy=> ?_⟩
    have hi:=(List.getElem?_eq_some_iff.1 hy).1
    rw[List.length_replicate] at hi
    rw[List.getElem?_replicate,if_pos hi] at hy
    injection hy with hy
    subst hy
    obtain⟨g',r1,_,r2⟩:=ZRow.get h.row (i:=i) (x:=v) (by rw[List.getElem?_replicate,if_pos Zo])
    rw[e1] at r1
    injection r1 with r1
    injection r1 with r1
    subst r1
    rw[Nat.mul_one] at r2
    exact(World.cell?_of_block (w:=w) (hb.block gx hgx)).trans r2
  ·exact q1.keep (fun b _ hl=>hb.block b hl) (fun _ hb _=>hb)
def MO(a b:S3)(g:Nat):Prop:=a.v.ownBlock=some g\/b.v.ownBlock=some g
theorem Ga{w u:World}{a b:S3}{g o:Nat}{vs:List Value}(h:Moved (MO a b) w u)(hg:MO a b g):Moved (MO a b) w (u.setCells g o vs):=h.set (.inl hg) o vs
theorem Zx{u:World}{B g o:Nat}{vs:List Value}{s:S3}{l:List Int}(h:ZRow u B s l)(hg:s.v.ownBlock≠some g):ZRow (u.setCells g o vs) B s l:=
 ARow.keep h fun q hq=>B5 _ _ _ fun e=>by
  subst e
  exact hg hq
theorem Pm{l:List Int}{v:Int}:List.replicate l.length v++l.drop l.length=List.replicate l.length v:=by simp
set_option maxHeartbeats 8000000 in
theorem Pn{w:World}{B:Nat}{a b:S3}{la lb:List Int}(ha:ZRow w B a la)(hb:ZRow w B b lb)(hB:B<=w.heap.size)(hap: ∀g,a.v.ownBlock=some g->b.v.ownBlock≠some g)(hla:la.length<=1000000)(hlb:lb.length<=1000000):
  Calls Tryz.prog 17 #[.slice a.d a.n a.c,.slice b.d b.n b.c] w fun e w'=>e=.returned (.bool true)/\Moved (MO a b) w w':=by
 have han:a.n=la.length:=ha.1
 have hbn:b.n=lb.length:=hb.1
 refine B6 (vs:=[.slice a.d a.n a.c,.slice b.d b.n b.c]) 95 Tryz.func17 An8 Zk (by simp) fun a0 h0=> ?_
 unfold Yt
 rw[han,hbn] at h0
 refine Zs (Dj1 h0 fun a1 h1=> ?_)
 refine wp_seq (Zs (Dj2 h1 fun a2 h2=> ?_))
 refine wp_block ?_
 refine wp_loop (fun a' wr=> ∃i:Nat,i<=la.length/\Sl 95 a' [(5,ii (i:Int)),(0,.slice a.d la.length a.c),(1,.slice b.d lb.length b.c)]/\ZRow wr B a (List.replicate i (-1)++la.drop i)/\ZRow wr B b lb/\Moved (MO a b) w wr) (fun a' _=>G1 la.length (F9 a' 5))
  ⟨0,Nat.zero_le _,h2.to ⟨rfl,rfl,rfl,trivial⟩,by simpa using ha,hb,.of_below (Below.refl _ _)⟩ ?_
 rintro a3 w3 ⟨i,hi,h3,ha3,hb3,hM3⟩
 rw[h3.look 5 rfl,B4]
 unfold Dj0
 by_cases hlt:i<la.length
 ·refine wp_seq (Zs (Be3 (an:=la.length) (b16:=true) h3 rfl rfl (decide_eq_true Zo) fun a4 h4=>wpn (h4.look 16 rfl) ?_))
  obtain⟨g,e1,e2,e3,e4⟩:=La ha3 hlt
  rw[e1] at h4
  refine wp_seq (wp_block (Zl (Dj4 h4 rfl rfl (fun w=>D7 hlt w) e3 fun a5 h5=>B1 ?_)))
  show Code.wp _ (E9 3) _ a5 _
  refine Zl (Dj3 h5 rfl Zo fun a6 h6=>⟨⟨i+1,hlt,by rw[e1];exact h6.to ⟨rfl,rfl,rfl,trivial⟩,e4,Zx hb3 (hap g e2),Ga hM3 (.inl e2)⟩, ?_⟩)
  rw[h6.look 5 rfl]
  show G1 la.length (ii ((i+1:Nat):Int))<_
  rw[B4]
  omega
 refine wp_seq (Zs (Be3 (an:=la.length) (b16:=false) h3 rfl rfl (decide_eq_false Zo) fun a4 h4=>C9 (h4.look 16 rfl) ?_))
 refine A8 (A8 (B8 ?_))
 obtain rfl:i=la.length:=by omega
 rw[Pm] at ha3
 obtain⟨n,hn⟩: ∃n,n=la.length:=⟨_,rfl⟩
 rw[<-hn] at ha3 h4 hla
 have h4:Sl 95 a4 [(0,.slice a.d n a.c),(1,.slice b.d lb.length b.c)]:=h4.to ⟨rfl,rfl,trivial⟩
 clear h3 hlt hi
 refine wp_seq (Zs (Dj5 h4 fun a5 h5=> ?_))
 refine wp_block ?_
 refine wp_loop (fun a' wr=> ∃i:Nat,i<=lb.length/\Sl 95 a' [(6,ii (i:Int)),(0,.slice a.d n a.c),(1,.slice b.d lb.length b.c)]/\ZRow wr B b (List.replicate i (-2)++lb.drop i)/\ZRow wr B a (List.replicate n (-1))/\Moved (MO a b) w wr) (fun a' _=>G1 lb.length (F9 a' 6))
  ⟨0,Nat.zero_le _,h5.to ⟨rfl,rfl,rfl,trivial⟩,by simpa using hb3,ha3,hM3⟩ ?_
 rintro a6 w6 ⟨i,hi,h6,hb6,ha6,hM6⟩
 rw[h6.look 6 rfl,B4]
 unfold Di9
 by_cases hlt:i<lb.length
 ·refine wp_seq (Zs (Be4 (bn:=lb.length) (b25:=true) h6 rfl rfl (decide_eq_true Zo) fun a7 h7=>wpn (h7.look 25 rfl) ?_))
  obtain⟨g,e1,e2,e3,e4⟩:=La hb6 hlt
  rw[e1] at h7
  refine wp_seq (wp_block (Zl (Dj7 h7 rfl rfl (fun w=>D7 hlt w) e3 fun a8 h8=>B1 ?_)))
  show Code.wp _ (E9 7) _ a8 _
  refine Zl (Dj6 h8 rfl Zo fun a9 h9=>⟨⟨i+1,hlt,by rw[e1];exact h9.to ⟨rfl,rfl,rfl,trivial⟩,e4,Zx ha6 (fun e=>hap g e e2),Ga hM6 (.inr e2)⟩, ?_⟩)
  rw[h9.look 6 rfl]
  show G1 lb.length (ii ((i+1:Nat):Int))<_
  rw[B4]
  omega
 refine wp_seq (Zs (Be4 (bn:=lb.length) (b25:=false) h6 rfl rfl (decide_eq_false Zo) fun a7 h7=>C9 (h7.look 25 rfl) ?_))
 refine A8 (A8 (B8 ?_))
 obtain rfl:i=lb.length:=by omega
 rw[Pm] at hb6
 obtain⟨m,hm⟩: ∃m,m=lb.length:=⟨_,rfl⟩
 rw[<-hm] at hb6 h7 hlb
 have h7:Sl 95 a7 [(0,.slice a.d n a.c),(1,.slice b.d m b.c)]:=h7.to ⟨rfl,rfl,trivial⟩
 clear h6 hlt hi h5 h4
 have han:a.n=n:=by omega
 have hbn:b.n=m:=by omega
 refine Zs (Dj8 h7 rfl fun a8 h8=> ?_)
 refine Zs (Bw2 h8 rfl fun a9 h9=> ?_)
 refine wp_seq (Zs (Bw3 h9 fun a10 h10=> ?_))
 have hlim: ∀g,MO a b g->B<=g/\g<w6.heap.size:=fun g hg=>hg.elim (fun e=>ARow.block ha6 e) (fun e=>ARow.block hb6 e)
 refine wp_block ?_
 refine wp_loop (fun a' wr=> ∃(j:Nat) (x:S3),j<=20/\Sl 95 a' [(9,ii (j:Int)),(7,.slice x.d x.n x.c),(8,.slice b.d b.n b.c),(0,.slice a.d n a.c),(1,.slice b.d m b.c)]/\AR wr B a n (-1) x j/\ZRow wr B b (List.replicate m (-2))/\(∀g,b.v.ownBlock=some g->x.v.ownBlock≠some g)/\Moved (MO a b) w wr/\(∀g,x.v.ownBlock=some g->MO a b g\/w.heap.size<=g)) (fun a' _=>G1 20 (F9 a' 9))
  ⟨0,a,Nat.zero_le _,by rw[han,hbn];exact h10.to ⟨rfl,rfl,rfl,rfl,rfl,trivial⟩,AR.start ha6,hb6,fun g hg e=>hap g e hg,hM6,fun g hg=>.inl (.inl hg)⟩ ?_
 rintro a11 w11 ⟨j,x,hj,h11,hA11,hb11,hxb11,hM11,hxo11⟩
 rw[h11.look 9 rfl,B4]
 unfold Di8
 have hz11:=hM11.size
 by_cases hlt:j<20
 ·refine wp_seq (Zs (Yu (b34:=true) h11 rfl (decide_eq_true Zo) fun a12 h12=>wpn (h12.look 34 rfl) ?_))
  obtain⟨x',w',e1,e2,e3,e4⟩:=hA11.app Zo Zo
  refine wp_seq (wp_block (Zl (Bw5 (C0:=fun _ s z=>s=x'/\z=w') h12 rfl (fun ty=>⟨x',w',e1 ty,rfl,rfl⟩) fun a13 s z hq h13=>B1 ?_)))
  obtain⟨rfl,rfl⟩:=hq
  show Code.wp _ (E9 13) _ a13 _
  refine Zl (Bw4 h13 rfl Zo fun a14 h14=>⟨⟨j+1,s,hlt,h14.to ⟨rfl,rfl,rfl,rfl,rfl,trivial⟩,e2,ARow.keep hb11 fun g hg=>e3.block g (ARow.block hb11 hg).2 (hxb11 g hg),fun g hg e=> ?_,hM11.trans (e3.more fun g hg=>hxo11 g hg),fun g hg=> ?_⟩, ?_⟩)
  ·rcases e4 with q | ⟨g',q,hg'⟩
   ·exact hxb11 g hg (q.symm.trans e)
   ·rw[q] at e
    injection e with e
    have:=(ARow.block hb11 hg).2
    omega
  ·rcases e4 with q | ⟨g',q,hg'⟩
   ·exact hxo11 g (q.symm.trans hg)
   ·rw[q] at hg
    injection hg with hg
    right
    omega
  ·rw[h14.look 9 rfl]
   show G1 20 (ii ((j+1:Nat):Int))<_
   rw[B4]
   omega
 refine wp_seq (Zs (Yu (b34:=false) h11 rfl (decide_eq_false Zo) fun a12 h12=>C9 (h12.look 34 rfl) ?_))
 refine A8 (A8 (B8 ?_))
 obtain rfl:j=20:=by omega
 have h12:Sl 95 a12 [(7,.slice x.d x.n x.c),(8,.slice b.d b.n b.c),(0,.slice a.d n a.c),(1,.slice b.d m b.c)]:=h12.to ⟨rfl,rfl,rfl,rfl,trivial⟩
 clear h11 hlt hj h10 h9 h8 h7
 refine wp_seq (Zs (Bw6 h12 fun a13 h13=> ?_))
 have hab11: ∀g,a.v.ownBlock=some g->g<w11.heap.size:=fun g hg=>(hA11.lt g hg).2
 refine wp_block ?_
 refine wp_loop (fun a' wr=> ∃(j:Nat) (y:S3),j<=20/\Sl 95 a' [(10,ii (j:Int)),(7,.slice x.d x.n x.c),(8,.slice y.d y.n y.c),(0,.slice a.d n a.c),(1,.slice b.d m b.c)]/\AR wr B a n (-1) x 20/\AR wr B b m (-2) y j/\(∀g,a.v.ownBlock=some g\/x.v.ownBlock=some g->y.v.ownBlock≠some g)/\Moved (MO a b) w wr/\(∀g,y.v.ownBlock=some g->MO a b g\/w.heap.size<=g)) (fun a' _=>G1 20 (F9 a' 10))
  ⟨0,b,Nat.zero_le _,h13.to ⟨rfl,rfl,rfl,rfl,rfl,trivial⟩,hA11,AR.start hb11,fun g hg e=>hg.elim (fun q=>hap g q e) (fun q=>hxb11 g e q),hM11,fun g hg=>.inl (.inr hg)⟩ ?_
 rintro a14 w14 ⟨j,y,hj,h14,hA14,hB14,hay14,hM14,hyo14⟩
 rw[h14.look 10 rfl,B4]
 unfold Di7
 have hz14:=hM14.size
 have hxl: ∀g,a.v.ownBlock=some g\/x.v.ownBlock=some g->g<w14.heap.size:=fun g hg=>hg.elim (fun q=>(hA14.lt g q).2) (fun q=>(ARow.block hA14.row q).2)
 by_cases hlt:j<20
 ·refine wp_seq (Zs (Yv (b41:=true) h14 rfl (decide_eq_true Zo) fun a15 h15=>wpn (h15.look 41 rfl) ?_))
  obtain⟨y',w',e1,e2,e3,e4⟩:=hB14.app Zo Zo
  refine wp_seq (wp_block (Zl (Bw8 (C0:=fun _ s z=>s=y'/\z=w') h15 rfl (fun ty=>⟨y',w',e1 ty,rfl,rfl⟩) fun a16 s z hq h16=>B1 ?_)))
  obtain⟨rfl,rfl⟩:=hq
  show Code.wp _ (E9 17) _ a16 _
  refine Zl (Bw7 h16 rfl Zo fun a17 h17=>⟨⟨j+1,s,hlt,h17.to ⟨rfl,rfl,rfl,rfl,rfl,trivial⟩,hA14.keep e3.size (fun g hg=>e3.block g (hxl g hg) (hay14 g hg)),e2,fun g hg e=> ?_,hM14.trans (e3.more fun g hg=>hyo14 g hg),fun g hg=> ?_⟩, ?_⟩)
  ·rcases e4 with q | ⟨g',q,hg'⟩
   ·exact hay14 g hg (q.symm.trans e)
   ·rw[q] at e
    injection e with e
    have:=hxl g hg
    omega
  ·rcases e4 with q | ⟨g',q,hg'⟩
   ·exact hyo14 g (q.symm.trans hg)
   ·rw[q] at hg
    injection hg with hg
    right
    omega
  ·rw[h17.look 10 rfl]
   show G1 20 (ii ((j+1:Nat):Int))<_
   rw[B4]
   omega
 refine wp_seq (Zs (Yv (b41:=false) h14 rfl (decide_eq_false Zo) fun a15 h15=>C9 (h15.look 41 rfl) ?_))
 refine A8 (A8 (B8 ?_))
 obtain rfl:j=20:=by omega
 have hxn:x.n=n+20:=by have:=hA14.row.1;rwa [List.length_replicate] at this
 have hyn:y.n=m+20:=by have:=hB14.row.1;rwa [List.length_replicate] at this
 rw[hxn,hyn] at h15
 have h15:Sl 95 a15 [(7,.slice x.d (n+20) x.c),(8,.slice y.d (m+20) y.c),(0,.slice a.d n a.c),(1,.slice b.d m b.c)]:=h15.to ⟨rfl,rfl,rfl,rfl,trivial⟩
 clear h14 hlt hj h13 h12
 refine wp_seq (Zs (Bw9 h15 fun a16 h16=> ?_))
 refine wp_block ?_
 refine wp_loop (fun a' wr=> ∃i:Nat,i<=n+20/\Sl 95 a' [(11,ii (i:Int)),(7,.slice x.d (n+20) x.c),(8,.slice y.d (m+20) y.c),(0,.slice a.d n a.c),(1,.slice b.d m b.c)]/\wr=w14) (fun a' _=>G1 (n+20) (F9 a' 11))
  ⟨0,Nat.zero_le _,h16.to ⟨rfl,rfl,rfl,rfl,rfl,trivial⟩,rfl⟩ ?_
 rintro a17 w17 ⟨i,hi,h17,rfl⟩
 rw[h17.look 11 rfl,B4]
 unfold Di6
 by_cases hlt:i<n+20
 ·refine wp_seq (Zs (Yw (xn:=n+20) (b50:=true) h17 rfl rfl (decide_eq_true Zo) fun a18 h18=>wpn (h18.look 50 rfl) ?_))
  obtain⟨g,hxd,_,hxc⟩:=ZRow.get hA14.row (i:=i) (x:= -1) (by rw[List.getElem?_replicate,if_pos hlt])
  have next: ∀(a':Act),Sl 95 a' [(11,ii (i:Int)),(7,.slice (some ⟨g,0,none⟩) (n+20) x.c),(8,.slice y.d (m+20) y.c),(0,.slice a.d n a.c),(1,.slice b.d m b.c)]->∀Qn:Exit->Act->World->Prop,(∀a'',((∃i:Nat,i<=n+20/\Sl 95 a'' [(11,ii (i:Int)),(7,.slice x.d (n+20) x.c),(8,.slice y.d (m+20) y.c),(0,.slice a.d n a.c),(1,.slice b.d m b.c)]/\w17=w17)/\G1 (n+20) (F9 a'' 11)<n+20-i)->Qn .normal a'' w17)->Code.wp Tryz.prog (E9 21) Qn a' w17:=fun a' h Qn hQ=>by
   refine Zl (Bx0 h rfl Zo fun a'' h''=>hQ a'' ⟨⟨i+1,hlt,by rw[hxd];exact h''.to ⟨rfl,rfl,rfl,rfl,rfl,trivial⟩,rfl⟩, ?_⟩)
   rw[h''.look 11 rfl]
   show G1 (n+20) (ii ((i+1:Nat):Int))<_
   rw[B4]
   omega
  rw[hxd] at h18
  refine wp_seq (wp_block ?_)
  by_cases hin:i<n
  ·obtain⟨ga,oa,had,hac⟩:=hA14.get hin
   refine Zs (Rl (x:= -1) (y:= -1) (an:=n) (ad:=a.d) (b68:=false) h18 rfl rfl rfl (fun w=>D7 hlt w) (H9 Tryz.underlying3 rfl hxc) Zd (decide_eq_true Zo) (by rw[had];exact fun w=>J2 i Tryz.underlying24 (show(Tryz.prog.info? 3).map (·.size)=some 1 by kernel_rfl) hin w) (H9 Tryz.underlying3 rfl hac) Zd fun a19 h19=>B9 (h19.look 70 rfl) (B1 ?_))
   exact next a19 (h19.to ⟨rfl,rfl,rfl,rfl,rfl,trivial⟩) _ fun a'' h=>h
  ·refine Zs (Rm (x:= -1) (an:=n) h18 rfl rfl rfl (fun w=>D7 hlt w) (H9 Tryz.underlying3 rfl hxc) Zd (decide_eq_false Zo) fun a19 h19=>B9 (h19.look 70 rfl) (B1 ?_))
   exact next a19 (h19.to ⟨rfl,rfl,rfl,rfl,rfl,trivial⟩) _ fun a'' h=>h
 refine wp_seq (Zs (Yw (xn:=n+20) (b50:=false) h17 rfl rfl (decide_eq_false Zo) fun a18 h18=>C9 (h18.look 50 rfl) ?_))
 refine A8 (A8 (B8 ?_))
 have h18:Sl 95 a18 [(8,.slice y.d (m+20) y.c),(1,.slice b.d m b.c)]:=h18.to ⟨rfl,rfl,trivial⟩
 clear h17 hlt hi h16 h15
 refine wp_seq (Zs (Bx1 h18 fun a19 h19=> ?_))
 refine wp_block ?_
 refine wp_loop (fun a' wr=> ∃i:Nat,i<=m+20/\Sl 95 a' [(12,ii (i:Int)),(8,.slice y.d (m+20) y.c),(1,.slice b.d m b.c)]/\wr=w17) (fun a' _=>G1 (m+20) (F9 a' 12))
  ⟨0,Nat.zero_le _,h19.to ⟨rfl,rfl,rfl,trivial⟩,rfl⟩ ?_
 rintro a20 w20 ⟨i,hi,h20,rfl⟩
 rw[h20.look 12 rfl,B4]
 unfold Di5
 by_cases hlt:i<m+20
 ·refine wp_seq (Zs (Yx (yn:=m+20) (b74:=true) h20 rfl rfl (decide_eq_true Zo) fun a21 h21=>wpn (h21.look 74 rfl) ?_))
  obtain⟨g,hyd,_,hyc⟩:=ZRow.get hB14.row (i:=i) (x:= -2) (by rw[List.getElem?_replicate,if_pos hlt])
  have next: ∀(a':Act),Sl 95 a' [(12,ii (i:Int)),(8,.slice (some ⟨g,0,none⟩) (m+20) y.c),(1,.slice b.d m b.c)]->∀Qn:Exit->Act->World->Prop,(∀a'',((∃i:Nat,i<=m+20/\Sl 95 a'' [(12,ii (i:Int)),(8,.slice y.d (m+20) y.c),(1,.slice b.d m b.c)]/\w20=w20)/\G1 (m+20) (F9 a'' 12)<m+20-i)->Qn .normal a'' w20)->Code.wp Tryz.prog (E9 26) Qn a' w20:=fun a' h Qn hQ=>by
   refine Zl (Bx2 h rfl Zo fun a'' h''=>hQ a'' ⟨⟨i+1,hlt,by rw[hyd];exact h''.to ⟨rfl,rfl,rfl,trivial⟩,rfl⟩, ?_⟩)
   rw[h''.look 12 rfl]
   show G1 (m+20) (ii ((i+1:Nat):Int))<_
   rw[B4]
   omega
  rw[hyd] at h21
  refine wp_seq (wp_block ?_)
  by_cases hin:i<m
  ·obtain⟨ga,oa,had,hac⟩:=hB14.get hin
   refine Zs (Rn (x:= -2) (y:= -2) (bn:=m) (bd:=b.d) (b92:=false) h21 rfl rfl rfl (fun w=>D7 hlt w) (H9 Tryz.underlying3 rfl hyc) Zd (decide_eq_true Zo) (by rw[had];exact fun w=>J2 i Tryz.underlying24 (show(Tryz.prog.info? 3).map (·.size)=some 1 by kernel_rfl) hin w) (H9 Tryz.underlying3 rfl hac) Zd fun a22 h22=>B9 (h22.look 94 rfl) (B1 ?_))
   exact next a22 (h22.to ⟨rfl,rfl,rfl,trivial⟩) _ fun a'' h=>h
  ·refine Zs (Ro (x:= -2) (bn:=m) h21 rfl rfl rfl (fun w=>D7 hlt w) (H9 Tryz.underlying3 rfl hyc) Zd (decide_eq_false Zo) fun a22 h22=>B9 (h22.look 94 rfl) (B1 ?_))
   exact next a22 (h22.to ⟨rfl,rfl,rfl,trivial⟩) _ fun a'' h=>h
 refine wp_seq (Zs (Yx (yn:=m+20) (b74:=false) h20 rfl rfl (decide_eq_false Zo) fun a21 h21=>C9 (h21.look 74 rfl) ?_))
 refine A8 (A8 (B8 ?_))
 refine Zs (Bx3 h21 fun a22 h22=>wp_ret ?_)
 exact G7 rfl h22 rfl ⟨rfl,hM14⟩
theorem By8:(Tryz.prog.info? 24).map (fun i=>(i.zero,i.size,i.bytes))=some (some (.slice none 0 0),1,24):=by kernel_rfl
abbrev grT:TypeId:=33
def SxG(B gp:Nat)(t:S3)(b:Nat):Prop:=B<=b/\b≠gp/\t.v.ownBlock≠some b
theorem Ap5{w:World}{B n:Nat}{s:S3}{xs:List Value}(h:ARow w B 24 1 s n xs)(hn:n<=1000000000)(hB:B<=w.heap.size)(d:Option Addr)(k c:Nat):
  ∃(s':S3) (w':World),(∀ty,(Builtin.append_ #[31,31] ty #[.slice s.d s.n s.c,.slice (some ⟨w.heap.size,0,none⟩) 1 1]).run Tryz.prog (w.alloc (.cells #[.slice d k c] 24))=.ok (S3.v s') w')/\ARow w' B 24 1 s' (n+1) (xs++[.slice d k c])/\Rw w w' s s':=by
 obtain⟨s',w',h1,h2,h3,h4⟩:=Mn Tryz.underlying31 By8 rfl Zd Zd h hn hB #[.slice d k c] rfl (fun u hu=>by rw[List.mem_singleton.1 hu];rfl) 0
 exact⟨s',w',fun ty=>Am h1 ty,h2,h3,h4.imp_right fun e=>⟨_,e,Zo⟩⟩
theorem Dk7(x y:Value)(z:Value):(([z]:List Value).foldl (fun(p:Array Value×Nat) v=>(p.1.setIfInBounds p.2 v,p.2+1)) ((#[x,y]:Array Value),1)).1=#[x,z]:=by kernel_rfl
set_option maxHeartbeats 4000000 in
theorem Aa2{B:Nat}{w:World}{wp gh:Nat}{O:Nat->Prop}{σ:St}{sd sk:S3}(h:Wd B w wp gh O σ sd sk)(hown:OwnAt w):
  Calls Tryz.prog 9 #[pT wp] w fun e w'=> ∃gp:Nat,e=.returned (pT gp)/\(GrAt w' gp (fun b=>w.heap.size<=b/\b<w'.heap.size) (keysT σ.T) ((keysT σ.T).map (E7 σ.T))/\Below w.heap.size w w'):=by
 refine B6 (vs:=[pT wp]) 45 Tryz.func9 Br8 Zk (by simp) fun a0 h0=> ?_
 unfold Bb2
 have hK:=h.kok
 have hfar:=hK.far
 obtain⟨N,hN⟩: ∃N,N=keysT σ.T:=⟨_,rfl⟩
 rw[<-hN] at hK hfar ⊢
 have hth:=Mv h
 rw[<-hN] at hth
 refine Zs (Ep3 h0 fun a1 h1=> ?_)
 refine Zs (Ep4 (C0:=fun q v=>ZRow v w.heap.size q N/\Below w.heap.size w v) h1 rfl h.lh hth fun a2 q v hq h2=> ?_)
 obtain⟨hZq,hbv⟩:=hq
 have hzv:=hbv.size
 have hX:=Blk.new v grT #[.slice q.d q.n q.c,.slice none 0 0]
 have hbx:Below w.heap.size w (v.alloc (.cells #[.slice q.d q.n q.c,.slice none 0 0] grT)):=B2 hbv _
 have hP0:PathAt (v.alloc (.cells #[.slice q.d q.n q.c,.slice none 0 0] grT)) (SxG w.heap.size v.heap.size ⟨none,0,0⟩) q.d N:=
  (ZRow.path hZq).1.keep (fun b hb _=>Below.heap_alloc _ _ _ hb.2) (fun b hb _=>⟨hb.1,Zo,fun e=>by cases e⟩)
 obtain⟨gp,hgp⟩: ∃gp,gp=v.heap.size:=⟨_,rfl⟩
 change Code.wp _ _ _ a2 (v.alloc (.cells #[.slice q.d q.n q.c,.slice none 0 0] grT))
 rw[<-hgp] at hX h2 hP0
 generalize v.alloc (.cells #[.slice q.d q.n q.c,.slice none 0 0] grT)=u at hX hbx hP0 ⊢
 have hgw:w.heap.size<=gp:=by omega
 have hqn:q.n=N.length:=hZq.1
 refine wp_seq (Zs (Ep5 h2 fun a3 h3=> ?_))
 refine wp_block ?_
 refine wp_loop (fun a' wr=> ∃(i:Nat) (t:S3) (E:List S3),i<=N.length/\Sl 45 a' [(4,ii (i:Int)),(3,pT gp),(0,pT wp)]/\Blk wr gp grT #[.slice q.d q.n q.c,.slice t.d t.n t.c]/\ARow wr w.heap.size 24 1 t i (E.map S3.v)/\t.v.ownBlock≠some gp/\PathAt wr (SxG w.heap.size gp t) q.d N/\Below w.heap.size w wr/\
   ∀j x,j<i->N[j]? =some x->∃s:S3,E[j]? =some s/\s.n=(E7 σ.T x).length/\PathAt wr (SxG w.heap.size gp t) s.d (E7 σ.T x)) (fun a' _=>G1 N.length (F9 a' 4))
  ⟨0,⟨none,0,0⟩,[],Nat.zero_le _,h3.to ⟨rfl,rfl,rfl,trivial⟩,hX,ARow.nil _ _ _ _,(fun e=>by cases e),hP0,hbx,fun j x hj=>absurd hj (Nat.not_lt_zero _)⟩ ?_
 rintro a4 w4 ⟨i,t,E,hi,h4,hX4,hR4,htg4,hP4,hb4,hE4⟩
 rw[h4.look 4 rfl,B4]
 unfold Ev4
 have hz4:=hb4.size
 have hEl:E.length=i:=by have:=hR4.2.1;rw[List.length_map] at this;omega
 have hl0:Lds Tryz.prog 24 (pT gp) (.slice q.d q.n q.c) w4:=A9 hX4 Tryz.underlying24 rfl rfl
 by_cases hlt:i<N.length
 ·refine wp_seq (Zs (Cy6 (b19:=true) h4 rfl rfl hl0 (decide_eq_true Zo) fun a5 h5=>wpn (h5.look 19 rfl) ?_))
  obtain⟨x,hx⟩: ∃x,N[i]? =some x:=⟨N[i],List.getElem?_eq_getElem hlt⟩
  have hxp:=hK.pos x (List.mem_of_getElem? hx)
  obtain⟨g,o,hqd,hc⟩:=G9 hP4 hx
  obtain⟨C,hC⟩: ∃C:World->Prop,C=fun v=>Below w4.heap.size w4 v:=⟨_,rfl⟩
  have hCd:C (w4.drewN 1):=by rw[hC];exact B3 (Below.refl _ _) 1
  have hCi: ∀v,C v->Below w4.heap.size w4 v:=fun v hv=>by rw[hC] at hv;exact hv
  have hb4d:=A7 hb4 (hCi _ hCd)
  have ql:=Bb8 (h.old hb4d) (hown.old hb4d) (n:=x) Zo
  refine wp_seq (wp_block ?_)
  refine Zs (Ep7 (C:=C) (n:=x) (gh:=gh) (nd:=q.d) (nn:=q.n) (nc:=q.c) (C0:=fun s v=>ZRow v w4.heap.size s (E7 σ.T x)/\C v) h5 rfl rfl rfl hCd (fun v hv=>(h.old (A7 hb4 (hCi v hv))).lh) (fun v hv=>A9 (hX4.below (hCi v hv) hX4.lt) Tryz.underlying24 rfl rfl) (by rw[hqd];exact fun w=>J2 i Tryz.underlying24 (show(Tryz.prog.info? 3).map (·.size)=some 1 by kernel_rfl) Zo w) (fun v hv=>H9 Tryz.underlying3 rfl ((World.cell?_of_block (w:=w4) ((hCi v hv).block g (H0 hc))).trans hc)) (ql.mono fun e w' ⟨s,p1,p2,p3⟩=>⟨s,p1,p2,by rw[hC];exact A7 (hCi _ hCd) p3⟩) fun a6 s v hs h6=> ?_)
  obtain⟨hZs,hCv⟩:=hs
  have hbv4:=hCi v hCv
  have hzv4:=hbv4.size
  have hXv:=hX4.below hbv4 hX4.lt
  obtain⟨t',w',e1,e2,hW⟩:=Ap5 (ARow.old hR4 hbv4) Zo Zo s.d s.n s.c
  have hXw:Blk w' gp grT #[.slice q.d q.n q.c,.slice t.d t.n t.c]:=(hW.blk hXv.lt htg4).trans hXv
  have htl: ∀g,t.v.ownBlock=some g->g<w4.heap.size:=fun g hg=>(ARow.block hR4 hg).2
  refine Zl (Ep8 (C0:=fun _ t2 z=>t2=t'/\z=w') h6 rfl rfl (A9 hXv Tryz.underlying31 rfl rfl) (fun ty=>⟨t',w',e1 ty,rfl,rfl⟩) (fun t2 z hz=>by rw[hz.1,hz.2];exact Cd3 (O5 hXw (by show 1+1<=2;omega)) Zk rfl) fun a7 t2 z hz h7=>B1 ?_)
  obtain⟨rfl,rfl⟩:=hz
  show Code.wp _ (Ki 4) _ a7 _
  have hset:=Blk.setL [.slice t2.d t2.n t2.c] 1 _ _ hXw
  rw[Dk7] at hset
  have hne: ∀b,b≠gp->(z.setCells gp 1 [.slice t2.d t2.n t2.c]).heap[b]? =z.heap[b]? :=fun b hb=>B5 _ _ _ fun e=>hb e
  have htg':t2.v.ownBlock≠some gp:=hW.ne hXv.lt htg4
  have hSk: ∀b,SxG w.heap.size gp t b->b<v.heap.size->(z.setCells gp 1 [.slice t2.d t2.n t2.c]).heap[b]? =v.heap[b]? /\SxG w.heap.size gp t2 b:=fun b hb hl=>⟨(hne b hb.2.1).trans (hW.blk hl hb.2.2),hb.1,hb.2.1,hW.ne hl hb.2.2⟩
  have hPk: ∀{pa:Option Addr} {l:List Int},PathAt w4 (SxG w.heap.size gp t) pa l->PathAt (z.setCells gp 1 [.slice t2.d t2.n t2.c]) (SxG w.heap.size gp t2) pa l:=fun hp=>(hp.keep (S':=SxG w.heap.size gp t) (fun b _ hl=>hbv4.block b hl) (fun _ hb _=>hb)).keep (fun b hb hl=>(hSk b hb hl).1) (fun b hb hl=>(hSk b hb hl).2)
  have hbz:Below w.heap.size w (z.setCells gp 1 [.slice t2.d t2.n t2.c]):=C8 _ _ _ ((hb4.trans (hbv4.mono hz4)).trans (hW.bel (fun g hg=>(ARow.block hR4 hg).1) Zo)) hgw
  refine Zl (Ep6 h7 rfl Zo fun a8 h8=>⟨⟨i+1,t2,E++[s],hlt,h8.to ⟨rfl,rfl,rfl,trivial⟩,hset, ?_,htg',hPk hP4,hbz,fun j y hj hy=> ?_⟩, ?_⟩)
  ·rw[List.map_append]
   exact ARow.keep e2 fun g hg=>hne g fun e=>by subst e;exact htg' hg
  ·by_cases hji:j=i
   ·subst hji
    rw[hx] at hy
    injection hy with hy
    subst hy
    refine⟨s,by rw[List.getElem?_append_right Zo,hEl,Nat.sub_self];rfl,hZs.1, ?_⟩
    refine(ZRow.path hZs).1.keep (fun b hb hl=>(hSk b ⟨Zo, ?_, ?_⟩ hl).1) (fun b hb hl=>(hSk b ⟨Zo, ?_, ?_⟩ hl).2)
    ·have:=hX4.lt;omega
    ·intro e;have:=htl b e;omega
    ·have:=hX4.lt;omega
    ·intro e;have:=htl b e;omega
   ·obtain⟨s0,r1,r2,r3⟩:=hE4 j y Zo hy
    exact⟨s0,by rw[List.getElem?_append_left Zo];exact r1,r2,hPk r3⟩
  ·rw[h8.look 4 rfl]
   show G1 N.length (ii ((i+1:Nat):Int))<_
   rw[B4]
   omega
 ·refine wp_seq (Zs (Cy6 (b19:=false) h4 rfl rfl hl0 (decide_eq_false Zo) fun a5 h5=>C9 (h5.look 19 rfl) ?_))
  refine A8 (A8 (B8 ?_))
  obtain rfl:i=N.length:=by omega
  refine Zs (Ep9 h5 rfl fun a6 h6=>wp_ret ?_)
  have hSw: ∀b,SxG w.heap.size gp t b->b<w4.heap.size->w.heap.size<=b/\b<w4.heap.size:=fun b hb hl=>⟨hb.1,hl⟩
  refine G7 rfl h6 rfl ⟨gp,rfl,⟨⟨q.d,q.c,t.d,t.c, ?_,hP4.keep (fun _ _ _=>rfl) hSw, ?_⟩,⟨hgw,hX4.lt⟩,by rw[List.length_map],Zo,fun r hr=> ?_⟩,hb4⟩
  ·rw[List.length_map]
   have h1:t.n=N.length:=hR4.1
   rw[hqn,h1] at hX4
   exact hX4
  ·intro j r hr
   rw[List.getElem?_map] at hr
   cases hx:N[j]? with
   | none=>rw[hx] at hr;cases hr
   | some x=>
    rw[hx] at hr
    injection hr with hr
    subst hr
    have hj:=(List.getElem?_eq_some_iff.1 hx).1
    obtain⟨s,r1,r2,r3⟩:=hE4 j x hj hx
    rcases ARow.cases hR4 with⟨_,q2,_⟩ | ⟨g,cs,q1,q2,q3,q4,q5,q6,q7,q8⟩
    ·omega
    ·refine⟨g,0,s.d,s.c,by rw[q1],⟨q3,q4.lt⟩, ?_,r3.keep (fun _ _ _=>rfl) hSw⟩
     rw[q4.cell,<-Array.getElem?_toList,Nat.zero_add,Nat.mul_one,<-r2]
     have:(cs.toList.take (N.length*1))[j]? =some s.v:=by rw[q8,List.getElem?_map,r1];rfl
     rw[List.getElem?_take_of_lt Zo] at this
     exact this
  ·obtain⟨x,hx,rfl⟩:=List.mem_map.1 hr
   have:(E7 σ.T x).length<=10000:=Bm h.ok.tok
   omega
theorem By9: ∀(f:Fo) (n:Int),0<=n->L7 f n<=100->((L1 f).length:Int)+n<=L7 f n
 | .nil,n,_,_=>by
  show((0:Nat):Int)+n<=n
  omega
 | .cons h k r,n,hn,hs=>by
  have hc:=K6 h k r n
  have h0:=Hs r (n+I9 h k)
  have h1:=L8 h k (O0 k)
  have hn1: ¬(100<n):=by
   intro e
   rw[hc,if_pos e] at hs
   omega
  rw[if_neg hn1] at hc
  have ir:=By9 r (n+I9 h k) Zo Zo
  have hd:((if h.obj=0 then[] else[h.obj])++(if h.kind=8 then L1 k else[])).length<=I9 h k:=by
   have ho:(if h.obj=0 then[] else[h.obj]:List Int).length<=1:=by split<;>simp
   rw[List.length_append]
   by_cases h8:h.kind=8
   ·rw[if_pos h8]
    have e:I9 h k=if 100<k.len then 101 else if 100<L7 k 1 then 101 else L7 k 1:=by
     unfold I9
     rw[if_neg Zo]
    have hd:I9 h k<=100:=by omega
    by_cases ha:100<k.len
    ·rw[e,if_pos ha] at hd
     omega
    ·by_cases hb:100<L7 k 1
     ·rw[e,if_neg ha,if_pos hb] at hd
      omega
     ·rw[if_neg ha,if_neg hb] at e
      have ik:=By9 k 1 Zo Zo
      omega
   ·rw[if_neg h8]
    have h00:([]:List Int).length=0:=rfl
    omega
  have e:(L1 (.cons h k r)).length=((if h.obj=0 then[] else[h.obj])++(if h.kind=8 then L1 k else[])).length+(L1 r).length:=by
   show(((if h.obj=0 then[] else[h.obj])++(if h.kind=8 then L1 k else[]))++L1 r).length=_
   rw[List.length_append]
  omega
theorem Er5{h:Hd}{k:Fo}(hs:I9 h k<=100):(Aa h k).length<=100:=by
 have:=By9 (.cons h k .nil) 0 Zo (by
  rw[K6,if_neg Zo]
  show 0+I9 h k<=100
  omega)
 rw[K6,if_neg Zo] at this
 have e:(L1 (.cons h k .nil)).length=(Aa h k).length:=by
  show(Aa h k++[]).length=_
  rw[List.append_nil]
 have e2:L7 .nil (0+I9 h k)=0+I9 h k:=rfl
 omega
theorem Aa3: ∀(f:Fo),(∀i h k,f.get i=some (h,k)->I9 h k<=100)->(L1 f).length<=100*f.len
 | .nil,_=>Nat.zero_le _
 | .cons h k r,hs=>by
  have h1:=Er5 (hs 0 h k rfl)
  have h2:=Aa3 r fun i h' k' e=>hs (i+1) h' k' e
  have e:(L1 (.cons h k r)).length=(Aa h k).length+(L1 r).length:=by
   show(Aa h k++L1 r).length=_
   rw[List.length_append]
  rw[Fo.len_cons]
  omega
theorem Nf: ∀(f:Fo),f.ok->∀x,x∈L1 f-> -9223372036854775808<=x/\x<=9223372036854775807
 | .nil,_,_,h=>by cases h
 | .cons h k r,ho,x,hx=>by
  have hx:x∈((if h.obj=0 then[] else[h.obj])++(if h.kind=8 then L1 k else[]))++L1 r:=hx
  rcases List.mem_append.1 hx with hx | hx
  ·rcases List.mem_append.1 hx with hx | hx
   ·split at hx
    ·cases hx
    ·rw[List.mem_singleton.1 hx]
     exact ho.1.obj
   ·split at hx
    ·exact Nf k ho.2.1 x hx
    ·cases hx
  ·exact Nf r ho.2.2.1 x hx
section
variable {B:Nat} {w:World} {wp gh:Nat} {O:Nat->Prop} {σ:St} {sd sk:S3} {l:Fo} {ia:Option Addr} {bx:List Int} {pa:Option Addr}
theorem Pp(h:Wd B w wp gh O σ sd sk)(hown:OwnAt w)(hI:InAt w l ia bx pa)(lc pc:Nat):
  Calls Tryz.prog 12 #[pT gh,.slice ia l.len lc,.slice pa bx.length pc] w fun e w'=> ∃q:S3,e=.returned (.slice q.d q.n q.c)/\(ZRow w' w.heap.size q (F6 σ.T (H7 bx l))/\Below w.heap.size w w'):=by
 obtain⟨bm,pt,own,hX⟩:=h.hs
 exact Ce hX hown h.ok.tok hI lc pc
theorem Ev6(h:Wd B w wp gh O σ sd sk)(hown:OwnAt w)(hI:InAt w l ia bx pa)(lc pc:Nat){z:Int}(hz:F8 z):
  Calls Tryz.prog 13 #[pT gh,.slice ia l.len lc,.slice pa bx.length pc,ii z] w fun e w'=> ∃q:S3,e=.returned (.slice q.d q.n q.c)/\(ZRow w' w.heap.size q (Ad3 σ.T (H7 bx l) z)/\Below w.heap.size w w'):=by
 obtain⟨bm,pt,own,hX⟩:=h.hs
 exact Sz hX hown h.ok.tok hI lc pc hz
theorem Be7(h:Wd B w wp gh O σ sd sk)(hown:OwnAt w)(hI:InAt w l ia bx pa)(lc pc:Nat):
  Calls Tryz.prog 18 #[pT gh,.slice ia l.len lc,.slice pa bx.length pc] w fun e w'=>e=.returned (ii ((O8 σ.T (H7 bx l) (keysT σ.T).length:Nat):Int))/\((∃O',Wd B w' wp gh O' {σ with T:=H4 σ.T (H7 bx l)} sd sk/\∀b,O' b->O b\/w.heap.size<=b)/\Moved O w w'):=by
 obtain⟨bm,pt,own,hX⟩:=h.hs
 refine(Ip hX hown h.ok.tok hI lc pc).mono ?_
 rintro e w' ⟨r1,O',h1,h2,h3,h4⟩
 have hk: ∀b,b<w.heap.size->¬O b->w'.heap[b]? =w.heap[b]? :=fun b hb ho=>h2.block b hb ho
 have ho': ∀b,b<w.heap.size->¬O b->¬O' b:=fun b hb ho e=>(h4 b e).elim ho fun q=>by omega
 exact⟨r1,⟨O',⟨(hk _ h.blk.lt h.o1).trans h.blk,h1,ARow.keep h.data fun g hg=>hk g (ARow.block h.data hg).2 (h.o2 g hg),ARow.keep h.kinds fun g hg=>hk g (ARow.block h.kinds hg).2 (h.o3 g hg),h.lo,ho' _ h.blk.lt h.o1,fun g hg=>ho' g (ARow.block h.data hg).2 (h.o2 g hg),fun g hg=>ho' g (ARow.block h.kinds hg).2 (h.o3 g hg),Ov h.ok _⟩,h4⟩,h2⟩
theorem Wd.few(h:Wd B w wp gh O σ sd sk):(keysT σ.T).length<=80:=by
 have hK:=h.kok
 obtain⟨bm,pt,own,hX⟩:=h.hs
 have h1:=N7 (keysT σ.T) ((List.range σ.last).map fun k=>((k+1:Nat):Int)) (hK.rise.imp fun h e=>by omega) fun x hx=>by
  obtain⟨t,ht,rfl⟩:=List.mem_map.1 hx
  have:=hX.num t.1 t.2 ht
  exact List.mem_map.2 ⟨t.1-1,List.mem_range.2 Zo,Zo⟩
 rw[List.length_map,List.length_range] at h1
 have:=h.ok.last
 have:=h.ok.far
 omega
end
theorem PathAt.pre{w:World}{S:Nat->Prop}{pa:Option Addr}{l m:List Int}(h:PathAt w S pa (l++m)):PathAt w S pa l:=by
 rcases h with e | ⟨b,o,h1,h2,h3⟩
 ·exact .inl (List.append_eq_nil_iff.1 e).1
 ·exact .inr ⟨b,o,h1,h2,fun j x hx=>h3 j x (by rw[List.getElem?_append_left (List.getElem?_eq_some_iff.1 hx).1];exact hx)⟩
structure Env (W:World) (B Z0 Z1 Z wp gh gp:Nat) (O:Nat->Prop) (σ:St) (sd sk:S3) (N:List Int) (To:List (List Int)) (l:Fo) (dd:Option Addr) (dc:Nat) (vs:S3) (bx:List Int) (u:World):Prop where
 wd:Wd B u wp gh O σ sd sk
 gr:GrAt u gp (fun b=>Z0<=b/\b<Z) N To
 le:LeB u (fun b=>Z1<=b/\b<Z) (fun b=>b<W.heap.size) l dd dc
 va:ZRow u Z1 vs (bx++[-71,-72])
 vz: ∀g,vs.v.ownBlock=some g->g<Z
 low:Below W.heap.size W u
 oz: ∀b,O b->b<Z0\/Z<=b
 ob: ∀b,O b->B<=b
 wz: ∀b,(b=wp\/sd.v.ownBlock=some b\/sk.v.ownBlock=some b)->b<Z0
 z1:Z<=u.heap.size
 z2:Z0<=Z1
 z3:Z1<=Z
 z4:B<=Z0
 z5:W.heap.size<=B
section
variable {W:World} {B Z0 Z1 Z wp gh gp:Nat} {O:Nat->Prop} {σ:St} {sd sk:S3} {N:List Int} {To:List (List Int)} {l:Fo} {dd:Option Addr} {dc:Nat} {vs:S3} {bx:List Int} {u u':World}
theorem Env.old(h:Env W B Z0 Z1 Z wp gh gp O σ sd sk N To l dd dc vs bx u)(hb:Below u.heap.size u u'):Env W B Z0 Z1 Z wp gh gp O σ sd sk N To l dd dc vs bx u':=
 ⟨h.wd.old hb,h.gr.keep (fun b _ hl=>hb.block b hl) (fun _ hb _=>hb),h.le.keep (fun b hx hl=>⟨hb.block b hl,hx⟩) (fun b hx hl=>⟨hb.block b hl,hx⟩),h.va.old hb,h.vz,A7 h.low hb,h.oz,h.ob,h.wz,Nat.le_trans h.z1 hb.size,h.z2,h.z3,h.z4,h.z5⟩
theorem Env.mine(h:Env W B Z0 Z1 Z wp gh gp O σ sd sk N To l dd dc vs bx u){X:Nat->Prop}(hM:Moved X u u')(hX: ∀g,X g->Z<=g)(hO: ∀b,O b->b<Z0):Env W B Z0 Z1 Z wp gh gp O σ sd sk N To l dd dc vs bx u':=by
 have h1:=h.z1;have h2:=h.z2;have h3:=h.z3;have h4:=h.z4;have h5:=h.z5
 have hk: ∀b,b<Z->u'.heap[b]? =u.heap[b]? :=fun b hb=>hM.block b Zo fun e=>by have:=hX b e;omega
 refine⟨h.wd.keep hM.size fun b hb=>hk b ?_,h.gr.keep (fun b hb _=>hk b hb.2) (fun _ hb _=>hb),h.le.keep (fun b hx _=>⟨hk b hx.2,hx⟩) (fun b hx _=>⟨hk b Zo,hx⟩),ARow.keep h.va fun g hg=>hk g (h.vz g hg),h.vz,hM.below h.low (fun x hx e=>by have:=hX x e;omega) Zo,h.oz,h.ob,h.wz,Nat.le_trans h.z1 hM.size,h.z2,h.z3,h.z4,h.z5⟩
 rcases hb with hb | hb | hb | hb
 ·have:=h.wz b (.inl hb);omega
 ·have:=hO b hb;omega
 ·have:=h.wz b (.inr (.inl hb));omega
 ·have:=h.wz b (.inr (.inr hb));omega
theorem Env.sweep(h:Env W B Z0 Z1 Z wp gh gp O σ sd sk N To l dd dc vs bx u){O':Nat->Prop}{σ':St}(hW:Wd B u' wp gh O' σ' sd sk)(hM:Moved O u u')(hO: ∀b,O' b->O b\/u.heap.size<=b):Env W B Z0 Z1 Z wp gh gp O' σ' sd sk N To l dd dc vs bx u':=by
 have h1:=h.z1;have h2:=h.z2;have h3:=h.z3;have h4:=h.z4;have h5:=h.z5
 have hk: ∀b,Z0<=b->b<Z->u'.heap[b]? =u.heap[b]? :=fun b ha hb=>hM.block b Zo fun e=>by have:=h.oz b e;omega
 refine⟨hW,h.gr.keep (fun b hb _=>hk b hb.1 hb.2) (fun _ hb _=>hb),h.le.keep (fun b hx _=>⟨hk b Zo hx.2,hx⟩) (fun b hx hl=>⟨hM.block b hl fun e=>by have:=h.ob b e;omega,hx⟩),ARow.keep h.va fun g hg=>hk g (by have:=(ARow.block h.va hg).1;omega) (h.vz g hg),h.vz,hM.below h.low (fun x hx e=>by have:=h.ob x e;omega) Zo,fun b hb=> ?_,fun b hb=> ?_,h.wz,Nat.le_trans h.z1 hM.size,h.z2,h.z3,h.z4,h.z5⟩
 ·rcases hO b hb with e | e
  ·exact h.oz b e
  ·exact .inr Zo
 ·rcases hO b hb with e | e
  ·exact h.ob b e
  ·omega
structure Roots (W:World) (l:Fo) (ia:Option Addr) (bx:List Int) (qa:Option Addr):Prop where
 ok:l.ok
 few:l.len<=40
 size: ∀i h k,l.get i=some (h,k)->I9 h k<=100
 at':SlAt W (fun b=>b<W.heap.size) ia l
 ints:IntsIn W qa bx
 bfew:bx.length<=60
theorem Roots.len{ia qa:Option Addr}(h:Roots W l ia bx qa):(bx++L1 l).length<=1000000:=by
 have h1:=Aa3 l h.size
 have h2:=h.few
 have h3:=h.bfew
 rw[List.length_append]
 omega
theorem Roots.num{ia qa:Option Addr}(h:Roots W l ia bx qa): ∀x,x∈bx++L1 l-> -9223372036854775808<=x/\x<=9223372036854775807:=fun x hx=>by
 rcases List.mem_append.1 hx with hx | hx
 ·exact h.ints.num x hx
 ·exact Nf l h.ok x hx
theorem Roots.inOld{ia qa:Option Addr}(h:Roots W l ia bx qa)(hb:Below W.heap.size W u):InAt u l ia bx qa:=by
 have hs:=hb.size
 exact⟨h.ok,by have:=h.few;omega,h.at'.keep (fun b hx _=>hb.block b hx) (fun b hx _=>by omega),(h.ints.below hb).keep (fun _ _ _=>rfl) (fun b hx _=>by omega),h.len,h.num⟩
theorem Env.inLent{ia qa:Option Addr}(h:Env W B Z0 Z1 Z wp gh gp O σ sd sk N To l dd dc vs bx u)(hr:Roots W l ia bx qa):InAt u l dd bx vs.d:=by
 have h1:=h.z1;have h2:=h.z2;have h3:=h.z3;have h4:=h.z4;have h5:=h.z5
 refine⟨hr.ok,by have:=hr.few;omega,h.le.sl (fun b hb=>by omega) (fun b hb=>by omega), ?_,hr.len,hr.num⟩
 exact(PathAt.pre (ZRow.path h.va).1).keep (fun _ _ _=>rfl) (fun b hb _=>hb.2)
end
theorem Ru{T:Tm}{R:List Int}{n:Int}(hn:0<=n)(h:n∉F6 T R):E7 (H4 T R) n=[]:=by
 have e:I6 (H4 T R) n.toNat=none:=by
  unfold I6 H4
  rw[List.find?_filter,List.find?_eq_none.2 fun t _=> ?_]
  ·rfl
  ·simp only[Bool.and_eq_true,decide_eq_true_eq,not_and]
   intro h1 h2
   have h2:t.1=n.toNat:=by simpa using h2
   exact h (by rw[show n=(t.1:Int) by omega];exact h1)
 unfold E7 S2
 rw[e]
theorem Rv{T:Tm}{R:List Int}(hK:KOk (keysT T))(hK':KOk (keysT (H4 T R)))(hp:R.Pairwise (· <= ·)):O8 (H4 T R) R (keysT (H4 T R)).length=0:=by
 have h1:=Nk hK' hp
 rw[Mw hK hp hp (fun _ h=>h),U3 hK hp] at h1
 rw[U3 hK hp]
 omega
end Go.Proofs.YtbjegfpfmnleeaaGreatDoor
