/-
   Written by an AI agent.
-/
import Derived.Test.YtbjegfpfmnleeaaGreatDoorPk12
import Derived.Maps.OwnSet
import Derived.Maps.Views
import Derived.MapViews
import Derived.Lib.SlKeysI
namespace Go.Proofs.YtbjegfpfmnleeaaGreatDoor
open Go.RowKit
set_option maxRecDepth 100000
theorem Below.ext'{n B:Nat}{a b c:World}(h:Below n a b)(e:Ext B b c)(hB:n<=B):Below n a c:=
 ⟨e.os.trans h.os,e.tape.trans h.tape,e.output.trans h.output,Nat.le_trans h.size e.size,fun k hk=>(e.low k Zo).trans (h.block k hk)⟩
theorem Bq5{wa w:World}{news:List Value}{cs:Array Value}{t:TypeId}(hw:wa=w.alloc (.cells cs t))(hz:cs.size=news.length)(h: ∀j u,news[j]? =some u->wa.cell? ⟨wa.heap.size-1,j,none⟩=some u):news=cs.toList:=by
 apply List.ext_getElem?
 intro j
 have hs:wa.heap.size-1=w.heap.size:=by rw[hw];simp
 cases hj:news[j]? with
 | none=>
  rw[List.getElem?_eq_none_iff] at hj
  rw[eq_comm,List.getElem?_eq_none_iff,Array.length_toList]
  omega
 | some u=>
  have h1:=h j u hj
  rw[hs,hw,(Blk.new w t cs).cell] at h1
  rw[Array.getElem?_toList]
  exact h1.symm
theorem Al4:(Tryz.prog.info? 264).map (·.size)=some 1:=by kernel_rfl
set_option maxHeartbeats 2000000 in
theorem Rf{w:World}{m:Nat}{R:List En}{D O:Nat->Prop}(hM:MapAt w m R D O)(hL:R.length<=200000000000):
    Calls Tryz.prog 168 #[pT m] w fun e w'=> ∃s:S3,e=.returned (.slice s.d R.length s.c)/\((∃Q,Q.map (·.e)=R.reverse/\PairsAt w' w.heap.size s Q)/\Below w.heap.size w w'):=by
  refine X9 (vs:=[pT m]) 27 Tryz.func168 Bo3 Zk (by simp) fun a0 h0=> ?_
  unfold Ay6
  refine Zs (Ei6 h0 fun a1 h1=> ?_)
  refine Zs (Ei7 h1 fun a2 h2=> ?_)
  have hB1:=Blk.new w 264 #[.slice none 0 0]
  have hb1:=B2 (Below.refl w.heap.size w) (.cells #[.slice none 0 0] 264)
  have hs1:(w.alloc (.cells #[.slice none 0 0] 264)).heap.size=w.heap.size+1:=by simp
  generalize w.alloc (.cells #[.slice none 0 0] 264)=w1 at hB1 hb1 hs1 ⊢
  refine wp_seq (Zs (Ei8 (C0:=fun x u=>x=.func (.func 130) #[] #[pT w1.heap.size]/\Blk u w1.heap.size 117 #[pT m]/\Below w1.heap.size w1 u) h2 rfl ((Jy w1 m).mono fun e w' hh=>⟨_,hh.1,rfl,hh.2⟩) fun a3 x3 w2 hx h3=> ?_))
  obtain⟨rfl,hE2,hb2⟩:=hx
  have hb02:=A7 hb1 hb2
  have hB2:=hB1.below hb2 hB1.lt
  have hE2':=hE2.lt
  have s2:=hb2.size
  obtain⟨hb,n,H,N,B,A,hn0,hn1,hR0,_,hLk0,_⟩:=hM
  refine wp_block ?_
  refine Wc (g:=.tmp 6) (ps:=#[7]) (gf:=130) (lb:=#[pT w1.heap.size]) (h3.look 6 rfl) (Go.Proofs.enters_of Tryz.func130 Zk rfl)
    (Ob R.reverse (by rw[List.map_reverse];exact(List.reverse_perm _).nodup_iff.2 hR0.nd) w1.heap.size m w2) (Below.refl _ _) (fun _=>rfl)
    (fun pre W=> ∃s Q,Q.map (·.e)=pre/\Blk W w.heap.size 264 #[S3.v s]/\PairsAt W w2.heap.size s Q/\Blk W w1.heap.size 117 #[pT m]/\Below w.heap.size w W/\w2.heap.size<=W.heap.size/\∃Z,R.reverse=pre++Z)
    (fun _ _ _=>False) ?hI (fun _ _ _ _ h _=>h) ?hM (fun _ _ _ _ h _=>h) ?h0 (fun e a' _=>Sl 27 a' [(4,pT e.g),(3,pT w.heap.size)]) (fun _ _ _ _ h _=>h) ?ha ?hb ?hd (fun _ _ _ h=>h.elim) (fun _ _ _ h _=>h)
  case hI=>
    rintro pre W W' ⟨s,Q,q1,q2,q3,q4,q5,q6,q7⟩ e
    exact⟨s,Q,q1,q2.ext e,q3.ext e,q4.ext e,Below.ext' q5 e Zo,Nat.le_trans q6 e.size,q7⟩
  case hM=>
    rintro pre W ⟨s,Q,q1,q2,q3,q4,q5,q6,q7⟩
    have hR:=hR0.old q5
    refine⟨by rw[q4.cell];rfl, ?_,fun X e Z hX=> ?_⟩
    · obtain⟨cs,r1,_,_,r4,_⟩:=hR.map
      rw[r1.cell,r4,Az2]
    · have hR':R=Z.reverse++e::X.reverse:=by
        have:=congrArg List.reverse hX
        simpa using this
      obtain⟨mk,mv,r1,_⟩:=hR.ent e (by rw[hR'];simp)
      rw[r1.cell]
      show some (Value.pointer (A e.g))=_
      rw[(hLk0 _ _ _ hR').2.2,List.getLast?_reverse]
  case h0=>
    exact⟨⟨none,0,0⟩,[],rfl,hB2,PairsAt.nil _ _,hE2,hb02,Nat.le_refl _,R.reverse,rfl⟩
  case ha=>
    rintro l pre x W K hi hy hK
    refine Rc (Ei9 (h3.yield1 7 Zo _) rfl fun a5 h5=>hK a5 W (KeepsFrom.refl _ _) hi hy (h5.to ⟨rfl,rfl,trivial⟩)) Zk (fun⟨_,_,h⟩=>h)
  case hb=>
    rintro l pre x a5 W ⟨s,Q,q1,q2,q3,q4,q5,q6,q7⟩ ⟨Z,hZ⟩ h5
    have hxR:x∈R:=by
      have:x∈R.reverse:=by rw[hZ];simp
      simpa using this
    have hR:=hR0.old q5
    obtain⟨mk,mv,hBe,hka,hva⟩:=hR.ent x hxR
    obtain⟨ok1,ok2,_⟩:=hR.ok x hxR
    have hxg:=hR0.elt hxR
    have hlen:pre.length<=R.length:=by
      have:=congrArg List.length hZ
      simp only[List.length_reverse,List.length_append,List.length_cons] at this
      omega
    have hQl:Q.length=pre.length:=by rw[<-q1,List.length_map]
    have hdr:Below W.heap.size W (W.drewN 1):=B3 (Below.refl _ _) 1
    refine wpIn_block (Dn6 (Ej0 (C:=fun u=> ∀b,b<w2.heap.size->u.heap[b]? =W.heap[b]?) (l8:=S3.v s) (dk:=x.key) (dv:=x.val) (mk:=mk) (mv:=mv) (ow:=x.own)
      (C0:=fun y u=>x.key.sep u W.heap.size u.heap.size y/\Below W.heap.size W u) (C1:=fun u0 y u=>x.val.sep u u0.heap.size u.heap.size y/\Below u0.heap.size u0 u) (C2:=Eu9 w2.heap.size Q.length s (Q.flatMap fun p:Pr=>p.cs.toList))
      h5 rfl rfl (fun u hu=>A9 (t:=264) (cs:=#[S3.v s]) ((hu _ Zo).trans q2) Tryz.underlying264 rfl rfl) (fun u hu=>Vq ((hu _ Zo).trans hBe)) (fun u hu=>Bo4 ((hu _ Zo).trans hBe)) (fun u hu=>A9 (t:=Ny) (cs:=x.cs mk mv (N x.g) (B x.g) (A x.g)) ((hu _ Zo).trans hBe) Tryz.underlying4 rfl rfl) (fun b _=>rfl)
      ((V6 ok1 (hka.old hdr)).mono fun e w' hh => by
        obtain⟨y,r1,r2,r3⟩:=hh
        exact⟨y,r1,r2,A7 hdr r3⟩)
      (fun y u hy b hb=>hy.2.block b Zo)
      (fun y u hy=>(V6 ok2 (hva.old hy.2)).mono fun e w' hh=>by
        obtain⟨z,r1,r2,r3⟩:=hh
        exact⟨z,r1,r2,r3⟩)
      (fun y u hy z u2 hz b hb=>(A7 hy.2 hz.2).block b Zo)
      (fun y u hy z u2 hz b hb=>(B2 (A7 hy.2 hz.2) _).block b Zo)
      (fun y u hy z u2 hz ty=>Ak8 (S9 q3.row (A7 hy.2 hz.2)) (by have:=(A7 hy.2 hz.2).size;omega) Zo x.key x.val y z x.own ty)
      (fun y u hy z u2 hz s' u3 hs b hb=>by
        obtain⟨news,_,_,_,r4,_⟩:=hs
        have hb2:=B2 (A7 hy.2 hz.2) (.cells (prA x.key x.val y z x.own) L6)
        have hsz:=hb2.size
        exact(r4.block b (by
          show b<(u2.alloc (.cells (prA x.key x.val y z x.own) L6)).heap.size
          omega) (fun e=>by have:=(N8 q3.row e.symm).1;omega)).trans (hb2.block b Zo))
      (fun y u hy z u2 hz s' u3 hs=>by
        obtain⟨news,_,_,_,r4,_⟩:=hs
        have hb2:=B2 (A7 hy.2 hz.2) (.cells (prA x.key x.val y z x.own) L6)
        have hsz:=hb2.size
        have h3':Blk u3 w.heap.size 264 #[S3.v s]:=((r4.block w.heap.size (by
          show w.heap.size<(u2.alloc (.cells (prA x.key x.val y z x.own) L6)).heap.size
          omega) (fun e=>by have:=(N8 q3.row e.symm).1;omega)).trans (hb2.block _ Zo)).trans q2
        exact F2 h3' Al4 (show 0<1 by omega) rfl)
      fun a6 y u z u2 s' u3 hy hz hs h6=> ?_) Zk (U2 Jw))
    obtain⟨news,r1,r2,r3,r4,r5,r6⟩:=hs
    obtain⟨wa,hwa⟩: ∃wa,wa=u2.alloc (.cells (prA x.key x.val y z x.own) L6):=⟨_,rfl⟩
    change ∀j u,news[j]? =some u->(u2.alloc (.cells (prA x.key x.val y z x.own) L6)).cell? ⟨(u2.alloc (.cells (prA x.key x.val y z x.own) L6)).heap.size-1,j,none⟩=some u at r2
    change (u2.alloc (.cells (prA x.key x.val y z x.own) L6)).grownBy u3 _ at r4
    change _\/_=some (u2.alloc (.cells (prA x.key x.val y z x.own) L6)).heap.size at r6
    have hnews:=Bq5 hwa (by rw[r1];rfl) (by rw[hwa];exact r2)
    have hbu:=A7 hy.2 hz.2
    have hba:Below W.heap.size W wa:=by rw[hwa];exact B2 hbu _
    have hbz:Below u2.heap.size u2 wa:=by rw[hwa];exact B2 (Below.refl _ _) _
    have hsa:wa.heap.size=u2.heap.size+1:=by rw[hwa];simp
    rw[<-hwa] at r4 r6
    have z1:=hy.2.size
    have z2:=hz.2.size
    have z3:=r4.size
    have hblk: ∀b,b<wa.heap.size->(∀g,s.v.ownBlock=some g->b≠g)->b≠w.heap.size->(u3.setCells w.heap.size 0 [S3.v s']).heap[b]? =wa.heap[b]? :=fun b hb hne hw=>(B5 _ 0 u3 hw).trans (r4.block b hb (fun e=>hne b e.symm rfl))
    have hlow: ∀b,b<w2.heap.size->b≠w.heap.size->(u3.setCells w.heap.size 0 [S3.v s']).heap[b]? =W.heap[b]? :=fun b hb hw=>(hblk b Zo (fun g hg=>by have:=(N8 q3.row hg).1;omega) hw).trans (hba.block b Zo)
    have hsz:(u3.setCells w.heap.size 0 [S3.v s']).heap.size=u3.heap.size:=B7 _ _ _ _
    have hfin: ∀k,k<=wa.heap.size->k<=(u3.setCells w.heap.size 0 [S3.v s']).heap.size:=fun k hk=>by omega
    have hg3:Blk u3 w.heap.size 264 #[S3.v s]:=((r4.block w.heap.size Zo (fun e=>by have:=(N8 q3.row e.symm).1;omega)).trans (hba.block _ Zo)).trans q2
    obtain⟨p,hp⟩: ∃p:Pr,p=⟨x,y,z,W.heap.size,u.heap.size,u2.heap.size⟩:=⟨_,rfl⟩
    refine B1 ⟨⟨by show W.heap.size<=(u3.setCells w.heap.size 0 [S3.v s']).heap.size;omega,fun k o hk hko ho=> ?_⟩,s',Q++[p], ?_, ?_, ?_, ?_, ?_, ?_,Z, ?_⟩
    · have hkl:=(Array.getElem?_eq_some_iff.1 hko).1
      refine(hblk k Zo (fun g hg e=> ?_) Zo).trans ((hba.block k hkl).trans hko)
      subst e
      rcases q3.row.2 with⟨h0,_⟩ | ⟨g',cap,cur,hv,_,hh,_⟩
      · rw[h0] at hg;cases hg
      · rw[hv] at hg
        injection hg with hg
        have hg:g'=k:=hg
        subst hg
        rw[hko] at hh
        injection hh with hh
        subst hh
        cases ho
    · rw[List.map_append,q1,hp];rfl
    · exact hg3.set_ 0 (S3.v s')
    · refine⟨?_,by rw[List.length_append];exact r5, ?_, ?_⟩
      · rw[List.length_append,List.flatMap_append,show[p].flatMap (fun p=>p.cs.toList)=(prA x.key x.val y z x.own).toList by rw[hp];simp[Pr.cs]]
        rw[hnews] at r3
        refine⟨r3.1,r3.2.imp_right fun⟨g,cap,cur,e1,e2,e3,e4⟩=>⟨g,cap,cur,e1,e2, ?_,e4⟩⟩
        exact(B5 _ 0 u3 Zo).trans e3
      · intro p' hp'
        rcases List.mem_append.1 hp' with hp' | hp'
        · obtain⟨d1,d2,d3⟩:=q3.dat p' hp'
          have l1:=d1.le1
          have l2:=d1.le2
          have l3:=d1.lt
          have keep: ∀b,p'.lo<=b/\b<p'.hi->(u3.setCells w.heap.size 0 [S3.v s']).heap[b]? =W.heap[b]? :=fun b hb=>(hblk b Zo (fun g hg e=>d3 g hg (e ▸ hb)) Zo).trans (hba.block b Zo)
          refine⟨⟨d1.key.keep (fun b hb1 hb2 _=>keep b ⟨hb1,Zo⟩),d1.val.keep (fun b hb1 hb2 _=>keep b ⟨Zo,hb2⟩),l1,l2,hfin _ Zo⟩,d2,fun g hg=> ?_⟩
          rcases r6 with r6 | r6
          · rw[r6] at hg;exact d3 g hg
          · rw[r6] at hg;injection hg with hg;omega
        · rw[List.mem_singleton.1 hp',hp]
          have keep: ∀b,W.heap.size<=b/\b<u2.heap.size->(u3.setCells w.heap.size 0 [S3.v s']).heap[b]? =u2.heap[b]? :=fun b hb=>(hblk b Zo (fun g hg e=>by have:=(N8 q3.row hg).2;omega) Zo).trans (hbz.block b hb.2)
          refine⟨⟨hy.1.keep (fun b hb _ hl=>(keep b ⟨hb,Zo⟩).trans (hz.2.block b hl)),hz.1.keep (fun b hb _ hl=>keep b ⟨Zo,hl⟩),z1,z2,hfin _ (by show u2.heap.size<=_;omega)⟩,q6,fun g hg=> ?_⟩
          rcases r6 with r6 | r6
          · rw[r6] at hg
            have:=(N8 q3.row hg).2
            show ¬(W.heap.size<=g/\g<u2.heap.size)
            omega
          · rw[r6] at hg;injection hg with hg
            show ¬(W.heap.size<=g/\g<u2.heap.size)
            omega
      · rw[List.pairwise_append]
        refine⟨q3.sep,List.pairwise_singleton _ _,fun a ha b hb=> ?_⟩
        rw[List.mem_singleton.1 hb,hp]
        exact(q3.dat a ha).1.lt
    · exact(hlow _ hE2' Zo).trans q4
    · refine⟨?_, ?_, ?_,hfin _ (by have:=q5.size;omega),fun b hb=>(hlow b Zo Zo).trans (q5.block b hb)⟩
      · exact((E8 _ _ _ _).1).trans (r4.os.trans (hba.os.trans q5.os))
      · exact((E8 _ _ _ _).2.1).trans (r4.tape.trans (hba.tape.trans q5.tape))
      · exact((E8 _ _ _ _).2.2).trans (r4.output.trans (hba.output.trans q5.output))
    · show w2.heap.size<=(u3.setCells w.heap.size 0 [S3.v s']).heap.size
      omega
    · rw[hZ];simp
  case hd=>
    rintro xs W rfl ⟨s,Q,q1,q2,q3,q4,q5,q6,q7⟩ hD
    refine B1 ?_
    have h4:Sl 27 {a3 with defers:={target:=.collected w2.heap.size,args:=#[]}::a3.defers} [(3,pT w.heap.size)] [{target:=.collected w2.heap.size,args:=#[]}]:=by
      have h5:=h3.to (l0:=[(3,pT w.heap.size)]) ⟨rfl,trivial⟩
      exact⟨h5.size,by simp[h5.defers],h5.known⟩
    refine Zs (Ej1 h4 rfl (A9 (t:=264) (cs:=#[S3.v s]) q2 Tryz.underlying264 rfl rfl) fun a5 h5=>wp_ret ?_)
    show LeavesInM _ _ _ _ _ _ a5.defers .returning W
    rw[h5.defers]
    have hQl:Q.length=R.length:=by
      have:=congrArg List.length q1
      simpa using this
    refine S7 (ds:=[w2.heap.size]) w2.heap.size W (by simp) (fun D hD'=>by rw[List.mem_singleton.1 hD'];exact⟨Nat.le_refl _,hD⟩) fun W' hx=>⟨S3.v s,(results_tmp rfl _ _ _).trans (by rw[show a5.tmps.getD 2 undef=S3.v s from h5.look 2 rfl]),s, ?_,⟨Q,q1, ?_⟩,Below.ext' q5 hx Zo⟩
    · show Ending.returned (.slice s.d s.n s.c)=_
      rw[q3.num,hQl]
    · have h6:=q3.ext hx
      exact⟨⟨h6.row.1,h6.row.2.imp_right fun⟨g,cap,cur,e1,e2,e3⟩=>⟨g,cap,cur,e1,Zo,e3⟩⟩,h6.num,fun p hp=>let⟨d1,d2,d3⟩:=h6.dat p hp;⟨d1,Zo,d3⟩,h6.sep⟩
theorem Nx{f:Pr->List Value}(hf: ∀p,(f p).length=23): ∀(Q:List Pr) (j:Nat) (p:Pr),Q[j]? =some p->((Q.flatMap f).drop (j*23)).take 23=f p
 | [],_,_,h=>by cases h
 | q::Q,0,p,h=>by
  injection h with h
  subst h
  rw[Nat.zero_mul,List.drop_zero,List.flatMap_cons,<-hf q,List.take_left]
 | q::Q,j+1,p,h=>by
  have h:Q[j]? =some p:=h
  rw[List.flatMap_cons,show(j+1)*23=(f q).length+j*23 by rw[hf];omega,List.drop_append,List.drop_of_length_le Zo,Nat.add_sub_cancel_left,List.nil_append]
  exact Nx hf Q j p h
theorem PairsAt.at{w:World}{B:Nat}{s:S3}{Q:List Pr}(h:PairsAt w B s Q){j:Nat}{p:Pr}(hj:Q[j]? =some p): ∃g,s.v.ownBlock=some g/\s.d=some ⟨g,0,none⟩/\B<=g/\g<w.heap.size/\w.rangeAt g (j*23) p.cs.toList:=by
 have hlt:=(List.getElem?_eq_some_iff.1 hj).1
 rcases h.row.2 with⟨_,h0⟩ | ⟨g,cap,cur,hv,hB,hh,hc,_,hz,ht⟩
 ·omega
 ·have hd:s.d=some ⟨g,0,none⟩:=by
   have:Value.slice s.d s.n s.c=_:=hv
   injection this
  refine⟨g,by rw[hv];rfl,hd,hB,(Array.getElem?_eq_some_iff.1 hh).1,Q0 (t:=L6) (cs:=cur) hh (j*23) 23 ?_⟩
  rw[<-Nx (f:=fun p:Pr=>p.cs.toList) (fun _=>rfl) Q j p hj,<-ht,List.drop_take,List.take_take]
  congr 1
  omega
structure Priv (own:Nat->Prop) (Wb:Nat) (Wp A:World) (Q:List Pr) (j:Nat):Prop where
 own: ∀b,own b->b<Wb\/(∃i p,i<j/\Q[i]? =some p/\p.lo<=b/\b<p.hi)\/Wp.heap.size<=b
 keep: ∀b,Wb<=b->b<Wp.heap.size->(∀i p,i<j->Q[i]? =some p->¬(p.lo<=b/\b<p.hi))->A.heap[b]? =Wp.heap[b]?
 size:Wp.heap.size<=A.heap.size
section
variable {own own':Nat->Prop} {Wb:Nat} {Wp A C:World} {Q:List Pr} {j:Nat} {s:S3} {p:Pr}
theorem Priv.start(h: ∀b,own b->b<Wb):Priv own Wb Wp Wp Q 0:=⟨fun b hb=>.inl (h b hb),fun _ _ _ _=>rfl,Nat.le_refl _⟩
theorem Priv.below(h:Priv own Wb Wp A Q j)(hb:Below A.heap.size A C):Priv own Wb Wp C Q j:=
 ⟨h.own,fun b h1 h2 h3=>(hb.block b (by have:=h.size;omega)).trans (h.keep b h1 h2 h3),Nat.le_trans h.size hb.size⟩
theorem Priv.skip(h:Priv own Wb Wp A Q j):Priv own Wb Wp A Q (j+1):=
 ⟨fun b hb=>(h.own b hb).imp_right (fun h=>h.imp_left fun⟨i,p,h1,h2⟩=>⟨i,p,Zo,h2⟩),fun b h1 h2 h3=>h.keep b h1 h2 fun i p hi hp=>h3 i p Zo hp,h.size⟩
theorem Priv.step(h:Priv own Wb Wp A Q j)(hp:Q[j]? =some p){Hd:Nat->Prop}(hH: ∀b,Hd b->(p.lo<=b/\b<p.hi)\/Wp.heap.size<=b)(hM:Moved (fun b=>own b\/Hd b) A C)(ho: ∀b,own' b->own b\/Hd b\/A.heap.size<=b):Priv own' Wb Wp C Q (j+1):=by
 refine⟨fun b hb=> ?_,fun b h1 h2 h3=> ?_,Nat.le_trans h.size hM.size⟩
 ·rcases ho b hb with q | q | q
  ·exact h.skip.own b q
  ·rcases hH b q with q | q
   ·exact .inr (.inl ⟨j,p,Zo,hp,q⟩)
   ·exact .inr (.inr q)
  ·exact .inr (.inr (Nat.le_trans h.size q))
 ·refine(hM.block b (by have:=h.size;omega) fun q=> ?_).trans (h.skip.keep b h1 h2 h3)
  rcases q with q | q
  ·rcases h.own b q with q | ⟨i,p',q1,q2,q3⟩ | q
   ·omega
   ·exact h3 i p' Zo q2 q3
   ·omega
  ·rcases hH b q with q | q
   ·exact h3 j p Zo hp q
   ·omega
theorem PairsAt.apart{B:Nat}(h:PairsAt Wp B s Q){i:Nat}{q:Pr}(hi:Q[i]? =some q)(hj:Q[j]? =some p)(hij:i<j):q.hi<=p.lo:=by
 obtain⟨h1,h2⟩:=List.getElem?_eq_some_iff.1 hi
 obtain⟨h3,h4⟩:=List.getElem?_eq_some_iff.1 hj
 have:=(List.pairwise_iff_getElem.1 h.sep) i j h1 h3 hij
 rw[h2,h4] at this
 exact this
theorem Priv.mine(h:Priv own Wb Wp A Q j)(hP:PairsAt Wp Wb s Q)(hp:Q[j]? =some p){b:Nat}(hb:p.lo<=b/\b<p.hi): ¬own b/\b<A.heap.size/\A.heap[b]? =Wp.heap[b]? :=by
 obtain⟨d1,d2,_⟩:=hP.dat p (List.mem_of_getElem? hp)
 have l:=d1.lt
 have hs:=h.size
 have hno: ∀i q,i<j->Q[i]? =some q->¬(q.lo<=b/\b<q.hi):=fun i q hi hq hb'=>by have:=hP.apart hq hp hi;omega
 refine⟨fun ho=> ?_,Zo,h.keep b Zo Zo hno⟩
 rcases h.own b ho with q | ⟨i,q,q1,q2,q3⟩ | q
 ·omega
 ·exact hno i q q1 q2 q3
 ·omega
theorem Priv.dat(h:Priv own Wb Wp A Q j)(hP:PairsAt Wp Wb s Q)(hp:Q[j]? =some p):p.at A:=by
 obtain⟨d1,d2,_⟩:=hP.dat p (List.mem_of_getElem? hp)
 have l1:=d1.le1
 have l2:=d1.le2
 exact⟨d1.key.keep (fun b hb1 hb2 _=>(h.mine hP hp ⟨hb1,Zo⟩).2.2),d1.val.keep (fun b hb1 hb2 _=>(h.mine hP hp ⟨Zo,hb2⟩).2.2),l1,l2,Nat.le_trans d1.lt h.size⟩
theorem Priv.row(h:Priv own Wb Wp A Q j)(hP:PairsAt Wp Wb s Q)(hp:Q[j]? =some p): ∃g,s.d=some ⟨g,0,none⟩/\A.rangeAt g (j*23) p.cs.toList:=by
 obtain⟨g,h1,h2,h3,h4,h5⟩:=hP.at hp
 refine⟨g,h2,fun i v hi=> ?_⟩
 have hk:=h.keep g h3 h4 fun i q _ hq=>(hP.dat q (List.mem_of_getElem? hq)).2.2 g h1
 have:=h5 i v hi
 unfold World.cell? at this ⊢
 rw[hk]
 exact this
end
theorem Mp:(Tryz.prog.info? L6).map (·.size)=some 23:=by kernel_rfl
theorem Vn{w:World}{g:Nat}{t:TypeId}{cs:Array Value}(h:Blk w g t cs)(hz:cs.size=23)(p:Pr):Blk (w.setCells g 0 p.cs.toList) g t p.cs:=by
 obtain⟨l⟩:=cs
 have hz:l.length=23:=hz
 match l,hz with
 | [a0,a1,a2,a3,a4,a5,a6,a7,a8,a9,a10,a11,a12,a13,a14,a15,a16,a17,a18,a19,a20,a21,a22],_=>
  have e:(p.cs.toList.foldl (fun(p:Array Value×Nat) v=>(p.1.setIfInBounds p.2 v,p.2+1)) ((⟨[a0,a1,a2,a3,a4,a5,a6,a7,a8,a9,a10,a11,a12,a13,a14,a15,a16,a17,a18,a19,a20,a21,a22]⟩:Array Value),0)).1=p.cs:=by kernel_rfl
  have h2:=Blk.setL p.cs.toList 0 _ _ h
  rw[e] at h2
  exact h2
theorem Aj5{w:World}{g:Nat}{t:TypeId}{p:Pr}(h:Blk w g t p.cs):Lds Tryz.prog 53 (pT g) (.agg (p.e.key.cs p.dk)) w:=C6 h rfl
theorem Aj6{w:World}{g:Nat}{t:TypeId}{p:Pr}(h:Blk w g t p.cs):Lds Tryz.prog 53 (.pointer (some ⟨g,11,none⟩)) (.agg (p.e.val.cs p.dv)) w:=C6 h rfl
structure Hn where
 k:Dt
 v:Dt
 dk:Dm
 dv:Dm
def Hn.encs(x:Hn):Array Value:=#[.agg (x.k.cs x.dk),.agg (x.v.cs x.dv)]
def Hn.at(x:Hn)(Hd:Nat->Prop)(A:World):Prop:= ∃lo mid hi,x.k.sep A lo mid x.dk/\x.v.sep A mid hi x.dv/\lo<=mid/\mid<=hi/\Hd=fun b=>lo<=b/\b<hi
def ItM{σ α:Type}(rs:σ->List En)(R0:List En)(g1 m:Nat)(st:σ)(s:List α)(A:World):Prop:=A.cell? ⟨g1,0,none⟩=some (pT m)/\(∃D O,MapAt A m (rs st) D O)/\(rs st).length<=200000000000/\(s=[]->rs st=R0)/\OwnAt A
def Es9{σ:Type}(R0:List En)(_:σ)(pre:List Hn)(x:Hn)(Hd:Nat->Prop)(A:World):Prop:=(∃e,R0.reverse[pre.length]? =some e/\x.k=e.key/\x.v=e.val)/\x.at Hd A
def Ew1{σ:Type}(R0:List En)(_:σ)(xs:List Hn)(_:World):Prop:=xs.length=R0.length
theorem Hn.at.ext{B:Nat}{x:Hn}{Hd:Nat->Prop}{A C:World}(h:x.at Hd A)(e:Ext B A C):x.at Hd C:=let⟨lo,mid,hi,h1,h2,h3⟩:=h;⟨lo,mid,hi,h1.ext e,h2.ext e,h3⟩
def Aj7:Array Value:=#[ii 0,.string ⟨#[]⟩,ii 0,.int .u64 0,.string ⟨#[]⟩,ii 0,ii 0,ii 0,ii 0,.slice none 0 0,.slice none 0 0,ii 0,.string ⟨#[]⟩,ii 0,.int .u64 0,.string ⟨#[]⟩,ii 0,ii 0,ii 0,ii 0,.slice none 0 0,.slice none 0 0,.bool false]
set_option maxHeartbeats 2000000 in
theorem Bn1{σ:Type}(rs:σ->List En)(R0:List En)(g1 m:Nat)(w0:World):Ee1 Tryz.prog 167 #[pT g1] Hn.encs (ItM rs R0 g1 m) (Es9 R0) (Ew1 R0) w0:=by
 intro own l J Jx st0 W hb hJ hJx hM hO hY h0
 refine callsIn_wide.2 (B6 (vs:=[.func (.yield l) #[] #[],pT g1]) 20 Tryz.func167 Bp0 Zk (by simp) fun a0 h0'=> ?_)
 unfold Az4
 obtain⟨c1,⟨D,O,hMap⟩,hL,hRR,_⟩:=hM _ _ _ h0
 have hRR:=hRR rfl
 rw[hRR] at hMap hL
 refine Zs (Ej9 (np:=R0.length) (C0:=fun s u=>(∃Q,Q.map (·.e)=R0.reverse/\PairsAt u W.heap.size s Q)/\Below W.heap.size W u) h0' rfl (H9 Tryz.underlying117 rfl c1) (Rf hMap hL) fun a1 s Wp hx h1=> ?_)
 obtain⟨⟨Q,hQ,hP⟩,hbp⟩:=hx
 have hQl:Q.length=R0.length:=by
  have:=congrArg List.length hQ
  simpa using this
 refine wp_block ?_
 refine wp_loop (fun a' wr=> ∃(st:σ) (pre:List Hn),pre.length<=R0.length/\Sl 20 a' [(8,ii (pre.length:Int)),(7,ii (R0.length:Int)),(6,.slice s.d R0.length s.c),(0,.func (.yield l) #[] #[])]/\J st pre wr/\Priv (own st) W.heap.size Wp wr Q pre.length) (fun a' _=>G1 R0.length (F9 a' 8))
  ⟨st0,[],Nat.zero_le _,h1.to ⟨rfl,rfl,rfl,rfl,trivial⟩,hJ _ _ _ _ h0 hbp,Priv.start (hO _ _ _ h0)⟩ ?_
 rintro a2 w2 ⟨st,pre,hle,h2,hJ2,hPv⟩
 rw[h2.look 8 rfl,B4]
 unfold Eu0
 by_cases hlt:pre.length<R0.length
 ·refine Zs (Cv5 h2 rfl rfl (decide_eq_true Zo) fun a3 h3=> ?_)
  refine wp_seq (wpn (h3.look 9 rfl) ?_)
  obtain⟨p,hp⟩: ∃p,Q[pre.length]? =some p:=⟨Q[pre.length],by simp[hQl,hlt]⟩
  obtain⟨g,hsd,hrow⟩:=hPv.row hP hp
  have hpe:R0.reverse[pre.length]? =some p.e:=by rw[<-hQ,List.getElem?_map,hp];rfl
  rw[hsd] at h3
  refine wp_seq (wp_block ?_)
  refine Zs (Ek0 (dk:=p.e.key) (mk:=p.dk) (dv:=p.e.val) (mv:=p.dv) (ow:=p.e.own) h3 rfl rfl (fun w=>Aj9 (o:=pre.length*23) (sz:=23) pre.length rfl Tryz.underlying264 Mp hlt rfl w) (Bo7 (cs:=p.cs.toList) Tryz.underlying267 rfl Mp hrow) (Et6 (cells:=p.cs) (O5 (Blk.new w2 L6 _) (by show 0+23<=23;omega)) Mp Zk) fun a4 h4=> ?_)
  have hB4:=Vn (Blk.new w2 L6 Aj7) rfl p
  have hb4:Below w2.heap.size w2 ((w2.alloc (.cells Aj7 L6)).setCells w2.heap.size 0 p.cs.toList):=C8 _ 0 _ (B2 (Below.refl _ _) _) (Nat.le_refl _)
  show Code.wp _ _ _ a4 ((w2.alloc (.cells Aj7 L6)).setCells w2.heap.size 0 p.cs.toList)
  generalize (w2.alloc (.cells Aj7 L6)).setCells w2.heap.size 0 p.cs.toList=w4 at hB4 hb4 ⊢
  have hJ4:=hJ _ _ _ _ hJ2 hb4
  have hPv4:=hPv.below hb4
  have hpa:=hPv4.dat hP hp
  obtain⟨x,hx⟩: ∃x:Hn,x=⟨p.e.key,p.e.val,p.dk,p.dv⟩:=⟨_,rfl⟩
  have hYx:Es9 R0 st pre x (fun b=>p.lo<=b/\b<p.hi) w4:=⟨⟨p.e,hpe,by rw[hx],by rw[hx]⟩,p.lo,p.mid,p.hi,by rw[hx];exact hpa.key,by rw[hx];exact hpa.val,hpa.le1,hpa.le2,rfl⟩
  have hyl:=hY st pre x _ w4 hJ4 hYx (fun b hb=>let h:=hPv4.mine hP hp hb;⟨h.1,h.2.1⟩)
  rw[hx] at hyl
  refine wp_seq (Ek1 (C0:=fun b W'=> ∃st',((b=true/\J st' (pre++[x]) W')\/(b=false/\Jx st' (pre++[x]) W'))/\Ax3 own st st' (fun b=>p.lo<=b/\b<p.hi) w4 W') h4 rfl rfl (Aj5 hB4) (Aj6 hB4) (YieldAt.mono hyl fun r W' hh=> ?_) fun a5 b w5 hx5 h5=> ?_)
  ·rw[<-hx] at hh
   obtain⟨st',⟨rfl,hh⟩ | ⟨rfl,hh⟩,hs⟩:=hh
   ·exact⟨true,rfl,st',.inl ⟨rfl,hh⟩,hs⟩
   ·exact⟨false,rfl,st',.inr ⟨rfl,hh⟩,hs⟩
  obtain⟨st',⟨rfl,hJ5⟩ | ⟨rfl,hJx5⟩,hs⟩:=hx5
  ·refine B9 (h5.look 18 rfl) (B1 ?_)
   show Code.wp _ (Wi 4) _ a5 w5
   have hPv5:=hPv4.step hp (own':=own st') (fun b hb=>.inl hb) hs.1 hs.2
   have hpl:(pre++[x]).length=pre.length+1:=by simp
   refine Zl (Ek2 h5 rfl Zo fun a6 h6=>⟨⟨st',pre++[x],Zo, ?_,hJ5,by rw[hpl];exact hPv5⟩, ?_⟩)
   ·rw[hpl,hsd]
    exact h6.to ⟨rfl,rfl,rfl,rfl,trivial⟩
   ·rw[h6.look 8 rfl]
    show G1 R0.length (ii ((pre.length+1:Nat):Int))<_
    rw[B4]
    omega
  ·refine wp_cond_true (h5.look 18 rfl) (wp_ret ?_)
   repeat (first | with_reducible refine D2 ?_ | with_reducible refine F1 ?_)
   exact bodyPost_ret (results_none rfl _ _ _) h5.defers ⟨⟨_,rfl⟩,.inr ⟨_,_,hJx5⟩⟩
 ·refine Zs (Cv5 h2 rfl rfl (decide_eq_false Zo) fun a3 h3=> ?_)
  refine wp_seq (C9 (h3.look 9 rfl) ?_)
  refine A8 (A8 (B8 ?_))
  exact bodyPost_end (results_none rfl _ _ _) h3.defers ⟨⟨_,rfl⟩,.inl ⟨st,pre,by show pre.length=R0.length;omega,hJ2⟩⟩
theorem Cv6{R:List En}{d:Dt}{x:En}(h:fE R d=some x):x∈R:=List.mem_of_find?_eq_some h
structure Wn where
 j:Nat
 h:Hn
def Wn.encs(x:Wn):Array Value:=x.h.encs
def nx(pre:List Wn):Nat:=match pre.getLast? with
 | none=>0
 | some x=>x.j+1
end Go.Proofs.YtbjegfpfmnleeaaGreatDoor
namespace Go.Proofs.YtbjegfpfmnleeaaGreatDoor
open Go.RowKit Go.Sort
end Go.Proofs.YtbjegfpfmnleeaaGreatDoor
namespace Go.Proofs.YtbjegfpfmnleeaaGreatDoor
open Go.RowKit
set_option maxRecDepth 100000
def m0:Dm:=⟨none,0,none,0⟩
end Go.Proofs.YtbjegfpfmnleeaaGreatDoor
namespace Go.Proofs.YtbjegfpfmnleeaaGreatDoor
open Go.RowKit
variable {df:List Deferred}
set_option maxRecDepth 100000
inductive Pl where
 | fin
 | rd (i:Nat) (p:Pl)
 | e1 (j:Nat) (p:Pl)
 | e2 (j:Nat) (p:Pl) (k:Nat) (g:List Giv) (q:Pl)
section
variable {P:Program} {md:Region.Mode} {ops:Array Oper} {C:World->Prop}
def Az5(P:Program)(ops:Array Oper)(j:Nat)(K:Act->World->Prop)(a:Act)(w:World):Prop:=match ops[j]? with
 | some o=>wpList P ops (Xu K) [o] a w
 | none=>False
def Bp2(P:Program)(ops:Array Oper)(C:World->Prop)(T:Act->World->Prop):Pl->Act->World->Prop
 | .fin,a,w=>C w/\T a w
 | .rd i p,a,w=>C w/\∃o v,ops[i]? =some o/\Stays P ops C o v a/\Bp2 P ops C T p (a.put o.dst v) w
 | .e1 j p,a,w=>C w/\Az5 P ops j (Bp2 P ops C T p) a w
 | .e2 j p k _ q,a,w=>C w/\Az5 P ops j (Bp2 P ops C T p) a w/\Az5 P ops k (Bp2 P ops C T q) a w
theorem Cs{Q:Exit->Act->World->Prop}{j:Nat}{a:Act}{w:World}{K K':Act->World->Prop}(hk: ∀b u,K b u->K' b u)(h:Az5 P ops j K a w):wpOp P ops Q j K' a w:=by
 unfold Az5 at h
 split at h
 ·rename_i o ho
  exact T0 ho hk h
 ·exact h.elim
end
def evT(P:Program)(n:Nat)(ops:Array Oper)(C:World->Prop)(K:List (Nat×Value)->World->List Giv->Prop):Pl->List Giv->List (Nat×Value)->World->Prop
 | .fin,g,l,w=>C w/\K l w g
 | .rd i p,g,l,w=>C w/\match ops[i]? with
  | some o=>match o.dst,gdL ops l o with
   | some d,some true=>match decide (d<n) with
    | true=>Vu P C l o g (fun v g'=>evT P n ops C K p g' ((d,v)::l) w)
    | false=>False
   | _,_=>False
  | none=>False
 | .e1 j p,g,l,w=>C w/\match ops[j]? with
  | some o=>match Q2 n o.dst,gdL ops l o with
   | true,some true=>Ak7 P l w o g (fun v w' g'=>evT P n ops C K p g' (Eu o.dst v l) w')
   | _,_=>False
  | none=>False
 | .e2 j p k g2 q,g,l,w=>C w/\(match ops[j]? with
  | some o=>match Q2 n o.dst,gdL ops l o with
   | true,some true=>Ak7 P l w o g (fun v w' g'=>evT P n ops C K p g' (Eu o.dst v l) w')
   | _,_=>False
  | none=>False)/\(match ops[k]? with
  | some o=>match Q2 n o.dst,gdL ops l o with
   | true,some true=>Ak7 P l w o g2 (fun v w' g'=>evT P n ops C K q g' (Eu o.dst v l) w')
   | _,_=>False
  | none=>False)
theorem Kb{P:Program}{n:Nat}{ops:Array Oper}{C:World->Prop}{T:Act->World->Prop}{K:List (Nat×Value)->World->List Giv->Prop}{Fr:Act->Prop}(hFr: ∀(o:Oper) (b:Act) (v:Value),o∈ops->Fr b->Fr (b.put o.dst v))
  (hT: ∀a' l' w' g',a'.tmps.size=n->a'.defers=df->Agr a' l'->Fr a'->K l' w' g'->T a' w'): ∀(p:Pl) (g:List Giv) (l:List (Nat×Value)) (w:World) (a:Act),
  a.tmps.size=n->a.defers=df->Agr a l->Fr a->evT P n ops C K p g l w->Bp2 P ops C T p a w
 | .fin,g,l,w,a,h1,h2,h3,h4,h=>⟨h.1,hT a l w g h1 h2 h3 h4 h.2⟩
 | .rd i p,g,l,w,a,h1,h2,h3,h4,h=>by
  unfold evT at h
  refine⟨h.1, ?_⟩
  have h:=h.2
  split at h
  ·rename_i o ho
   have hmem:o∈ops:=Array.mem_of_getElem? ho
   split at h
   ·rename_i d hd hg
    split at h
    ·rename_i hdn
     have hdn:d<n:=by simpa using hdn
     obtain⟨v,g',hw,hh⟩:=V4 h3 h
     refine⟨o,v,ho,⟨by rw[F7 h3 hg],⟨d,hd,by rw[h1];exact hdn⟩,hw⟩, ?_⟩
     have hag:Agr (a.put o.dst v) ((d,v)::l):=by
      have:=L5 (d:=some d) (v:=v) h3 h1 (by simpa[Q2] using hdn)
      rw[hd]
      exact this
     exact Kb hFr hT p g' _ w (a.put o.dst v) ((F3 _ _ _).trans h1) ((put_defers _ _ _).trans h2) hag (hFr o a v hmem h4) hh
    ·exact h.elim
   ·exact h.elim
  ·exact h.elim
 | .e1 j p,g,l,w,a,h1,h2,h3,h4,h=>by
  unfold evT at h
  refine⟨h.1, ?_⟩
  have h:=h.2
  unfold Az5
  split at h
  ·rename_i o ho
   have hmem:o∈ops:=Array.mem_of_getElem? ho
   split at h
   ·rename_i hd hg
    refine wpList_step fun N hN=> ?_
    rw[if_pos (by rw[F7 h3 hg])]
    refine V8 h3 h fun v w' g' hh=>hN _ _ ?_
    exact Kb hFr hT p g' _ w' (a.put o.dst v) ((F3 _ _ _).trans h1) ((put_defers _ _ _).trans h2) (L5 h3 h1 hd) (hFr o a v hmem h4) hh
   ·exact h.elim
  ·exact h.elim
 | .e2 j p k g2 q,g,l,w,a,h1,h2,h3,h4,h=>by
  unfold evT at h
  obtain⟨hC,hA,hB⟩:=h
  refine⟨hC, ?_, ?_⟩
  ·unfold Az5
   split at hA
   ·rename_i o ho
    have hmem:o∈ops:=Array.mem_of_getElem? ho
    split at hA
    ·rename_i hd hg
     refine wpList_step fun N hN=> ?_
     rw[if_pos (by rw[F7 h3 hg])]
     refine V8 h3 hA fun v w' g' hh=>hN _ _ ?_
     exact Kb hFr hT p g' _ w' (a.put o.dst v) ((F3 _ _ _).trans h1) ((put_defers _ _ _).trans h2) (L5 h3 h1 hd) (hFr o a v hmem h4) hh
    ·exact hA.elim
   ·exact hA.elim
  ·unfold Az5
   split at hB
   ·rename_i o ho
    have hmem:o∈ops:=Array.mem_of_getElem? ho
    split at hB
    ·rename_i hd hg
     refine wpList_step fun N hN=> ?_
     rw[if_pos (by rw[F7 h3 hg])]
     refine V8 h3 hB fun v w' g' hh=>hN _ _ ?_
     exact Kb hFr hT q g' _ w' (a.put o.dst v) ((F3 _ _ _).trans h1) ((put_defers _ _ _).trans h2) (L5 h3 h1 hd) (hFr o a v hmem h4) hh
    ·exact hB.elim
   ·exact hB.elim
variable {df:List Deferred}
set_option maxRecDepth 100000
section
variable {P:Program} {md:Region.Mode} {ops:Array Oper} {C:World->Prop}
end
variable {df:List Deferred}
set_option maxRecDepth 100000
section
variable {P:Program} {md:Region.Mode} {ops:Array Oper} {C:World->Prop}
theorem Y0{done:Array Bool}{j:Nat}(h:j∈Region.ready md ops done):j<ops.size:=by
 obtain⟨_,o,ho,_⟩:=mem_ready.1 h
 exact(Array.getElem?_eq_some_iff.1 ho).1
theorem Kc{Q:Exit->Act->World->Prop}{i:Nat}{o:Oper}{v:Value}{L:Array Bool->Act->World->Prop}(hQ: ∀c a w,Q (.panic c) (a.put o.dst v) w->Q (.panic c) a w)(ho:ops[i]? =some o)(hsel: ∀(j:Nat) (o:Oper) cs b,ops[j]? =some o->o.op≠.select cs b)
    (hL: ∀done a w,L done a w->Region.ready md ops done=[]) (f:Nat):
    ∀ (done : Array Bool) (a : Act) (w : World), HeadInv md ops ops.size done →
      (∀j oj,ops[j]? =some oj->j≠i->done.getD j true=false->(∀e∈oj.after,Region.binds md e=true->e.on≠i)->o.apart ops oj=true)->
      i∈Region.ready md ops done->Stays P ops C o v a->headC P md ops C Q ops.size L f (done.setIfInBounds i true) (a.put o.dst v) w->headC P md ops C Q ops.size L (f+1) done a w:=by
  induction f with
  | zero=>
    intro done a w inv _ hr hy H
    refine⟨H.cls,fun e=>(by rw[e] at hr;cases hr),fun j hj=> ?_⟩
    by_cases e:j=i
    · subst e;exact⟨Y0 hj,hy.wpOp ho H.cls H⟩
    · have h1:=hL _ _ _ H.2
      have h2:=ready_mono hj e
      rw[h1] at h2
      cases h2
  | succ f ih=>
    intro done a w inv hap hr hy H
    have hun:=(mem_ready.1 hr).1
    refine⟨H.cls,fun e=>(by rw[e] at hr;cases hr),fun j hj=> ?_⟩
    have hjn:j<ops.size:=Y0 hj
    refine⟨hjn, ?_⟩
    by_cases e:j=i
    · subst e;exact hy.wpOp ho H.cls H
    obtain⟨hj1,oj,hoj,hj2⟩:=mem_ready.1 hj
    have hfree: ∀x∈oj.after,Region.binds md x=true->x.on≠i:=fun x hx hb hxi=>by
      have:=hj2 x hx hb
      rw[hxi,getD_both hun] at this
      cases this
    refine wpOp_mono (fun a' w' h3=> ?_) (Kp hoj (hap j oj hoj e hj1 hfree) (fun cs b=>hsel i o cs b ho) (fun cs b=>hsel j oj cs b hoj) hQ hy (H.2.2 j (ready_mono hj e)).2)
    refine ih (done.setIfInBounds j true) a' w' (inv.set hj hjn) (fun k ok hk hki hku hkf=>hap k ok hk hki ?_ hkf) (ready_mono hr (Ne.symm e)) h3.1 (by rw[Array.setIfInBounds_comm _ _ e];exact h3.2)
    by_cases hjk:j=k
    · subst hjk;exact hj1
    · rwa [getD_set_ne true hjk] at hku
def Y3(md:Region.Mode)(ops:Array Oper):Pl->Nat->Array Bool->Bool
 | .fin,0,done=>decide (Region.ready md ops done=[])
 | .rd i p,f+1,done=>(Region.ready md ops done).contains i&&Region.free md ops done i&&Y3 md ops p f (done.setIfInBounds i true)
 | .e1 j p,f+1,done=>decide (Region.ready md ops done=[j])&&Y3 md ops p f (done.setIfInBounds j true)
 | .e2 j p k _ q,f+1,done=>decide (Region.ready md ops done=[j,k])&&Y3 md ops p f (done.setIfInBounds j true)&&Y3 md ops q f (done.setIfInBounds k true)
 | _,_,_=>false
theorem Qx{Q:Exit->Act->World->Prop}{T:Act->World->Prop}(hQ: ∀c a b w,Q (.panic c) a w->Q (.panic c) b w)(hsel:Region.noSelect ops=true)(p:Pl):
    ∀ (f : Nat) (done : Array Bool) (a : Act) (w : World), HeadInv md ops ops.size done → Y3 md ops p f done = true → Bp2 P ops C T p a w →
      headC P md ops C Q ops.size (fun d a' w'=>Region.ready md ops d=[]/\T a' w') f done a w:=by
  induction p with
  | fin=>
    intro f done a w inv hB h
    cases f with
    | zero=>
      simp only[Y3,decide_eq_true_eq] at hB
      exact⟨h.1,hB,h.2⟩
    | succ f=>simp[Y3] at hB
  | rd i p ih=>
    intro f done a w inv hB h
    cases f with
    | zero=>simp[Y3] at hB
    | succ f=>
      simp only[Y3,Bool.and_eq_true] at hB
      obtain⟨⟨hr,hf⟩,hB2⟩:=hB
      have hr2:i∈Region.ready md ops done:=by simpa using hr
      obtain⟨_,o,v,hio,hy,hK⟩:=h
      exact Kc (fun c a w=>hQ c _ _ w) hio (Region.noSelect_spec hsel) (fun d a' w' hd=>hd.1) f done a w inv (Region.free_spec hio hf) hr2 hy
        (ih f _ _ w (inv.set hr2 (Y0 hr2)) hB2 hK)
  | e1 j p ih=>
    intro f done a w inv hB h
    cases f with
    | zero=>simp[Y3] at hB
    | succ f=>
      simp only[Y3,Bool.and_eq_true,decide_eq_true_eq] at hB
      obtain⟨hr,hB2⟩:=hB
      refine⟨h.1,by rw[hr];simp,fun k hk=> ?_⟩
      have hkn:=Y0 hk
      rw[hr] at hk
      have hij:k=j:=by simpa using hk
      subst hij
      exact⟨hkn,Cs (fun b u hb=>ih f _ b u (inv.set (by rw[hr];simp) hkn) hB2 hb) h.2⟩
  | e2 j p k g' q ih ih2=>
    intro f done a w inv hB h
    cases f with
    | zero=>simp[Y3] at hB
    | succ f=>
      simp only[Y3,Bool.and_eq_true,decide_eq_true_eq] at hB
      obtain⟨⟨hr,hB2⟩,hB3⟩:=hB
      refine⟨h.1,by rw[hr];simp,fun i hi=> ?_⟩
      have hin:=Y0 hi
      rw[hr] at hi
      have hij:i=j\/i=k:=by simpa using hi
      rcases hij with rfl | rfl
      · exact⟨hin,Cs (fun b u hb=>ih f _ b u (inv.set (by rw[hr];simp) hin) hB2 hb) h.2.1⟩
      · exact⟨hin,Cs (fun b u hb=>ih2 f _ b u (inv.set (by rw[hr];simp) hin) hB3 hb) h.2.2⟩
end
def Wm(ops:List Oper)(p:Pl):Bool:=Region.noSelect ops.toArray&&Y3 .any ops.toArray p ops.length (Array.replicate ops.length false)
theorem Bp3{P:Program}{id:Nat}{Q:Exit->Act->World->Prop}{a:Act}{w:World}{l:List Oper}(C:World->Prop)(p:Pl)(hm:P.follows .mixedOrders=true)(hB:Wm l p=true)
  (h:Bp2 P l.toArray C (Q .normal) p a {w with drawn:=w.drawn+1}):rg P Q a w (.region id l.toArray true):=by
 unfold Wm at hB
 simp only[Bool.and_eq_true] at hB
 obtain⟨hsel,hplan⟩:=hB
 have inv:HeadInv .any l.toArray l.toArray.size (Array.replicate l.length false):=
  ⟨by simp,fun j oj _ hl=>(by rw[getD_replicate_false] at hl;cases hl),fun t h1 h2=>by omega⟩
 have H:=Qx (P:=P) (md:=.any) (C:=C) (Q:=NoPanic Q) (T:=Q .normal) (fun c a b w h=>h) hsel p _ _ a _ inv hplan h
 refine⟨hm,NoPanic Q,NoPanic.imp, ?_⟩
 have:=Dk (Q:=NoPanic Q) (g:=0) (fun done a' w' hL=>⟨by rw[hL.1],hL.2⟩) _ _ a _ H
 rw[Nat.add_zero] at this
 have e:l.length=l.toArray.size:=by simp
 rw[e] at this
 simpa using this
def Eu2(P:Program)(n:Nat)(p:Pl)(ds:List Nat)(C:World->Prop)(g:List Giv)(l0:List (Nat×Value))(w:World)(K:List (Nat×Value)->World->Prop):Code->Prop
 | .region _ ⟨ops⟩ true=>match Be ds ops,P.follows .mixedOrders,Wm ops p with
  | true,true,true=>evT P n ⟨ops⟩ C (fun l2 w2 _=>K l2 w2) p g l0 (w.drewN 1)
  | _,_,_=>False
 | _=>False
theorem Cd4{P:Program}{n:Nat}{a:Act}{w:World}{l l0:List (Nat×Value)}{c:Code}{N:Act->World->Prop}{Q:Exit->Act->World->Prop}{T:Prop}(p:Pl)(C:World->Prop)(keep ds:List Nat)(g:List Giv)(hs:Sl n a l df)(h0:AllL l l0)(hT:T)
  (he:T=Eu2 P n p ds C g l0 w (fun l1 w'=> ∀a',Sl n a' (Re keep l1 (A6 ds l)) df->N a' w') c):rg P (Exit.then N Q) a w c:=by
 rw[he] at hT
 unfold Eu2 at hT
 split at hT
 ·rename_i id ops
  split at hT
  ·rename_i hd hm hB
   have hno: ∀p∈A6 ds l,∀o∈ops,o.dst≠some p.1:=fun p hp o ho e=>by
    obtain⟨_,hp2⟩:=List.mem_filter.1 hp
    exact I3 hd p.1 (by simpa using hp2) (List.mem_map.2 ⟨o,ho,e⟩)
   refine Bp3 C p hm hB ?_
   have hFr: ∀(o:Oper) (b:Act) (v:Value),o∈(⟨ops⟩:Array Oper)->(∀p∈A6 ds l,F9 b p.1=p.2)->(∀p∈A6 ds l,F9 (b.put o.dst v) p.1=p.2):=fun o b v ho hb p hp=>(M0 b _ v p.1 (hno p hp o (by simpa using ho))).trans (hb p hp)
   refine Kb (df:=df) (Fr:=fun b=> ∀p∈A6 ds l,F9 b p.1=p.2) hFr ?_ p g l0 _ a hs.size hs.defers (hs.to h0).agr (fun p hp=>hs.known p (List.mem_filter.1 hp).1) hT
   intro a' l' w' g' q1 q2 q3 q4 q5
   exact q5 a' (O9 q3 keep ⟨q1,q2,fun p hp=>q4 p hp⟩)
  ·exact hT.elim
 ·exact hT.elim
end Go.Proofs.YtbjegfpfmnleeaaGreatDoor
namespace Go.Proofs.YtbjegfpfmnleeaaGreatDoor
open Go.RowKit Go.Maps
abbrev IM:=List (Int×Value)
def Vh(v:Value):Option (DataW Value×List MemPlace):=some (.held v,[])
def mE(p:Int×Value):Lit×DataW Value:=(.int .i64 p.1,.held p.2)
def mD(M:IM):DataW Value:=.map (M.map mE)
def Gq(k:Int)(v:Value):IM->IM
 | []=>[(k,v)]
 | y::r=>if k<y.1 then(k,v)::y::r else y::Gq k v r
def Cj(k:Int)(M:IM):IM:=M.filter fun p=> !decide (p.1=k)
def X3(k:Int)(v:Value)(M:IM):IM:=Gq k v (Cj k M)
def Bc(k:Int)(M:IM):Option Value:=(M.find? fun p=>decide (p.1=k)).map (·.2)
theorem Ax1(k:Int)(v:Value): ∀M:IM,DataW.insert (mE (k,v)) (M.map mE)=(Gq k v M).map mE
 | []=>rfl
 | y::r=>by
  by_cases h:k<y.1
  ·simp[DataW.insert,Gq,h,mE,Lit.before]
  ·have ih:=Ax1 k v r
   simp only[List.map_cons,DataW.insert,Gq,if_neg h]
   rw[if_neg (by simp[mE,Lit.before,h]),ih]
theorem Gs(p:Int×Value)(k:Int):(mE p).1.sameKey (.int .i64 k)=decide (p.1=k):=by simp[mE,Lit.sameKey]
theorem Jm(k:Int)(M:IM):(M.map mE).filter (fun p=> !p.1.sameKey (.int .i64 k))=(Cj k M).map mE:=by
 rw[List.filter_map]
 congr 1
 apply List.filter_congr
 intro p _
 simp[Gs]
theorem Cq5(k:Int)(v:Value)(M:IM):(mD M).put (.int .i64 k) (.held v)=mD (X3 k v M):=by
 show DataW.map (DataW.insert (mE (k,v)) ((M.map mE).filter fun p=> !p.1.sameKey (.int .i64 k)))=_
 rw[Jm,Ax1]
 rfl
theorem Cq6(k:Int)(M:IM):(mD M).del (.int .i64 k)=mD (Cj k M):=by
 show DataW.map ((M.map mE).filter fun p=> !p.1.sameKey (.int .i64 k))=_
 rw[Jm]
 rfl
theorem Bm7(k:Int)(M:IM):(M.map mE).find? (fun p=>p.1.sameKey (.int .i64 k))=(M.find? fun p=>decide (p.1=k)).map mE:=by
 rw[List.find?_map]
 congr 1
 congr 1
 funext p
 exact Gs p k
theorem Cq7(k:Int)(z:Value)(M:IM):(mD M).atKey (.int .i64 k) (.held z)=.held ((Bc k M).getD z):=by
 unfold DataW.atKey mD
 simp only[Bm7,Bc]
 cases M.find? (fun p=>decide (p.1=k))<;>rfl
theorem Cq8(k:Int)(M:IM):Maps.has (mD M) (.int .i64 k)=(Bc k M).isSome:=by
 show(M.map mE).any (fun p=>p.1.sameKey (.int .i64 k))=_
 rw[Bc,Option.isSome_map,Bool.eq_iff_iff,List.find?_isSome,List.any_eq_true]
 constructor
 ·rintro⟨q,hq,h⟩
  obtain⟨p,hp,rfl⟩:=List.mem_map.1 hq
  exact⟨p,hp,(Gs p k).symm.trans h⟩
 ·rintro⟨p,hp,h⟩
  exact⟨mE p,List.mem_map_of_mem hp,(Gs p k).trans h⟩
theorem Vi(M:IM):intKeys (mD M)=M.map (·.1):=by
 show(M.map mE).map _=_
 rw[List.map_map]
 rfl
theorem Gt(M:IM):Maps.size (mD M)=M.length:=by
 show(M.map mE).length=_
 simp
def MapI(w:World)(b n:Nat)(M:IM):Prop:=w.ownsMap Tryz.prog 3 Vh b n (mD M)
theorem Aj1:Keyed Tryz.prog 3:=int_keyed (q:=.i64) Tryz.underlying3
theorem Aj2{k:Int}(h: -9223372036854775808<=k/\k<=9223372036854775807):keyOf Tryz.prog 3 (.int .i64 k)=some (.int .i64 k):=
 keyOf_int_mk (q:=.i64) Tryz.underlying3 (by
  have e1:IntKind.i64.min= -9223372036854775808:=by decide
  have e2:IntKind.i64.max=9223372036854775807:=by decide
  simp only[Lit.wf,e1,e2,Bool.and_eq_true,decide_eq_true_eq]
  exact h)
variable {w:World} {b n:Nat} {M:IM} {t e:TypeId} {z:Value} {k:Int}
theorem Jn{v x:Value}{ps:List MemPlace}(h:Vh v=some (.held x,ps)):v=x:=by
 simp[Vh] at h
 exact h.1
theorem MapI.look(h:MapI w b n M)(ht:Tryz.prog.underlying t=some (.map 3 e))(hz: ∀w,(zeroValue e).run Tryz.prog w=.ok z w)(hk: -9223372036854775808<=k/\k<=9223372036854775807):
  Lkp Tryz.prog t (.map (some b)) (.int .i64 k) false ((Bc k M).getD z) w:=fun m=>by
 obtain⟨v,ps,hr,hv⟩:=World.ownsMap.lookup (w:=w.drewN m) h Aj1 ht (hz _) (zd:=.held z) (zp:=[]) rfl (Aj2 hk)
 rw[Cq7] at hv
 rw[Jn hv] at hr
 exact hr
theorem MapI.look2(h:MapI w b n M)(ht:Tryz.prog.underlying t=some (.map 3 e))(hz: ∀w,(zeroValue e).run Tryz.prog w=.ok z w)(hk: -9223372036854775808<=k/\k<=9223372036854775807):
  Lkp Tryz.prog t (.map (some b)) (.int .i64 k) true (.tuple #[(Bc k M).getD z,.bool (Bc k M).isSome]) w:=fun m=>by
 obtain⟨v,ps,hr,hv⟩:=World.ownsMap.look_ok (w:=w.drewN m) h Aj1 ht (hz _) (zd:=.held z) (zp:=[]) rfl (Aj2 hk)
 rw[Cq7] at hv
 rw[Jn hv,Cq8] at hr
 exact hr
theorem MapI.store(h:MapI w b n M)(ht:Tryz.prog.underlying t=some (.map 3 e))(hn:n<maxLen)(hk: -9223372036854775808<=k/\k<=9223372036854775807)(v:Value):
  ∃w',(Instr.mapUpdate t (.map (some b)) (.int .i64 k) v).run Tryz.prog w=.ok () w'/\MapI w' b (n+1) (X3 k v M)/\w.mapTurned w' b:=by
 obtain⟨w',hr,ho,hm⟩:=World.ownsMap.store h Aj1 ht hn (Aj2 hk) (val:=v) (d:=.held v) (ps:=[]) rfl
 rw[Cq5] at ho
 exact⟨w',hr,ho,hm⟩
theorem MapI.drop(h:MapI w b n M)(ht:Tryz.prog.underlying t=some (.map 3 e))(hk: -9223372036854775808<=k/\k<=9223372036854775807)(ty:TypeId):
  ∃w',(Builtin.delete_ #[t,3] ty #[.map (some b),.int .i64 k]).run Tryz.prog w=.ok (.tuple #[]) w'/\MapI w' b n (Cj k M)/\w.mapTurned w' b:=by
 obtain⟨w',hr,ho,hm⟩:=World.ownsMap.drop h Aj1 ht (Aj2 hk) ty
 rw[Cq6] at ho
 exact⟨w',hr,ho,hm⟩
theorem MapI.made(w:World):MapI (w.alloc (.map #[] 0)) w.heap.size 0 []:=World.ownsMap_made w _ _ _
theorem MapI.keep{w':World}(h:MapI w b n M)(hk:w'.heap[b]? =w.heap[b]?):MapI w' b n M:=by
 obtain⟨es,clock,hb,r⟩:=h
 exact⟨es,clock,hk.trans hb,r⟩
end Go.Proofs.YtbjegfpfmnleeaaGreatDoor
