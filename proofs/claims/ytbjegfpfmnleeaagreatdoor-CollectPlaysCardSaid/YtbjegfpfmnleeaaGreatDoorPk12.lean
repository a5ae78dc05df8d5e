/-
   Written by an AI agent.
-/
import Derived.Test.YtbjegfpfmnleeaaGreatDoorPk11
import Derived.Shelf.Abstract
namespace Go.Proofs.YtbjegfpfmnleeaaGreatDoor
open Go.RowKit
set_option maxRecDepth 100000
structure Moved (O:Nat->Prop) (w w':World):Prop where
 size:w.heap.size<=w'.heap.size
 os:w'.os=w.os
 tape:w'.tape=w.tape
 output:w'.output=w.output
 block: ∀b,b<w.heap.size->¬O b->w'.heap[b]? =w.heap[b]?
theorem Moved.of_below{O:Nat->Prop}{w w':World}(h:Below w.heap.size w w'):Moved O w w':=⟨h.size,h.os,h.tape,h.output,fun b hb _=>h.block b hb⟩
theorem Moved.trans{O:Nat->Prop}{a b c:World}(h:Moved O a b)(k:Moved (fun x=>O x\/a.heap.size<=x) b c):Moved O a c:=
 ⟨Nat.le_trans h.size k.size,k.os.trans h.os,k.tape.trans h.tape,k.output.trans h.output,fun x hx ho=>(k.block x (Nat.lt_of_lt_of_le hx h.size) (fun e=>e.elim ho Zo)).trans (h.block x hx ho)⟩
theorem Moved.more{O O':Nat->Prop}{a b:World}(h:Moved O a b)(ho: ∀x,O x->O' x):Moved O' a b:=⟨h.size,h.os,h.tape,h.output,fun x hx hn=>h.block x hx (fun e=>hn (ho x e))⟩
theorem Moved.ext{O:Nat->Prop}{B:Nat}{a b c:World}(h:Moved O a b)(e:Ext B b c)(hB:a.heap.size<=B):Moved O a c:=
 ⟨Nat.le_trans h.size e.size,e.os.trans h.os,e.tape.trans h.tape,e.output.trans h.output,fun x hx ho=>(e.low x Zo).trans (h.block x hx ho)⟩
theorem Moved.set{O:Nat->Prop}{a b:World}(h:Moved O a b){g:Nat}(hg:O g\/a.heap.size<=g)(o:Nat)(vs:List Value):Moved O a (b.setCells g o vs):=
 ⟨by rw[B7];exact h.size,((E8 g vs o b).1).trans h.os,((E8 g vs o b).2.1).trans h.tape,((E8 g vs o b).2.2).trans h.output,fun x hx ho=>(B5 vs o b (fun e=>by subst e;exact hg.elim ho Zo)).trans (h.block x hx ho)⟩
theorem Moved.two{O:Nat->Prop}{a b c:World}{g g':Nat}(h:Moved O a b)(t:Two b c g g')(hg:O g\/a.heap.size<=g)(hg':O g'\/a.heap.size<=g'):Moved O a c:=
 ⟨by rw[t.size];exact h.size,t.os.trans h.os,t.tape.trans h.tape,t.output.trans h.output,fun x hx ho=>(t.block x (fun e=>by subst e;exact hg.elim ho Zo) (fun e=>by subst e;exact hg'.elim ho Zo)).trans (h.block x hx ho)⟩
theorem Moved.below{O:Nat->Prop}{n:Nat}{w0 a b:World}(h:Moved O a b)(hb:Below n w0 a)(ho: ∀x,x<n->¬O x)(hn:n<=a.heap.size):Below n w0 b:=
 ⟨h.os.trans hb.os,h.tape.trans hb.tape,h.output.trans hb.output,Nat.le_trans hb.size h.size,fun x hx=>(h.block x Zo (ho x hx)).trans (hb.block x hx)⟩
theorem Cv2:(Tryz.prog.info? 161).map (fun i=>(i.zero,i.size,decide (i.bytes<=200)))=some (some (.pointer none),1,true):=by kernel_rfl
theorem Ak4(n:Nat)(hn:n<=1099511627776)(w:World): ∃w',(Instr.makeSlice 167 (ii (n:Int)) (ii (n:Int))).run Tryz.prog w=.ok (.slice (some ⟨w.heap.size,0,none⟩) n n) w'/\(∃cur,Blk w' w.heap.size 161 cur/\cur.size=n/\∀i,i<n->cur[i]? =some (.pointer none))/\Below w.heap.size w w':=by
 obtain⟨i,hi,hz⟩:=Option.map_eq_some_iff.1 Cv2
 injection hz with hz0 hz
 injection hz with hz1 hz2
 have hb:i.bytes<=200:=by simpa using hz2
 obtain⟨w',h1,h2,h3⟩:=run_make_full (P:=Tryz.prog) w w.heap.size 167 161 i _ 1 Tryz.underlying167 hi hz0 hz1 .i64 .i64 n (by
  have:i.bytes*n<=200*n:=Nat.mul_le_mul_right _ hb
  omega) (by unfold maxLen;omega) (Nat.le_refl _)
 refine⟨w',h1, ?_,J7 h3⟩
 rcases h2.2 with⟨e,_⟩ | ⟨g,cap,cur,e,hB,hh,hc,hm,hs,ht⟩
 ·cases e
 ·injection e with e1 _ e3
  injection e1 with e1
  injection e1 with e1
  subst e1 e3
  refine⟨cur,hh,by simpa using hs,fun i hi=> ?_⟩
  have h4:(madeCells (Value.pointer none).cells (n*1)).toList[i]? =some (.pointer none):=by
   rw[Array.getElem?_toList]
   simp[madeCells,Value.cells,Array.getElem?_map,hi]
   rw[Nat.mod_one]
   rfl
  rw[<-ht,List.getElem?_take_of_lt Zo,Array.getElem?_toList] at h4
  exact h4
section
variable {w w':World} {m hb n:Nat} {fr tx:Option Addr} {many:Int} {H N B A:Nat->Option Addr} {R:List En} {D:Nat->Prop}
theorem Raw.ext{n0:Nat}(h:Raw w m hb n fr tx many H N B A R D)(e:Ext n0 w w'):Raw w' m hb n fr tx many H N B A R D where
 map:=let⟨cs,h1,h2⟩:=h.map;⟨cs,h1.ext e,h2⟩
 heads:=let⟨t,hs,h1,h2⟩:=h.heads;⟨t,hs,h1.ext e,h2⟩
 ent:=fun x hx=>let⟨ma,mb,h1,h2,h3⟩:=h.ent x hx;⟨ma,mb,h1.ext e,h2.ext e,h3.ext e⟩
 nd:=h.nd
 far:=h.far
 out:=h.out
 ok:=h.ok
 dlt:=fun b hd=>Nat.lt_of_lt_of_le (h.dlt b hd) e.size
theorem Raw.rehead(h:Raw w m hb n fr tx many H N B A R D){hb' n':Nat}{t:TypeId}{hs:Array Value}(hB:Blk w hb' t hs)(hz:hs.size=n')(hn: ∀i,i<n'->hs[i]? =some (.pointer none))(hm:hb'≠m)(he: ∀e∈R,e.g≠hb')(hD: ¬D hb'):
  Raw (w.setCells m 8 [.slice (some ⟨hb',0,none⟩) n' n']) m hb' n' fr tx many (fun _=>none) N B A R D where
 map:=by
  obtain⟨cs,h1,h2,h3,h4,h5,h6⟩:=h.map
  exact⟨_,h1.set_ 8 _,by simpa using h2,by rw[Array.getElem?_setIfInBounds_self_of_lt Zo],by rw[Array.getElem?_setIfInBounds_ne Zo,h4],by rw[Array.getElem?_setIfInBounds_ne Zo,h5],by rw[Array.getElem?_setIfInBounds_ne Zo,h6]⟩
 heads:=⟨t,hs,hB.far (p:=⟨m,8,none⟩) hm _,Zo,hn,fun e=>absurd e hm⟩
 ent:=fun x hx=>by
  obtain⟨mk,mv,h1,h2,h3⟩:=h.ent x hx
  exact⟨mk,mv,h1.far (p:=⟨m,8,none⟩) (h.far x hx).1 _,K7 _ 8 h2 h.out.1,K7 _ 8 h3 h.out.1⟩
 nd:=h.nd
 far:=fun e he'=>⟨(h.far e he').1,he e he'⟩
 out:=⟨h.out.1,hD,h.out.2.2⟩
 ok:=h.ok
 dlt:=fun b hd=>by rw[B7];exact h.dlt b hd
theorem Raw.clr(h:Raw w m hb n fr tx many H N B A R D)(hne:hb≠m)(v:Value):Raw (w.setCells m 0 (List.replicate 8 v)) m hb n fr tx many H N B A R D where
 map:=by
  obtain⟨cs,h1,h2,h3,h4,h5,h6⟩:=h.map
  refine⟨_,Blk.setL (List.replicate 8 v) 0 _ _ h1,by rw[K5,h2], ?_⟩
  simp only[List.replicate,List.foldl_cons,List.foldl_nil]
  refine⟨?_, ?_, ?_, ?_⟩
  all_goals repeat rw[Array.getElem?_setIfInBounds_ne Zo]
  all_goals assumption
 heads:=by
  obtain⟨t,hs,h1,h2,h3,h4⟩:=h.heads
  exact⟨t,hs,Blk.farL hne _ _ _ h1,h2,h3,h4⟩
 ent:=fun x hx=>by
  obtain⟨mk,mv,h1,h2,h3⟩:=h.ent x hx
  exact⟨mk,mv,Blk.farL (h.far x hx).1 _ _ _ h1,K7 _ 0 h2 h.out.1,K7 _ 0 h3 h.out.1⟩
 nd:=h.nd
 far:=h.far
 out:=h.out
 ok:=h.ok
 dlt:=fun b hd=>by rw[B7];exact h.dlt b hd
end
theorem Sl.yield1{n:Nat}{a:Act}{l:List (Nat×Value)}{df:List Deferred}(h:Sl n a l df)(p:Nat)(hp:p<n)(v:Value):Sl n {tmps:=(#[p].zip #[v]).foldl (fun t (q:Nat×Value)=>t.setIfInBounds q.1 q.2) a.tmps,defers:=[]} ((p,v)::A6 [p] l):=by
 have e:(#[p].zip #[v]).foldl (fun t (q:Nat×Value)=>t.setIfInBounds q.1 q.2) a.tmps=a.tmps.setIfInBounds p v:=by simp
 rw[e]
 refine⟨by simpa using h.size,rfl,fun q hq=> ?_⟩
 have hs:=h.size
 rcases List.mem_cons.1 hq with rfl | hq
 ·simp[F9,hs,hp]
 ·unfold A6 at hq
  obtain⟨h1,h2⟩:=List.mem_filter.1 hq
  have hne:q.1≠p:=by simpa using h2
  have:=h.known q h1
  unfold F9 at this ⊢
  simp only[Array.getD_eq_getD_getElem?] at this ⊢
  rw[Array.getElem?_setIfInBounds_ne (Ne.symm hne)]
  exact this
theorem Az2(R:List En):pO R.reverse.head? =pO R.getLast? :=by rw[List.head?_reverse]
def NOk(n:Nat)(R:List En)(N:Nat->Option Addr):Prop:= ∀X e Z,R=X++e::Z->N e.g=pO (Z.find? (bkB n e.hash))
theorem NOk.push{n:Nat}{R:List En}{N H:Nat->Option Addr}{e:En}(h:NOk n R N)(hH:HeadsOk n R H)(hn:0<n)(hne: ∀x∈R,x.g≠e.g):NOk n (e::R) (upd N e.g (H (e.hash.toNat % n))):=by
 intro X x Z hX
 cases X with
 | nil=>
  injection hX with h1 h2
  subst h1 h2
  rw[H6,hH _ (Nat.mod_lt _ hn)]
  rfl
 | cons y X=>
  injection hX with h1 h2
  have hx:x∈R:=by rw[h2];simp
  rw[J8 (hne x hx)]
  exact h X x Z h2
theorem HeadsOk.push{n:Nat}{R:List En}{H:Nat->Option Addr}{e:En}(hH:HeadsOk n R H):HeadsOk n (e::R) (upd H (e.hash.toNat % n) (some e.p)):=by
 intro i hi
 by_cases h:i=e.hash.toNat % n
 ·subst h
  rw[H6,List.find?_cons_of_pos (by simp)]
  rfl
 ·rw[J8 h,List.find?_cons_of_neg (by simpa using fun e'=>h e'.symm)]
  exact hH i hi
set_option maxHeartbeats 2000000 in
theorem Wh{w:World}{m hb n:Nat}{H N B A:Nat->Option Addr}{R:List En}{D:Nat->Prop}(hR:Raw w m hb n (pO R.getLast?) (pO R.head?) (R.length:Int) H N B A R D)(hA: ∀X e Z,R=X++e::Z->A e.g=pO X.getLast?)(hn0:0<n)(hn1:n<=549755813888):
  Calls Tryz.prog 98 #[pT m] w fun r w'=>r=.returned (.tuple #[])/\∃hb' H' N',Raw w' m hb' (2*n) (pO R.getLast?) (pO R.head?) (R.length:Int) H' N' B A R D/\HeadsOk (2*n) R H'/\NOk (2*n) R N'/\w.heap.size<=hb'/\Moved (fun b=>b=m\/∃e∈R,b=e.g) w w':=by
 refine X9 (vs:=[pT m]) 23 Tryz.func98 Bo2 Zk (by simp) fun a0 h0=> ?_
 unfold Ay5
 refine Zs (Ei0 h0 rfl fun a1 h1=> ?_)
 have hB1:=Blk.new w 117 #[pT m]
 have hb1:=B2 (Below.refl w.heap.size w) (.cells #[pT m] 117)
 generalize w.alloc (.cells #[pT m] 117)=w1 at hB1 hb1 ⊢
 have hR1:=hR.old hb1
 have hml:=hR.mlt
 obtain⟨cs,hBm,hz,c8,_⟩:=hR1.map
 obtain⟨w2,hmk,⟨cur,hcur,hcz,hcn⟩,hb2⟩:=Ak4 (2*n) Zo (w1.drewN 1)
 have hb12:Below w1.heap.size w1 w2:=A7 (B3 (Below.refl _ _) 1) hb2
 have e2:((2:Int)*(n:Int))=((2*n:Nat):Int):=by omega
 have hBm2:=hBm.below hb12 hBm.lt
 refine Zs (Ei1 (C:=fun u=>Lds Tryz.prog 117 (pT w.heap.size) (pT m) u/\Lds Tryz.prog 167 (.pointer (some ⟨m,8,none⟩)) (.slice (some ⟨hb,0,none⟩) n n) u)
  h1 rfl (fun u hu=>hu.1) (fun u hu=>hu.2) Zo ⟨A9 (hB1.drewN 1) Tryz.underlying117 rfl rfl,A9 (hBm.drewN 1) Tryz.underlying167 rfl c8⟩ (by rw[e2];exact hmk)
  ⟨A9 (hB1.below hb12 hB1.lt) Tryz.underlying117 rfl rfl,A9 hBm2 Tryz.underlying167 rfl c8⟩ (F2 hBm2 Zk Zo rfl) fun a2 h2=> ?_)
 show Code.wp _ _ _ a2 (w2.setCells m 8 [.slice (some ⟨w1.heap.size,0,none⟩) (2*n) (2*n)])
 have hcur':Blk w2 w1.heap.size 161 cur:=hcur
 have hR2:=hR1.old hb12
 have z1:=hB1.lt
 have hR3:=hR2.rehead hcur' hcz hcn Zo (fun e he=>by have:=hR.elt he;omega) (fun hd=>by have:=hR.dlt _ hd;omega)
 have hb02:=A7 hb1 hb12
 have hMv3:Moved (fun b=>b=m\/∃e∈R,b=e.g) w (w2.setCells m 8 [.slice (some ⟨w1.heap.size,0,none⟩) (2*n) (2*n)]):=(Moved.of_below hb02).set (.inl (.inl rfl)) _ _
 have hB3:=(hB1.below hb12 hB1.lt).far (p:=⟨m,8,none⟩) (by show w.heap.size≠m;omega) (.slice (some ⟨w1.heap.size,0,none⟩) (2*n) (2*n))
 change Blk (w2.setCells m 8 [.slice (some ⟨w1.heap.size,0,none⟩) (2*n) (2*n)]) _ _ _ at hB3
 have hz3:w1.heap.size<(w2.setCells m 8 [.slice (some ⟨w1.heap.size,0,none⟩) (2*n) (2*n)]).heap.size:=by rw[B7];exact hcur.lt
 generalize w2.setCells m 8 [.slice (some ⟨w1.heap.size,0,none⟩) (2*n) (2*n)]=w3 at hR3 hMv3 hB3 hz3 ⊢
 obtain⟨hbn,hhbn⟩: ∃x,x=w1.heap.size:=⟨_,rfl⟩
 rw[<-hhbn] at hR3 hz3
 have hml':m<w.heap.size:=hml
 have hsl: ∀w',(Instr.sliceAt 166 (pT m) none none none).run Tryz.prog w'=.ok (.slice (some ⟨m,0,none⟩) 8 8) w':=fun w'=>by kernel_rfl
 obtain⟨cs3,hBm3,hz3',_⟩:=hR3.map
 have hzv: ∀w,(zeroValue 161).run Tryz.prog w=.ok (.pointer none) w:=fun w=>by kernel_rfl
 refine Zs (Ei2 h2 rfl (A9 hB3 Tryz.underlying117 rfl rfl) hsl (fun ty=>⟨_,Lib.run_clear_slice w3 167 161 ty (.pointer none) Tryz.underlying167 hzv rfl rfl m 0 8 8 Zo
  (fun j hj=>by rw[hBm3.cell,Nat.zero_add,Array.getElem?_eq_getElem Zo];rfl) (fun j _=>hBm3.frozen _)⟩) fun a3 h3=> ?_)
 have hR4:=hR3.clr Zo (.pointer none)
 have hMv4:=hMv3.set (.inl (.inl rfl)) 0 (List.replicate 8 (.pointer none))
 have hB4:=Blk.farL (b:=m) (by omega:w.heap.size≠m) (List.replicate 8 (.pointer none)) 0 _ hB3
 have hz4:hbn<(w3.setCells m 0 (List.replicate 8 (.pointer none))).heap.size:=by rw[B7];exact hz3
 generalize w3.setCells m 0 (List.replicate 8 (.pointer none))=w4 at hR4 hMv4 hB4 hz4 ⊢
 refine Zs (Ei3 (C0:=fun x u=>x=.func (.func 130) #[] #[pT w4.heap.size]/\Blk u w4.heap.size 117 #[pT m]/\Below w4.heap.size w4 u) h3 rfl (A9 hB4 Tryz.underlying117 rfl rfl) ((Jy w4 m).mono fun e w' hh=>⟨_,hh.1,rfl,hh.2⟩) fun a4 x5 w5 hx h4=> ?_)
 obtain⟨rfl,hB5,hb5⟩:=hx
 have hR5:=hR4.old hb5
 have hMv5:Moved (fun b=>b=m\/∃e∈R,b=e.g) w w5:=hMv4.trans (Moved.of_below hb5)
 have hB5':=hB4.below hb5 hB4.lt
 have z5:=hb5.size
 have hrev: ∀X e Z,R.reverse=X++e::Z->R=Z.reverse++e::X.reverse:=fun X e Z h=>by
  have:=congrArg List.reverse h
  simpa using this
 refine wp_block ?_
 refine Wc (g:=.tmp 18) (ps:=#[19]) (gf:=130) (lb:=#[pT w4.heap.size]) (h4.look 18 rfl) (Go.Proofs.enters_of Tryz.func130 Zk rfl)
  (Ob R.reverse (by rw[List.map_reverse];exact(List.reverse_perm _).nodup_iff.2 hR.nd) w4.heap.size m w5) (Below.refl _ _) (fun _=>rfl)
  (fun pre W=> ∃H' N',Raw W m hbn (2*n) (pO R.getLast?) (pO R.head?) (R.length:Int) H' N' B A R D/\HeadsOk (2*n) pre.reverse H'/\NOk (2*n) pre.reverse N'/\(∀x∈pre,x∈R)/\Blk W w.heap.size 117 #[pT m]/\Blk W w4.heap.size 117 #[pT m]/\Moved (fun b=>b=m\/∃e∈R,b=e.g) w W)
  (fun _ _ _=>False) ?hI (fun _ _ _ _ h _=>h) ?hM (fun _ _ _ _ h _=>h) ?h0 (fun e a' _=>Sl 23 a' [(2,pT e.g),(1,pT w.heap.size)]) (fun _ _ _ _ h _=>h) ?ha ?hb ?hd (fun _ _ _ h=>h.elim) (fun _ _ _ h _=>h)
 case hI=>
  rintro pre W W' ⟨H',N',q1,q2,q3,q3',q4,q5,q6⟩ e
  exact⟨H',N',q1.ext e,q2,q3,q3',q4.ext e,q5.ext e,q6.ext e (Nat.le_trans hMv5.size (Nat.le_refl _))⟩
 case hM=>
  rintro pre W ⟨H',N',q1,q2,q3,q3',q4,q5,q6⟩
  refine⟨by rw[q5.cell];rfl, ?_,fun X e Z hX=> ?_⟩
  ·obtain⟨cs,r1,_,_,r4,_⟩:=q1.map
   rw[r1.cell,r4,Az2]
  ·have hR':=hrev X e Z hX
   obtain⟨mk,mv,r1,_⟩:=q1.ent e (by rw[hR'];simp)
   rw[r1.cell]
   show some (Value.pointer (A e.g))=_
   rw[hA _ _ _ hR',List.getLast?_reverse]
 case h0=>
  exact⟨_,N,hR5,fun i _=>rfl,(by intro X e Z h;cases X<;>cases h),(fun _ h=>by cases h),hB5',hB5,hMv5⟩
 case ha=>
  rintro l pre x W K hi hy hK
  refine Rc (Ei4 (h4.yield1 19 Zo _) rfl fun a5 h5=>hK a5 W (KeepsFrom.refl _ _) hi hy (h5.to ⟨rfl,rfl,trivial⟩)) Zk (fun⟨_,_,h⟩=>h)
 case hb=>
  rintro l pre x a5 W ⟨H',N',q1,q2,q3,q3',q4,q5,q6⟩ ⟨Z,hZ⟩ h5
  refine wpIn_block (Dn6 (Ei5 h5 rfl rfl (A9 q4 Tryz.underlying117 rfl rfl) (Fv q1 Zo Zo (e:=x) (by have:=hrev _ _ _ hZ;rw[this];simp)) fun a6 W' hx h6=> ?_) Zk (U2 Jw))
  obtain⟨r1,r2⟩:=hx
  have hxR:x∈R:=by have:=hrev _ _ _ hZ;rw[this];simp
  have hml:m<w.heap.size:=hml'
  have hne: ∀y∈pre,y.g≠x.g:=fun y hy e=>by
   have hnd:=hR.nd
   have h2:=hrev _ _ _ hZ
   rw[h2,List.map_append,List.map_cons] at hnd
   have:=(List.nodup_cons.1 (List.nodup_append.1 hnd).2.1).1
   exact this (List.mem_map.2 ⟨y,by simpa using hy,e⟩)
  have hxl:=hR.elt hxR
  refine B1 ⟨?_,_,_,r1, ?_, ?_, ?_, ?_, ?_, ?_⟩
  ·refine⟨by rw[r2.size];exact Nat.le_refl _,fun k o _ hk ho=> ?_⟩
   obtain⟨_,hs',g1,_⟩:=q1.heads
   obtain⟨_,_,g2,_⟩:=q1.ent x hxR
   exact(r2.block k (fun e=>by subst e;rw[g2] at hk;injection hk with hk;subst hk;cases ho) (fun e=>by subst e;rw[g1] at hk;injection hk with hk;subst hk;cases ho)).trans hk
  ·rw[List.reverse_append]
   exact q2.push
  ·rw[List.reverse_append]
   exact q3.push q2 Zo (fun y hy=>hne y (by simpa using hy))
  ·intro y hy
   rcases List.mem_append.1 hy with h | h
   ·exact q3' y h
   ·rw[List.mem_singleton.1 h];exact hxR
  ·exact(r2.block _ Zo Zo).trans q4
  ·exact(r2.block _ Zo Zo).trans q5
  ·exact q6.two r2 (.inl (.inr ⟨x,hxR,rfl⟩)) (.inr Zo)
 case hd=>
  rintro xs W rfl ⟨H',N',q1,q2,q3,_,_,_,q6⟩ hD
  refine B1 ?_
  show LeavesInM _ _ _ _ _ _ ({target:=.collected w5.heap.size,args:=#[]}::a4.defers) .returning W
  rw[h4.defers]
  refine S7 (ds:=[w5.heap.size]) w5.heap.size W (by simp) (fun D hD'=>by rw[List.mem_singleton.1 hD'];exact⟨Nat.le_refl _,hD⟩) fun W' hx=>⟨_,results_none rfl _ _ _,rfl,hbn,H',N',q1.ext hx, ?_, ?_,Zo,q6.ext hx hMv5.size⟩
  ·rw[List.reverse_reverse] at q2;exact q2
  ·rw[List.reverse_reverse] at q3;exact q3
def Ax3{σ:Type}(own:σ->Nat->Prop)(st st':σ)(Hd:Nat->Prop)(W W':World):Prop:=Moved (fun b=>own st b\/Hd b) W W'/\∀b,own st' b->own st b\/Hd b\/W.heap.size<=b
def Ee1{α σ:Type}(P:Program)(g:Nat)(lb:Array Value)(encs:α->Array Value)(M:σ->List α->World->Prop)(Y:σ->List α->α->(Nat->Prop)->World->Prop)(E:σ->List α->World->Prop)(w:World):Prop:=
  ∀ (own : σ → Nat → Prop) (l : Nat) (J Jx : σ → List α → World → Prop) (st0 : σ) (W : World), Below w.heap.size w W → (∀ st s A C, J st s A → Below A.heap.size A C → J st s C) → (∀ st s A C, Jx st s A → Below A.heap.size A C → Jx st s C) → (∀ st s A, J st s A → M st s A) → (∀ st s A, J st s A → ∀ b, own st b → b < A.heap.size) →
    (∀st pre x Hd W1,J st pre W1->Y st pre x Hd W1->(∀b,Hd b->¬own st b/\b<W1.heap.size)->YieldAt Fence.wide 7 P l (encs x) W1 fun e W'=> ∃st',((e=.returned (.bool true)/\J st' (pre++[x]) W')\/(e=.returned (.bool false)/\Jx st' (pre++[x]) W'))/\Ax3 own st st' Hd W1 W')->
    J st0 [] W->
    CallsIn Fence.wide 8 P g (#[.func (.yield l) #[] #[]]++lb) W fun e W'=>(∃v,e=.returned v)/\((∃st xs,E st xs W'/\J st xs W')\/(∃st pre,Jx st pre W'))
def Bn0{α σ:Type}(own:σ->Nat->Prop)(B:Nat)(I:σ->List α->World->Prop)(Ix:Code->σ->List α->World->Prop)(st:σ)(Hd:Nat->Prop)(xs:List α)(W:World):Exit->Act->World->Prop
 | .normal,_,W'=>KeepsFrom B W W'/\∃st',I st' xs W'/\Ax3 own st st' Hd W W'
 | .ret,_,W'=>KeepsFrom B W W'/\∃st',Ix .ret st' xs W'/\Ax3 own st st' Hd W W'
 | .exit id,_,W'=>KeepsFrom B W W'/\∃st',Ix (.exit id) st' xs W'/\Ax3 own st st' Hd W W'
 | .goto t,_,W'=>KeepsFrom B W W'/\∃st',Ix (.goto t) st' xs W'/\Ax3 own st st' Hd W W'
 | .panic _,_,_=>False
 | .outgrown,_,_=>False
theorem Js{α σ:Type}{own:σ->Nat->Prop}{B:Nat}{I:σ->List α->World->Prop}{Ix:Code->σ->List α->World->Prop}{st:σ}{Hd:Nat->Prop}{xs:List α}{W:World}: ¬LetsOut (Bn0 own B I Ix st Hd xs W):=fun⟨_,_,h⟩=>h
set_option maxHeartbeats 1000000 in
theorem Vm{P:Program}{α σ:Type}{g:Operand}{ps:Array Tmp}{assign body:Code}{Q:Exit->Act->World->Prop}{a:Act}{w w0:World}{gf:Nat}{lb:Array Value}(hg:a.eval g=.func (.func gf) #[] lb)(eg: ∀args w,(callFunc gf args).run P w=.ok (.enter gf args) w)
  {encs:α->Array Value} {M:σ->List α->World->Prop} {Y:σ->List α->α->(Nat->Prop)->World->Prop} {E:σ->List α->World->Prop} (hseq:Ee1 P gf lb encs M Y E w0) (hb0:Below w0.heap.size w0 w) (hps: ∀x,(encs x).size=ps.size)
  (own:σ->Nat->Prop) (I:σ->List α->World->Prop) (Ix:Code->σ->List α->World->Prop) (hI: ∀st s A C,I st s A->Ext w.heap.size A C->I st s C) (hIx: ∀c st s A C,Ix c st s A->Ext w.heap.size A C->Ix c st s C) (hM: ∀st s A,I st s A->M st s A) (hO: ∀st s A,I st s A->∀b,own st b->b<A.heap.size)
  (hY: ∀st s x Hd A C,Y st s x Hd A->Ext w.heap.size A C->Y st s x Hd C) (st0:σ) (h0:I st0 [] w) (Ax:σ->α->(Nat->Prop)->Act->World->Prop) (hAx: ∀st x Hd a' A C,Ax st x Hd a' A->Ext w.heap.size A C->Ax st x Hd a' C)
  (hassign: ∀(l:Nat) (st:σ) (pre:List α) (x:α) (Hd:Nat->Prop) (W:World) (K:Act->World->Prop),I st pre W->Y st pre x Hd W->(∀b,Hd b->¬own st b/\b<W.heap.size)->(∀a' W',Below W.heap.size W W'->Ax st x Hd a' W'->K a' W')->
   assign.wpIn (S8 l) 7 P (Exit.then K (fun _ _ _=>False)) {tmps:=(ps.zip (encs x)).foldl (fun t (p,v)=>t.setIfInBounds p v) a.tmps,defers:=[]} W)
  (hbody: ∀(l:Nat) (st:σ) (pre:List α) (x:α) (Hd:Nat->Prop) (a':Act) (W:World),I st pre W->Y st pre x Hd W->(∀b,Hd b->¬own st b/\b<W.heap.size)->Ax st x Hd a' W->body.wpIn (S8 l) 7 P (Bn0 own w.heap.size I Ix st Hd (pre++[x]) W) a' W)
  (hdone: ∀(st:σ) (xs:List α) (W:World),E st xs W->I st xs W->W.heap[w.heap.size]? =some (.deferred (some []))->Q .normal {a with defers:={target:=.collected w.heap.size,args:=#[]}::a.defers} W)
  (hstop: ∀(c:Code) (st:σ) (pre:List α) (W:World),Ix c st pre W->W.heap[w.heap.size]? =some (.deferred (some []))->c.wp P Q {a with defers:={target:=.collected w.heap.size,args:=#[]}::a.defers} W)
  (hE: ∀st s A C,E st s A->Ext w.heap.size A C->E st s C):
  (Code.rangeFunc g ps assign body).wp P Q a w:=by
 refine(wpIn_wide (n:=9)).1 (wpIn_rangeFunc ?_)
 intro fn hfn
 obtain⟨rec,hrec⟩: ∃rec:LoopState->Option Code->Loop,rec=fun st pe=>{state:=st,pending:=pe,fn,tmps:=a.tmps,params:=ps,assign,body,defers:=w.heap.size}:=⟨_,rfl⟩
 obtain⟨W1,hW1⟩: ∃W1,(w.alloc (.deferred (some []))).alloc (.loop (rec .ready none))=W1:=⟨_,rfl⟩
 have hL1:W1.heap[w.heap.size+1]? =some (.loop (rec .ready none)):=by
  rw[<-hW1];have:=World.alloc_heap_new (w.alloc (.deferred (some []))) (.loop (rec .ready none));rwa [World.size_alloc] at this
 have hK1:W1.heap[w.heap.size]? =some (.deferred (some [])):=by
  rw[<-hW1];exact(Below.heap_alloc _ _ _ (by simp)).trans (World.alloc_heap_new w _)
 have hbW:Below w.heap.size w W1:=by
  rw[<-hW1];exact B2 (B2 (Below.refl _ w) _) _
 have hI1:I st0 [] W1:=hI _ _ _ _ h0 (Ext.of_below hbW (Nat.le_refl _))
 have hb1:Below w0.heap.size w0 W1:=A7 hb0 hbW
 refine⟨w.heap.size+1,[{target:=.collected w.heap.size,args:=#[]}],W1,{target:=.fn (.func gf) lb,args:=#[.func (.yield (w.heap.size+1)) #[] #[]]},W1,gf,
  #[.func (.yield (w.heap.size+1)) #[] #[]]++lb,W1, ?_, ?_, ?_, ?_,(fun h=>by cases h), ?_⟩
 ·rw[<-hW1,hrec];exact run_enterLoop_outer _ _ _ _ _
 ·simp only[resolve,hg]
  simp[go_sem]
 ·intro f' hf';trivial
 ·simp[invoke,go_sem,eg]
 ·refine(hseq (fun st b=>own st b\/b=w.heap.size\/b=w.heap.size+1) (w.heap.size+1)
   (fun st pre W=>I st pre W/\W.heap[w.heap.size+1]? =some (.loop (rec .ready none))/\W.heap[w.heap.size]? =some (.deferred (some [])))
   (fun st pre W=> ∃c,Ix c st pre W/\W.heap[w.heap.size+1]? =some (.loop (rec .done (some c)))/\W.heap[w.heap.size]? =some (.deferred (some [])))
   st0 W1 hb1
   (fun st s A C hs hb=>⟨hI _ _ _ _ hs.1 (Ext.of_below hb (by have:=(Array.getElem?_eq_some_iff.1 hs.2.2).1;omega)),(hb.block _ (Array.getElem?_eq_some_iff.1 hs.2.1).1).trans hs.2.1,(hb.block _ (Array.getElem?_eq_some_iff.1 hs.2.2).1).trans hs.2.2⟩)
   (fun st s A C hs hb=>by
    obtain⟨c,hc,hl,hk⟩:=hs
    exact⟨c,hIx _ _ _ _ _ hc (Ext.of_below hb (by have:=(Array.getElem?_eq_some_iff.1 hk).1;omega)),(hb.block _ (Array.getElem?_eq_some_iff.1 hl).1).trans hl,(hb.block _ (Array.getElem?_eq_some_iff.1 hk).1).trans hk⟩)
   (fun st s A hs=>hM _ _ _ hs.1) (fun st s A hs b hb=>by
    rcases hb with hb | rfl | rfl
    ·exact hO _ _ _ hs.1 b hb
    ·exact(Array.getElem?_eq_some_iff.1 hs.2.2).1
    ·exact(Array.getElem?_eq_some_iff.1 hs.2.1).1) ?_ ⟨hI1,hL1,hK1⟩).mono ?_
  ·rintro st pre x Hd W ⟨hi,hl,hk⟩ hyx hHd
   have hHd': ∀b,Hd b->¬own st b/\b<W.heap.size:=fun b hb=>⟨fun h=>(hHd b hb).1 (.inl h),(hHd b hb).2⟩
   have hlt:w.heap.size+1<W.heap.size:=(Array.getElem?_eq_some_iff.1 hl).1
   have hy:=run_yield (P:=P) (args:=encs x) hl (by rw[hrec];exact hps x)
   rw[hrec] at hy
   refine⟨fn,_,assign,body,hy,roundIn_of_wpIn hfn (hassign _ st pre x Hd W _ hi hyx hHd' ?_)⟩
   clear hy
   intro a' Wa hbfa hax
   have hkfa:KeepsFrom w.heap.size W Wa:=KeepsFrom.below hbfa
   have hxa:Ext w.heap.size W Wa:=Ext.of_below hbfa Zo
   have hia:=hI _ _ _ _ hi hxa
   have hya:=hY _ _ _ _ _ _ hyx hxa
   have hl':=hkfa.same _ _ Zo hl rfl
   have hk':=hkfa.same _ _ (Nat.le_refl _) hk rfl
   have hlt':w.heap.size+1<Wa.heap.size:=(Array.getElem?_eq_some_iff.1 hl').1
   refine⟨_,run_beginRound hl' (by rw[hrec]), ?_⟩
   have hl2:(Wa.putObj (w.heap.size+1) (.loop {rec .ready none with state:=.busy})).heap[w.heap.size+1]? =some (.loop {rec .ready none with state:=.busy}):=World.putObj_heap_same hlt'
   have hk2:(Wa.putObj (w.heap.size+1) (.loop {rec .ready none with state:=.busy})).heap[w.heap.size]? =some (.deferred (some [])):=(World.putObj_heap_other Zo).trans hk'
   have hx2:Ext w.heap.size Wa (Wa.putObj (w.heap.size+1) (.loop {rec .ready none with state:=.busy})):=Ext.put _ hl' rfl Zo
   refine wpIn_mono (hbody _ st pre x Hd a' _ (hI _ _ _ _ hia hx2) (hY _ _ _ _ _ _ hya hx2) (fun b hb=>⟨(hHd' b hb).1,by rw[World.putObj_size];have:=(hHd' b hb).2;have:=hbfa.size;omega⟩) (hAx _ _ _ _ _ _ hax hx2)) ?_
   have fin: ∀(jump:Option Code) (W3:World),KeepsFrom w.heap.size (Wa.putObj (w.heap.size+1) (.loop {rec .ready none with state:=.busy})) W3->
     (Instr.endRound (w.heap.size+1) jump).run P W3=.ok (.bool jump.isNone) (W3.putObj (w.heap.size+1) (.loop (rec (if jump.isNone then .ready else .done) jump)))/\
     W3.heap[w.heap.size+1]? =some (.loop {rec .ready none with state:=.busy})/\
     (W3.putObj (w.heap.size+1) (.loop (rec (if jump.isNone then .ready else .done) jump))).heap[w.heap.size+1]? =some (.loop (rec (if jump.isNone then .ready else .done) jump))/\
     (W3.putObj (w.heap.size+1) (.loop (rec (if jump.isNone then .ready else .done) jump))).heap[w.heap.size]? =some (.deferred (some [])):=fun jump W3 hk3=>by
    have hl3:=hk3.same _ _ Zo hl2 rfl
    have:=run_endRound (P:=P) jump hl3
    rw[hrec] at this ⊢
    exact⟨this,by rw[hrec] at hl3;exact hl3,World.putObj_heap_same (Array.getElem?_eq_some_iff.1 hl3).1,(World.putObj_heap_other Zo).trans (hk3.same _ _ (Nat.le_refl _) hk2 rfl)⟩
   have stp: ∀(st':σ) (o:Obj) (W3:World),Ax3 own st st' Hd (Wa.putObj (w.heap.size+1) (.loop {rec .ready none with state:=.busy})) W3->Ax3 (fun st b=>own st b\/b=w.heap.size\/b=w.heap.size+1) st st' Hd W (W3.putObj (w.heap.size+1) o):=fun st' o W3 hs=>by
    obtain⟨hs1,hs2⟩:=hs
    have z1:=hs1.size
    rw[World.putObj_size] at z1
    have z2:=hbfa.size
    refine⟨⟨by rw[World.putObj_size];omega,hs1.os.trans hbfa.os,hs1.tape.trans hbfa.tape,hs1.output.trans hbfa.output,fun b hb hn=> ?_⟩,fun b hb=> ?_⟩
    ·have hne:b≠w.heap.size+1:=fun e=>hn (.inl (.inr (.inr e)))
     refine(World.putObj_heap_other hne).trans ((hs1.block b (by rw[World.putObj_size];omega) (fun h=>hn (h.imp_left .inl))).trans ((World.putObj_heap_other hne).trans (hbfa.block b hb)))
    ·rcases hb with hb | hb
     ·rcases hs2 b hb with h | h | h
      ·exact .inl (.inl h)
      ·exact .inr (.inl h)
      ·rw[World.putObj_size] at h
       exact .inr (.inr Zo)
     ·exact .inl (.inr hb)
   rintro e a3 W3 hp
   cases e with
   | normal=>
    obtain⟨hk3,st',hi3,hst⟩:=hp
    obtain⟨hr,hl3,hl4,hk4⟩:=fin none W3 hk3
    exact⟨_,_,hr,st',.inl ⟨rfl,hI _ _ _ _ hi3 (Ext.put _ hl3 rfl Zo),hl4,hk4⟩,stp _ _ _ hst⟩
   | ret=>
    obtain⟨hk3,st',hi3,hst⟩:=hp
    obtain⟨hr,hl3,hl4,hk4⟩:=fin (some .ret) W3 hk3
    exact⟨_,_,hr,st',.inr ⟨rfl,.ret,hIx _ _ _ _ _ hi3 (Ext.put _ hl3 rfl Zo),hl4,hk4⟩,stp _ _ _ hst⟩
   | exit id=>
    obtain⟨hk3,st',hi3,hst⟩:=hp
    obtain⟨hr,hl3,hl4,hk4⟩:=fin (some (.exit id)) W3 hk3
    exact⟨_,_,hr,st',.inr ⟨rfl,.exit id,hIx _ _ _ _ _ hi3 (Ext.put _ hl3 rfl Zo),hl4,hk4⟩,stp _ _ _ hst⟩
   | goto t=>
    obtain⟨hk3,st',hi3,hst⟩:=hp
    obtain⟨hr,hl3,hl4,hk4⟩:=fin (some (.goto t)) W3 hk3
    exact⟨_,_,hr,st',.inr ⟨rfl,.goto t,hIx _ _ _ _ _ hi3 (Ext.put _ hl3 rfl Zo),hl4,hk4⟩,stp _ _ _ hst⟩
   | panic ch=>exact hp.elim
   | outgrown=>exact hp.elim
  ·rintro e W2 ⟨⟨v,rfl⟩,(⟨st,xs,hS,hi,hl,hk⟩ | ⟨st,pre,c,hi,hl,hk⟩)⟩
   ·have hx:=Ext.put (B:=w.heap.size) (.loop {rec .ready none with state:=.exhausted}) hl rfl Zo
    exact⟨none,_,by have:=run_endLoop (P:=P) hl (by rw[hrec];simp);rw[hrec] at this hx ⊢;exact this,hdone st xs _ (hE _ _ _ _ hS hx) (hI _ _ _ _ hi hx) ((World.putObj_heap_other Zo).trans hk)⟩
   ·have hx:=Ext.put (B:=w.heap.size) (.loop {rec .done (some c) with state:=.exhausted}) hl rfl Zo
    exact⟨some c,_,by have:=run_endLoop (P:=P) hl (by rw[hrec];simp);rw[hrec] at this hx ⊢;exact this,wpIn_wide.2 (hstop c st pre _ (hIx _ _ _ _ _ hi hx) ((World.putObj_heap_other Zo).trans hk))⟩
theorem Cel.ext{B:Nat}{w w':World}{g:Nat}(e:Ext B w w')(h:Cel w g):Cel w' g:=let⟨t,cs,h⟩:=h;⟨t,cs,e.cells _ _ _ _ h⟩
theorem SepF.ext{B:Nat}{w w':World}(e:Ext B w w'): ∀(f:Fo) (lo hi b o:Nat),SepF w lo hi b o f->SepF w' lo hi b o f
 | .nil,_,_,_,_,_=>trivial
 | .cons h k r,lo,hi,b,o,⟨m,pa,pc,ia,ic,hm,hc,⟨q1,q2,h1,h2,h3,h4,h5⟩,h6⟩=>by
  refine⟨m,pa,pc,ia,ic,hm,fun j v hv=>Bu e (hc j v hv),⟨q1,q2,h1,h2,h3,(h4.ext e).wider (fun x hx=>⟨hx.1,hx.2.1,hx.2.2.1,hx.2.2.2.ext e⟩), ?_⟩,SepF.ext e r m hi b (o+11) h6⟩
  rcases h5 with h5 | ⟨b',o',e',g1,g2,g3,g4⟩
  ·exact .inl h5
  ·exact .inr ⟨b',o',e',g1,g2,g3.ext e,SepF.ext e k (b'+1) q2 b' o' g4⟩
theorem PRow.ext{n0:Nat}{w w':World}{S:Nat->Prop}{pa:Option Addr}{n pc:Nat}(h:PRow w S pa n pc)(e:Ext n0 w w'):PRow w' S pa n pc:=by
 rcases h with h | ⟨h1,h2,h3,g,cs,h4,h5,h6,h7⟩
 ·exact .inl h
 ·exact .inr ⟨h1,h2,h3,g,cs,h4,h5,e.cells _ _ _ _ h6,h7⟩
theorem IRow.ext{n0:Nat}{w w':World}{S:Nat->Prop}{ia:Option Addr}{n ic:Nat}(h:IRow w S ia n ic)(e:Ext n0 w w'):IRow w' S ia n ic:=by
 rcases h with⟨h0,h | ⟨h3,g,cs,h4,h5,h6,h7⟩⟩
 ·exact⟨h0,.inl h⟩
 ·exact⟨h0,.inr ⟨h3,g,cs,h4,h5,e.cells _ _ _ _ h6,h7⟩⟩
theorem RowsF.ext{n0:Nat}{w w':World}{S:Nat->Prop}(e:Ext n0 w w'): ∀(f:Fo) (b o:Nat),RowsF w S b o f->RowsF w' S b o f
 | .nil,_,_,_=>trivial
 | .cons h k r,b,o,⟨⟨pa,pc,ia,ic,h1,h2,h3,h4⟩,h5⟩=>by
  refine⟨⟨pa,pc,ia,ic,fun j v hv=>Bu e (h1 j v hv),h2.ext e,h3.ext e, ?_⟩,RowsF.ext e r b (o+11) h5⟩
  rcases h4 with h4 | ⟨b',e',hs,h4⟩
  ·exact .inl h4
  ·exact .inr ⟨b',e',hs,RowsF.ext e k b' 0 h4⟩
theorem RowsD.ext{n0:Nat}{w w':World}{S:Nat->Prop}{h:Hd}{k:Fo}{m:Dm}(d:RowsD w S h k m)(e:Ext n0 w w'):RowsD w' S h k m:=by
 refine⟨d.1.ext e,d.2.1.ext e, ?_⟩
 rcases d.2.2 with h4 | ⟨b',e',hs,h4⟩
 ·exact .inl h4
 ·exact .inr ⟨b',e',hs,RowsF.ext e k b' 0 h4⟩
theorem Dt.sep.ext{B:Nat}{w w':World}{d:Dt}{lo hi:Nat}{m:Dm}(h:d.sep w lo hi m)(e:Ext B w w'):d.sep w' lo hi m:=by
 obtain⟨h0,⟨q1,q2,h1,h2,h3,h4,h5⟩,hr⟩:=h
 refine⟨h0.ext e,⟨q1,q2,h1,h2,h3,(h4.ext e).wider (fun x hx=>⟨hx.1,hx.2.1,hx.2.2.1,hx.2.2.2.ext e⟩), ?_⟩,hr.ext e⟩
 rcases h5 with h5 | ⟨b',o',e',g1,g2,g3,g4⟩
 ·exact .inl h5
 ·exact .inr ⟨b',o',e',g1,g2,g3.ext e,SepF.ext e d.k (b'+1) q2 b' o' g4⟩
structure Pr where
 e:En
 dk:Dm
 dv:Dm
 lo:Nat
 mid:Nat
 hi:Nat
abbrev L6:TypeId:=267
def prA(k v:Dt)(mk mv:Dm)(own:Bool):Array Value:=⟨[ii k.h.kind,.string k.h.type,ii k.h.n,.int .u64 k.h.f,.string k.h.s,ii k.h.obj,ii k.h.frm,ii k.h.len,ii k.h.cap,.slice mk.pa k.h.path.length mk.pc,.slice mk.ia k.k.len mk.ic,
 .int .i64 v.h.kind,.string v.h.type,ii v.h.n,.int .u64 v.h.f,.string v.h.s,ii v.h.obj,ii v.h.frm,ii v.h.len,ii v.h.cap,.slice mv.pa v.h.path.length mv.pc,.slice mv.ia v.k.len mv.ic,.bool own]⟩
def Pr.cs(p:Pr):Array Value:=prA p.e.key p.e.val p.dk p.dv p.e.own
structure Pr.at (p:Pr) (w:World):Prop where
 key:p.e.key.sep w p.lo p.mid p.dk
 val:p.e.val.sep w p.mid p.hi p.dv
 le1:p.lo<=p.mid
 le2:p.mid<=p.hi
 lt:p.hi<=w.heap.size
structure PairsAt (w:World) (B:Nat) (s:S3) (Q:List Pr):Prop where
 row:w.ownsRow B L6 23 s.v Q.length (Q.flatMap fun p=>p.cs.toList)
 num:s.n=Q.length
 dat: ∀p∈Q,p.at w/\B<=p.lo/\∀g,s.v.ownBlock=some g->¬(p.lo<=g/\g<p.hi)
 sep:Q.Pairwise fun p q=>p.hi<=q.lo
theorem PairsAt.nil(w:World)(B:Nat):PairsAt w B ⟨none,0,0⟩ []:=⟨World.ownsRow_nil _ _ _ _,rfl,(fun _ h=>by cases h),List.Pairwise.nil⟩
theorem Cz{n0:Nat}{w w':World}{B sz n:Nat}{t:TypeId}{v:Value}{xs:List Value}(h:w.ownsRow B t sz v n xs)(e:Ext n0 w w'):w'.ownsRow B t sz v n xs:=by
 refine⟨h.1, ?_⟩
 rcases h.2 with h0 | ⟨g,cap,cur,rfl,hB,hh,h1⟩
 ·exact .inl h0
 ·exact .inr ⟨g,cap,cur,rfl,hB,e.cells _ _ _ _ hh,h1⟩
theorem S9{w w':World}{B sz n:Nat}{t:TypeId}{v:Value}{xs:List Value}(h:w.ownsRow B t sz v n xs)(hb:Below w.heap.size w w'):w'.ownsRow B t sz v n xs:=Cz h (Ext.of_below (B:=0) hb (Nat.zero_le _))
theorem PairsAt.ext{n0:Nat}{w w':World}{B:Nat}{s:S3}{Q:List Pr}(h:PairsAt w B s Q)(e:Ext n0 w w'):PairsAt w' B s Q:=
 ⟨Cz h.row e,h.num,fun p hp=>let⟨q1,q2⟩:=h.dat p hp;⟨⟨q1.key.ext e,q1.val.ext e,q1.le1,q1.le2,Nat.le_trans q1.lt e.size⟩,q2⟩,h.sep⟩
theorem N8{w:World}{B sz n:Nat}{t:TypeId}{v:Value}{xs:List Value}(h:w.ownsRow B t sz v n xs){g:Nat}(hg:v.ownBlock=some g):B<=g/\g<w.heap.size:=by
 rcases h.2 with⟨rfl,_⟩ | ⟨g',cap,cur,rfl,hB,hh,_⟩
 ·cases hg
 ·injection hg with hg
  have hg:g'=g:=hg
  subst hg
  exact⟨hB,(Array.getElem?_eq_some_iff.1 hh).1⟩
theorem Xa:(Tryz.prog.info? L6).map (fun i=>(i.size,decide (i.bytes<=400),i.zero.map (·.cells.size)))=some (23,true,some 23):=by kernel_rfl
theorem Bq1(k v:Dt)(mk mv:Dm)(own:Bool): ∀u∈(prA k v mk mv own).toList,u.oneCell'=true:=by
 intro u hu
 simp only[prA,List.mem_cons,List.not_mem_nil,or_false] at hu
 rcases hu with rfl | rfl | rfl | rfl | rfl | rfl | rfl | rfl | rfl | rfl | rfl | rfl | rfl | rfl | rfl | rfl | rfl | rfl | rfl | rfl | rfl | rfl | rfl<;>rfl
def Eu9(B n:Nat)(s:S3)(xs:List Value)(wa:World)(s':S3)(w':World):Prop:= ∃news:List Value,news.length=23/\(∀j u,news[j]? =some u->wa.cell? ⟨wa.heap.size-1,j,none⟩=some u)/\w'.ownsRow B L6 23 s'.v (n+1) (xs++news)/\wa.grownBy w' s.v.ownBlock/\s'.n=n+1/\(s'.v.ownBlock=s.v.ownBlock\/s'.v.ownBlock=some wa.heap.size)
theorem Ak8{w:World}{B n:Nat}{s:S3}{xs:List Value}(h:w.ownsRow B L6 23 s.v n xs)(hB:B<=w.heap.size)(hn:n<=300000000000)(k v:Dt)(mk mv:Dm)(own:Bool)(ty:TypeId):
  ∃s' w',(Builtin.append_ #[264,264] ty #[s.v,.slice (some ⟨w.heap.size,0,none⟩) 1 1]).run Tryz.prog (w.alloc (.cells (prA k v mk mv own) L6))=.ok (S3.v s') w'/\Eu9 B n s xs (w.alloc (.cells (prA k v mk mv own) L6)) s' w':=by
 obtain⟨i,hi,hz⟩:=Option.map_eq_some_iff.1 Xa
 injection hz with hz0 hz
 injection hz with hz1 hz2
 obtain⟨z,hzz,hzs⟩:=Option.map_eq_some_iff.1 hz2
 have hb:i.bytes<=400:=by simpa using hz1
 have hn':=Blk.new w L6 (prA k v mk mv own)
 have had: ∀g j,(⟨g,0,none⟩:Addr).add j=⟨g,j,none⟩:=fun g j=>by
  unfold Addr.add
  split<;>simp_all
 have hcell: ∀(j:Nat) (u:Value),(prA k v mk mv own).toList[j]? =some u->(w.alloc (.cells (prA k v mk mv own) L6)).cell? ⟨w.heap.size,j,none⟩=some u:=fun j u hu=>by
  rw[hn'.cell]
  rw[Array.getElem?_toList] at hu
  exact hu
 have hm:(n+1)*i.bytes<=(n+1)*400:=Nat.mul_le_mul_left _ hb
 have hw1:(w.alloc (.cells (prA k v mk mv own) L6)).heap.size=w.heap.size+1:=by simp
 obtain⟨v',w',hr,ho,hg,_,hblk⟩:=run_append_own_at (P:=Tryz.prog) (w:=w.alloc (.cells (prA k v mk mv own) L6)) B 264 ty L6 i z 23 i.bytes Tryz.underlying264 hi hzz hz0 rfl hzs Zo s.v n xs (S9 h (B2 (Below.refl _ _) _))
  ⟨w.heap.size,0,none⟩ 1 1 (prA k v mk mv own).toList rfl (fun j u hu=>by rw[had];exact hcell j u hu) (Bq1 k v mk mv own) (by simp only[maxLen];omega) Zo Zo
 have hS: ∃s':S3,v'=s'.v/\s'.n=n+1:=by
  rcases ho.2 with⟨rfl,h0⟩ | ⟨g,cap,cur,rfl,_⟩
  ·omega
  ·exact⟨⟨some ⟨g,0,none⟩,n+1,cap⟩,rfl,rfl⟩
 obtain⟨s',rfl,hsn⟩:=hS
 exact⟨s',w',hr,(prA k v mk mv own).toList,rfl,fun j u hu=>by rw[hw1];exact hcell j u hu,ho,hg,hsn,hblk⟩
end Go.Proofs.YtbjegfpfmnleeaaGreatDoor
