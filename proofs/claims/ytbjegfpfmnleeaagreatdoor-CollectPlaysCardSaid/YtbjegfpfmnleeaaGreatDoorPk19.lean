/-
   Written by an AI agent.
-/
import Derived.Test.YtbjegfpfmnleeaaGreatDoorPk17
import Derived.Test.YtbjegfpfmnleeaaGreatDoorPk18
namespace Go.Proofs.YtbjegfpfmnleeaaGreatDoor
open Go.RowKit Go.Maps
structure HpB (w:World) (gh bm n last:Nat) (M:IM):Prop where
 gh:Blk w gh 83 #[.map (some bm),ii (last:Int)]
 bm:MapI w bm n M
theorem HpB.ne{w:World}{gh bm n last:Nat}{M:IM}(h:HpB w gh bm n last M):gh≠bm:=fun e=>by
 subst e
 obtain⟨es,clock,hb,_⟩:=h.bm
 have h1:=h.gh
 unfold Blk at h1
 rw[hb] at h1
 cases h1
theorem MapI.lt{w:World}{b n:Nat}{M:IM}(h:MapI w b n M):b<w.heap.size:=World.ownsMap.lt h
theorem HpB.keep{w w':World}{gh bm n last:Nat}{M:IM}(h:HpB w gh bm n last M)(h1:w'.heap[gh]? =w.heap[gh]?)(h2:w'.heap[bm]? =w.heap[bm]?):HpB w' gh bm n last M:=
 ⟨h1.trans h.gh,h.bm.keep h2⟩
theorem HpB.below{w w':World}{gh bm n last B:Nat}{M:IM}(h:HpB w gh bm n last M)(hb:Below B w w')(h1:gh<B)(h2:bm<B):HpB w' gh bm n last M:=h.keep (hb.block _ h1) (hb.block _ h2)
theorem HpB.lm{w:World}{gh bm n last:Nat}{M:IM}(h:HpB w gh bm n last M):Lds Tryz.prog 79 (pT gh) (.map (some bm)) w:=A9 h.gh Tryz.underlying79 rfl rfl
theorem HpB.ll{w:World}{gh bm n last:Nat}{M:IM}(h:HpB w gh bm n last M):Lds Tryz.prog 3 (.pointer (some ⟨gh,1,none⟩)) (ii (last:Int)) w:=A9 h.gh Tryz.underlying3 rfl rfl
theorem Af5(w:World):Calls Tryz.prog 25 #[] w fun e w'=>e=.returned (.pointer (some ⟨w.heap.size+1,0,none⟩))/\HpB w' (w.heap.size+1) w.heap.size 0 0 []/\Below w.heap.size w w'/\w'.heap.size=w.heap.size+2:=by
 refine B6 (vs:=[]) 4 Tryz.func25 Bh5 Zk (by simp) fun a0 h0=> ?_
 unfold As9
 refine Zs (Dt9 h0 fun a1 h1=> ?_)
 refine Zs (Du0 h1 fun a2 h2=>wp_ret ?_)
 refine G7 rfl h2 rfl ⟨by simp,⟨Blk.new1 _ _ _ _,(MapI.made w).keep (Below.heap_alloc _ _ _ (by simp))⟩,B2 (B2 (Below.refl _ _) _) _,by simp⟩
theorem Mb{w:World}{gh bm n last:Nat}{M:IM}(h:HpB w gh bm n last M)(hn:M.length<=1000):Calls Tryz.prog 19 #[pT gh] w fun e w'=> ∃(v:Value) (ss:List Int),e=.returned v/\ss.Perm (M.map (·.1))/\
  w'.ownsRow w.heap.size 3 1 v ss.length ((ss.mergeSort (fun x y=>decide (x<=y))).map encZ)/\(v=.slice none 0 0↔ss=[])/\Below w.heap.size w w':=by
 refine B6 (vs:=[pT gh]) 9 Tryz.func19 Bh7 Zk (by simp) fun a0 h0=> ?_
 unfold At1
 refine Zs (Du6 h0 fun a1 h1=> ?_)
 refine Zs (Du7 (C0:=fun x w1=>x=.func (.func 56) #[] #[pT w.heap.size]/\w1=w.alloc (.cells #[.map (some bm)] 79))
  (C1:=fun x w2=>Mi (mD M) (w.alloc (.cells #[.map (some bm)] 79)) (.returned x) w2) h1 rfl h.lm
  ((Ve (some bm) w).mono fun e w' ⟨h1,h2⟩=>⟨_,h1,rfl,h2⟩) ?_ fun a2 x7 w1 x8 w2 hc0 hc1 h2=>wp_ret ?_)
 ·rintro x7 w1 ⟨rfl,rfl⟩
  refine(Mj bm n w.heap.size (mD M) Vh _ (h.bm.keep (Below.heap_alloc _ _ _ h.bm.lt)) (by rw[(Blk.new w _ _).cell];rfl) (by simp) ?_ ?_).mono fun e w' hh=> ?_
  ·rw[Gt];unfold maxLen;omega
  ·rw[Gt];omega
  ·obtain⟨v,ss,rfl,r⟩:=hh
   exact⟨v,rfl,v,ss,rfl,r⟩
 ·obtain⟨v,ss,hv,hp,ho,hnil,hb⟩:=hc1
  injection hv with hv
  subst hv
  rw[Vi] at hp
  refine G7 rfl h2 rfl ⟨x8,ss,rfl,hp,ownsRow_base_a ho (by simp),hnil,(B2 (Below.refl _ w) _).trans (hb.mono (by simp))⟩
theorem Moved.of_turned{S:Nat->Prop}{w w':World}{b:Nat}(h:w.mapTurned w' b)(hb:S b):Moved S w w':=by
 have g:=h.grown
 exact⟨g.size,g.os,g.tape,g.output,fun x hx hn=>g.block x hx (fun e=>hn (by cases e;exact hb))⟩
theorem Tv{w:World}{gh bm n last:Nat}{M:IM}(h:HpB w gh bm n last M){k:Int}(hk: -9223372036854775808<=k/\k<=9223372036854775807):Calls Tryz.prog 36 #[pT gh,ii k] w fun e w'=>e=.returned (.bool (Bc k M).isSome)/\HpB w' gh bm n last (Cj k M)/\Moved (fun b=>b=bm) w w':=by
 refine B6 (vs:=[pT gh,ii k]) 22 Tryz.func36 Bh8 Zk (by simp) fun a0 h0=> ?_
 unfold At3
 refine Zs (Du8 h0 fun a1 h1=> ?_)
 refine Zs (Du9 h1 rfl rfl h.lm (h.bm.look2 (z:=.nilIface) Tryz.underlying79 (fun _=>Tryz.zeroValue81 _) hk) fun a2 h2=> ?_)
 obtain⟨w1,hr,hm,ht⟩:=h.bm.drop Tryz.underlying79 hk 0
 refine Zs (Dv0 h2 rfl rfl h.lm (fun ty=>⟨_,hr⟩) fun a3 h3=> ?_)
 refine Zs (Dv1 h3 rfl fun a4 h4=>wp_ret ?_)
 exact G7 rfl h4 rfl ⟨rfl,⟨(ht.grown.block _ h.gh.lt (fun e=>h.ne (by cases e;rfl))).trans h.gh,hm⟩,Moved.of_turned ht rfl⟩
theorem Tw{w:World}{gh bm n last:Nat}{M:IM}(h:HpB w gh bm n last M)(hn:n<maxLen)(hl:last<2147483647)(x:Value):Calls Tryz.prog 92 #[pT gh,x] w fun e w'=>e=.returned (.tuple #[ii ((last+1:Nat):Int),.nilIface])/\HpB w' gh bm (n+1) (last+1) (X3 ((last+1:Nat):Int) x M)/\Moved (fun b=>b=gh\/b=bm) w w':=by
 refine B6 (vs:=[pT gh,x]) 32 Tryz.func92 Bh6 Zk (by simp) fun a0 h0=> ?_
 unfold At0
 refine Zs (Du1 h0 fun a1 h1=> ?_)
 refine wp_seq (Zs (Du2 (b10:=false) h1 rfl h.ll (decide_eq_false Zo) fun a2 h2=>B9 (h2.look 10 rfl) ?_))
 refine Zs (Du3 h2 rfl h.ll Zo (F2 h.gh Zk (by simp) rfl) fun a3 h3=> ?_)
 have hG:=h.gh.set_ 1 (ii ((last:Int)+1))
 change Blk (w.setCells gh 1 [ii ((last:Int)+1)]) _ _ _ at hG
 have hb1:(w.setCells gh 1 [ii ((last:Int)+1)]).heap[bm]? =w.heap[bm]? :=Below.heap_setCell w ⟨gh,1,none⟩ _ bm (fun e=>h.ne e.symm)
 have hM1:Moved (fun b=>b=gh\/b=bm) w (w.setCells gh 1 [ii ((last:Int)+1)]):=⟨by simp[World.setCells,World.setCell],rfl,rfl,rfl,fun b _ hb=>Below.heap_setCell w ⟨gh,1,none⟩ _ b (fun e=>hb (.inl e))⟩
 have e1:((last:Int)+1)=((last+1:Nat):Int):=by simp
 rw[e1] at hG hb1 hM1 ⊢
 generalize w.setCells gh 1 [ii ((last+1:Nat):Int)]=w1 at hG hb1 hM1 ⊢
 have H1:HpB w1 gh bm n (last+1) M:=⟨hG,h.bm.keep hb1⟩
 obtain⟨w2,hr,hm,ht⟩:=MapI.store (w:=w1.drewN 1) (k:=((last+1:Nat):Int)) H1.bm Tryz.underlying79 hn Zo x
 refine Zs (Du4 h3 rfl rfl H1.lm H1.ll hr fun a4 h4=> ?_)
 have H2:HpB w2 gh bm (n+1) (last+1) (X3 ((last+1:Nat):Int) x M):=⟨(ht.grown.block _ hG.lt (fun e=>h.ne (by cases e;rfl))).trans hG,hm⟩
 refine Zs (Du5 h4 rfl H2.ll fun a5 h5=>wp_ret ?_)
 have hM2:Moved (fun b=>b=gh\/b=bm) w1 w2:=by
  have g:=ht.grown
  exact⟨g.size,g.os,g.tape,g.output,fun y hy hn=>g.block y hy (fun e=>hn (Or.inr (by cases e;rfl)))⟩
 exact Ej3 rfl h5 rfl rfl ⟨rfl,H2,hM1.trans ⟨hM2.size,hM2.os,hM2.tape,hM2.output,fun b hb hn=>hM2.block b hb (fun e=>hn (.inl e))⟩⟩
end Go.Proofs.YtbjegfpfmnleeaaGreatDoor
namespace Go.Proofs.YtbjegfpfmnleeaaGreatDoor
open Go.RowKit Go.Sort
set_option maxRecDepth 100000
variable {a:Act} {w:World} {df:List Deferred} {N:Act->World->Prop} {Q:Exit->Act->World->Prop} {l:List (Nat×Value)}
end Go.Proofs.YtbjegfpfmnleeaaGreatDoor
namespace Go.Proofs.YtbjegfpfmnleeaaGreatDoor
open Go.RowKit
set_option maxRecDepth 100000
def Ek3(k v:Dt)(mk mv:Dm):Array Value:=⟨[ii k.h.kind,.string k.h.type,ii k.h.n,.int .u64 k.h.f,.string k.h.s,ii k.h.obj,ii k.h.frm,ii k.h.len,ii k.h.cap,.slice mk.pa k.h.path.length mk.pc,.slice mk.ia k.k.len mk.ic,
 .int .i64 v.h.kind,.string v.h.type,ii v.h.n,.int .u64 v.h.f,.string v.h.s,ii v.h.obj,ii v.h.frm,ii v.h.len,ii v.h.cap,.slice mv.pa v.h.path.length mv.pc,.slice mv.ia v.k.len mv.ic]⟩
theorem Qy{d v:Dt}(ho:d.ok)(hvo:v.ok){m mv:Dm}{S T:Nat->Prop}{w:World}(hd:d.at w S m)(hv:v.at w T mv)(hown:OwnAt w):
  Calls Tryz.prog 95 #[.slice (some ⟨w.heap.size,0,none⟩) 2 2] (w.alloc (.cells (Ek3 d v m mv) 53)) fun e w'=> ∃x,e=.returned x/\((if(rB d&&rB v)=true then x=.nilIface else WrongAt w w' x)/\Below w.heap.size w w'):=by
 have hb:=B2 (Below.refl w.heap.size w) (.cells (Ek3 d v m mv) 53)
 have hB:=Blk.new w 53 (Ek3 d v m mv)
 refine(Qu [(d,m),(v,mv)] (by simp) w.heap.size 2 _ (hown.old hb) hB.lt fun j x mx hj=> ?_).mono fun e w' hh=> ?_
 ·match j,hj with
  | 0,hj=>
   injection hj with hj
   injection hj with h1 h2
   subst h1 h2
   exact⟨Q0 hB 0 11 rfl,ho,S,hd.old hb⟩
  | 1,hj=>
   injection hj with hj
   injection hj with h1 h2
   subst h1 h2
   exact⟨Q0 hB 11 11 rfl,hvo,T,hv.old hb⟩
 ·obtain⟨x,h1,h2,h3⟩:=hh
  refine⟨x,h1, ?_,A7 hb h3⟩
  simp only[List.all_cons,List.all_nil,Bool.and_true] at h2
  split at h2
  ·rw[if_pos (by assumption)];exact h2
  ·rw[if_neg (by assumption)]
   obtain⟨g,q1,q2,q3⟩:=h2
   exact⟨g,q1,q2,Nat.le_trans hb.size q3⟩
set_option maxHeartbeats 2000000 in
theorem Ak5{w:World}{m:Nat}{R:List En}{D O:Nat->Prop}(hM:MapAt w m R D O)(h0: ¬O 0)(hL:R.length<=549755813887){d v:Dt}{md mv:Dm}{S T:Nat->Prop}(ho:d.ok)(hvo:v.ok)(hd:d.at w S md)(hv:v.at w T mv)(hS: ∀b,S b->¬O b)(hT: ∀b,T b->¬O b)(hown:OwnAt w):
  Calls Tryz.prog 70 #[pT m,.agg (d.cs md),.agg (v.cs mv)] w (Az7 m R D O d v w):=by
 refine B6 (vs:=[pT m,.agg (d.cs md),.agg (v.cs mv)]) 97 Tryz.func70 Bn6 Zk (by simp) fun a0 h0'=> ?_
 unfold Ay0
 refine Zs (Eg7 h0' rfl rfl fun a1 h1=> ?_)
 have hA1:=(Blk.new w 53 (d.cs md)).alloc (.cells (v.cs mv) 53)
 have hZ1:=Blk.new1 w (.cells (d.cs md) 53) 53 (v.cs mv)
 have hb1:=B2 (B2 (Below.refl w.heap.size w) (.cells (d.cs md) 53)) (.cells (v.cs mv) 53)
 have hs1:(w.alloc (.cells (d.cs md) 53)).heap.size=w.heap.size+1:=by simp
 rw[hs1] at h1
 have hsz:((w.alloc (.cells (d.cs md) 53)).alloc (.cells (v.cs mv) 53)).heap.size=w.heap.size+2:=by simp
 show Code.wp _ _ _ a1 ((w.alloc (.cells (d.cs md) 53)).alloc (.cells (v.cs mv) 53))
 generalize (w.alloc (.cells (d.cs md) 53)).alloc (.cells (v.cs mv) 53)=w1 at hA1 hZ1 hb1 hsz ⊢
 have hd1:=hd.old hb1
 have hv1:=hv.old hb1
 refine wp_seq (Zs (Eg8 (C0:=fun x u=>(if(rB d&&rB v)=true then x=.nilIface else WrongAt w1 u x)/\Below w1.heap.size w1 u) h1 rfl rfl (G8 hA1) (G8 hZ1) (Qy ho hvo hd1 hv1 (hown.old hb1)) fun a2 v2 w2 hx h2=> ?_))
 obtain⟨hw2,hb2⟩:=hx
 have hb02:=A7 hb1 hb2
 cases hr:rB d&&rB v with
 | false=>
  rw[hr,if_neg Zd] at hw2
  obtain⟨g,rfl,hg,hgs⟩:=hw2
  refine Zs (Ct3 h2 rfl fun a3 h3=>wp_cond_true (h3.look 18 rfl) ?_)
  refine Zs (Eg9 h3 rfl fun a4 h4=>wp_ret (D2 ?_))
  refine G7 rfl h4 rfl ?_
  unfold Az7
  rw[if_pos hr]
  exact⟨hb02,_,rfl,g,rfl,hg,Zo⟩
 | true=>
 have hrr:=hr
 rw[Bool.and_eq_true] at hrr
 obtain⟨hrd,hrv⟩:=hrr
 rw[hr,if_pos rfl] at hw2
 subst hw2
 refine Zs (Ct2 h2 rfl fun a3 h3=>wpo (h3.look 18 rfl) ?_)
 have hA2:=hA1.below hb2 hA1.lt
 have hZ2:=hZ1.below hb2 hZ1.lt
 refine Zs (Eh0 (C0:=fun x y z u=> ∃q,x=.pointer q/\Below w2.heap.size w2 u/\if kB d=true then q=pO (fE R d)/\z=.nilIface/\y=.int .u64 (hV d) else q=none/\FaultAt w2 u z Dn9 (W6 d.h d.k)) h3 rfl rfl (G8 hA2) ((Vz (hM.old hb02) ho hrd (hd.old hb02) (hown.old hb02)).mono fun e w' hh=>by
  obtain⟨q1,q2⟩:=hh
  cases hk:kB d with
  | true=>
   rw[hk,if_pos rfl] at q2
   exact⟨_,_,_,q2,_,rfl,q1,by rw[if_pos rfl];exact⟨rfl,rfl,rfl⟩⟩
  | false=>
   rw[hk,if_neg Zd] at q2
   obtain⟨v,q2,q3⟩:=q2
   exact⟨_,_,_,q2,_,rfl,q1,by rw[if_neg Zd];exact⟨rfl,q3⟩⟩) fun a4 x4 y4 z4 w4 hx h4=> ?_)
 obtain⟨q,rfl,hb4,hq⟩:=hx
 have hb04:=A7 hb02 hb4
 have hA4:=hA2.below hb4 hA2.lt
 have hZ4:=hZ2.below hb4 hZ2.lt
 have z1:=hb1.size
 have z2:=hb2.size
 have z4:=hb4.size
 have hOw: ∀b,O b->b<w.heap.size:=by
  obtain⟨_,_,_,_,_,_,_,_,_,_,_,_,_,_,_,h⟩:=hM
  exact h
 have hO0:0<w.heap.size:=by have:=hM.mlt;omega
 cases hk:kB d with
 | false=>
  rw[hk,if_neg Zd] at hq
  obtain⟨rfl,g,rfl,hg,hgs⟩:=hq
  refine wp_seq (Zs (Ct5 h4 rfl fun a5 h5=>wp_cond_true (h5.look 28 rfl) ?_))
  refine Zs (Eh1 h5 rfl fun a6 h6=>wp_ret (D2 ?_))
  refine G7 rfl h6 rfl ?_
  unfold Az7
  rw[if_neg (by rw[hr];decide),if_pos hk]
  exact⟨hb04,_,rfl,g,rfl,hg,Zo⟩
 | true=>
 rw[hk,if_pos rfl] at hq
 obtain⟨rfl,rfl,rfl⟩:=hq
 have good: ∀{R':List En} {u:World},Cu R d v R'->Bp6 w u m R' D O->Az7 m R D O d v w (.returned .nilIface) u:=fun h1 h2=>by
  unfold Az7
  rw[if_neg (by rw[hr];decide),if_neg (by rw[hk];decide)]
  exact⟨rfl,_,h1,h2⟩
 refine wp_seq (Zs (Ct4 h4 rfl fun a5 h5=>wpo (h5.look 28 rfl) ?_))
 obtain⟨hb,n,H,N,B,A,hn0,hn1,hR,hH,hLk,hKO,o1,o2,o3,o4⟩:=hM.old hb04
 cases hf:fE R d with
 | some x=>
  have hpe:pO (some x)=some ⟨x.g,0,none⟩:=rfl
  rw[hf,hpe] at h5
  have hxR:=Cv6 hf
  obtain⟨mk,m0,hBe,_⟩:=hR.ent x hxR
  refine wp_seq (Zs (Ct7 h5 rfl (fun w=>Gz ⟨x.g,0,none⟩ w) fun a6 h6=>wp_cond_true (h6.look 31 rfl) ?_))
  refine Zs (Eh2 (C0:=fun y u=>v.at u (fun b=>w4.heap.size<=b) y/\Below w4.heap.size w4 u) h6 rfl rfl (G8 hZ4) (V7 hvo (hv.old hb04)) (fun y u hy=>D1 (d:=v) (hBe.below hy.2 hBe.lt) (by show 11+11<=27;omega)) fun a7 y7 w7 hy h7=> ?_)
  refine Zs (Eh3 h7 fun a8 h8=>wp_ret (D2 ?_))
  obtain⟨hy1,hy2⟩:=hy
  have hb07:=A7 hb04 hy2
  have z7:=hy2.size
  have z5:=hb04.size
  refine G7 rfl h8 rfl (good (R':=R.map (svE x.g v)) (by unfold Cu;rw[hf]) ?_)
  refine⟨fun b=>D b\/(w4.heap.size<=b/\b<w7.heap.size),O, ?_,(Moved.of_below hb07).set (.inl (o3 x hxR)) 11 _,⟨fun b h=>.inl h,fun b h=>h.imp_right fun h=>by omega⟩,Grew.refl _ _⟩
  have hR7:=(hR.old hy2).more (D':=fun b=>D b\/(w4.heap.size<=b/\b<w7.heap.size)) (fun b h=>.inl h) (fun b h=>h.elim (fun h=>by have:=hR.dlt b h;omega) (fun h=>h.2)) (fun h=>h.elim hR.out.1 (fun h=>by have:=hR.mlt;omega)) (fun h=>h.elim hR.out.2.1 (fun h=>by have:=hR.hlt;omega))
   (fun e he h=>h.elim (hR.out.2.2 e he) (fun h=>by have:=hR.elt he;omega))
  have hv7:v.at w7 (fun b=>D b\/(w4.heap.size<=b/\b<w7.heap.size)) y7:=hy1.keep (fun _ _ _=>rfl) (fun b hb hl=>.inr ⟨hb,hl⟩)
  have hR8:=hR7.setVal hxR hv7 hvo
  exact⟨hb,n,H,N,B,A,hn0,hn1,hR8.by (Wt (Bd _ _) R).symm (Ws (Bd _ _) R).symm (by simp) (fun _ _=>rfl) (fun _ _=>⟨rfl,rfl,rfl⟩),hH.sv _ _,hLk.sv _ _,hKO.sv _ _,o1,o2,(fun e he=>by
   obtain⟨y,hy,rfl⟩:=List.mem_map.1 he
   rw[Bd];exact o3 y hy),fun b hb=>by rw[B7];have:=o4 b hb;omega⟩
 | none=>
 have hpe:pO (none:Option En)=none:=rfl
 rw[hf,hpe] at h5
 refine wp_seq (Zs (Ct6 h5 rfl (fun w=>Vy w) fun a6 h6=>wpo (h6.look 31 rfl) ?_))
 have ran:=Fu d
 have rest: ∀(a7:Act) (w7:World) (hb n:Nat) (H N:Nat->Option Addr),Sl 97 a7 [(9,.int .u64 (hV d)),(5,.pointer (some ⟨w.heap.size+1,0,none⟩)),(4,pT w.heap.size),(0,pT m)]->0<n->n<=1099511627776->
   Raw w7 m hb n (pO R.getLast?) (pO R.head?) (R.length:Int) H N B A R D->HeadsOk n R H->NOk n R N->(O hb\/w.heap.size<=hb)->Moved O w w7->Blk w7 w.heap.size 53 (d.cs md)->Blk w7 (w.heap.size+1) 53 (v.cs mv)->
   Code.wp Tryz.prog (.seq (L0 12) (.seq (L0 13) (.seq (L0 14) (.seq (.seq (L0 15) (.cond (.tmp 74) (L0 16) (L0 17))) (.seq (L0 18) (.seq (L0 19) (.seq (L0 20) .ret))))))) (bodyPost Tryz.prog Tryz.f70 (Az7 m R D O d v w)) a7 w7:=by
  intro a7 w7 hb n H N h7 hn0 hn1 hR hH hN hOhb hMv hA7 hZ7
  have hd7:=hd.moved hMv (fun b hb _=>hS b hb)
  have hv7:=hv.moved hMv (fun b hb _=>hT b hb)
  have hown7:=hown.moved hMv h0 hO0
  refine Zs (Ct9 (ow:=eqO d d) (C0:=fun _ u=>Below w7.heap.size w7 u) h7 rfl (G8 hA7) ((Ay7 ho ho hd7 hd7 hown7).mono fun e w' hh=>by
   obtain⟨q1,b,x,q2,q3⟩:=hh
   have hnf:=Oa (a:=d) hrd hk
   rw[if_pos (by rw[show G3 d.h d.k=true from hrd];rfl),if_pos hnf,if_pos hnf] at q3
   obtain⟨rfl,rfl⟩:=q3
   exact⟨_,q2,q1⟩) fun a8 x8 w8 hb8 h8=> ?_)
  have hMv8:=hMv.trans (Moved.of_below hb8)
  have hR8:=hR.old hb8
  have hA8:=hA7.below hb8 hA7.lt
  have hZ8:=hZ7.below hb8 hZ7.lt
  have hd8:=hd7.old hb8
  have hv8:=hv7.old hb8
  obtain⟨cs,hBm,hz,c8,c9,c10,c11⟩:=hR8.map
  have hdr:Below w8.heap.size w8 (w8.drewN 1):=B3 (Below.refl _ _) 1
  refine Zs (Cu0 (C:=fun u=>Below w8.heap.size w8 u) (C0:=fun y u=>d.at u (fun b=>w8.heap.size<=b) y/\Below w8.heap.size w8 u) (C1:=fun u0 y u=>v.at u (fun b=>u0.heap.size<=b) y/\Below u0.heap.size u0 u)
   h8 rfl rfl rfl rfl rfl (fun u hu=>G8 (hA8.below hu hA8.lt)) (fun u hu=>G8 (hZ8.below hu hZ8.lt)) (fun u hu=>A9 (hBm.below hu hBm.lt) Tryz.underlying161 rfl c10) hdr
   ((V7 ho (hd8.old hdr)).mono fun e w' hh=>let⟨y,q1,q2,q3⟩:=hh;⟨y,q1,q2,A7 hdr q3⟩) (fun y u hy=>hy.2) (fun y u hy=>V7 hvo (hv8.old hy.2)) (fun y u hy z u2 hz=>A7 hy.2 hz.2) (fun y u hy z u2 hz=>B2 (A7 hy.2 hz.2) _)
   fun a9 y9 w9 z9 w10 hy hz h9=> ?_)
  obtain⟨hy1,hy2⟩:=hy
  obtain⟨hz1,hz2⟩:=hz
  have s9:=hy2.size
  have s10:=hz2.size
  have s8:=hMv8.size
  have hb10:=A7 hy2 hz2
  obtain⟨e,he⟩: ∃e:En,e=⟨w10.heap.size,d,v,hV d,eqO d d⟩:=⟨_,rfl⟩
  have eg:e.g=w10.heap.size:=by rw[he]
  have hBe:Blk (w10.alloc (.cells (e.cs y9 z9 none (pO R.head?) none) Ny)) e.g Ny (e.cs y9 z9 none (pO R.head?) none):=by rw[eg];exact Blk.new _ _ _
  have hb11:Below w8.heap.size w8 (w10.alloc (.cells (e.cs y9 z9 none (pO R.head?) none) Ny)):=B2 hb10 _
  have hba:Below w10.heap.size w10 (w10.alloc (.cells (e.cs y9 z9 none (pO R.head?) none) Ny)):=B2 (Below.refl _ _) _
  have hs11:(w10.alloc (.cells (e.cs y9 z9 none (pO R.head?) none) Ny)).heap.size=w10.heap.size+1:=by simp
  have hwe:w10.alloc (.cells (En.cs ⟨w10.heap.size,d,v,hV d,eqO d d⟩ y9 z9 none (pO R.head?) none) Ny)=w10.alloc (.cells (e.cs y9 z9 none (pO R.head?) none) Ny):=by rw[he]
  show Code.wp _ _ _ a9 (w10.alloc (.cells (En.cs ⟨w10.heap.size,d,v,hV d,eqO d d⟩ y9 z9 none (pO R.head?) none) Ny))
  rw[hwe]
  rw[<-eg] at h9
  generalize w10.alloc (.cells (e.cs y9 z9 none (pO R.head?) none) Ny)=w11 at hBe hb11 hba hs11 ⊢
  obtain⟨D',hD'⟩: ∃D':Nat->Prop,D'=fun b=>D b\/(w8.heap.size<=b/\b<w10.heap.size):=⟨_,rfl⟩
  have hR11:Raw w11 m hb n (pO R.getLast?) (pO R.head?) (R.length:Int) H N B A R D':=by
   rw[hD']
   exact(hR8.old hb11).more (fun b h=>.inl h) (fun b h=>h.elim (fun h=>by have:=hR8.dlt b h;omega) (fun h=>by omega)) (fun h=>h.elim hR8.out.1 (fun h=>by have:=hR8.mlt;omega)) (fun h=>h.elim hR8.out.2.1 (fun h=>by have:=hR8.hlt;omega))
    (fun x hx h=>h.elim (hR8.out.2.2 x hx) (fun h=>by have:=hR8.elt hx;omega))
  have hne: ∀x∈R,x.g≠e.g:=fun x hx=>by have:=hR8.elt hx;omega
  have hd11:e.key.at w11 D' y9:=by
   rw[hD',he]
   exact hy1.keep (fun b _ hl=>(A7 hz2 hba).block b hl) (fun b hb hl=>.inr ⟨hb,Zo⟩)
  have hv11:e.val.at w11 D' z9:=by
   rw[hD',he]
   exact hz1.keep (fun b _ hl=>hba.block b hl) (fun b hb hl=>.inr ⟨by have:w9.heap.size<=b:=hb;omega,hl⟩)
  have hDe: ¬D' e.g:=by
   rw[hD']
   exact fun h=>h.elim (fun h=>by have:=hR8.dlt _ h;omega) (fun h=>by omega)
  have heo:e.key.ok/\e.val.ok/\0<=e.hash/\e.hash<=18446744073709551615:=by rw[he];exact⟨ho,hvo,ran.1,ran.2⟩
  have hRe:Raw w11 m hb n (pO R.getLast?) (pO R.head?) (R.length:Int) H (upd N e.g none) (upd B e.g (pO R.head?)) (upd A e.g none) (e::R) D':=
   (hR11.by rfl rfl rfl (fun _ _=>rfl) (fun x hx=>⟨(J8 (hne x hx)).symm,(J8 (hne x hx)).symm,(J8 (hne x hx)).symm⟩)).push e (by rw[H6,H6,H6];exact hBe) hd11 hv11 hne (by have:=hR8.mlt;omega) (by have:=hR8.hlt;omega) hDe heo
  have hMv11:Moved O w w11:=hMv8.trans (Moved.of_below hb11)
  have hem:e∈e::R:=List.mem_cons_self
  refine Zs (Cu1 h9 rfl rfl (Fv hRe hn0 hn1 hem) fun a10 w12 hx h10=> ?_)
  obtain⟨hR12,hT⟩:=hx
  have hMv12:Moved O w w12:=hMv11.two hT (.inr Zo) hOhb
  have hNk:NOk n (e::R) (upd (upd N e.g none) e.g (H (e.hash.toNat % n))):=(hN.other hne none).push hH hn0 hne
  have hHd:HeadsOk n (e::R) (upd H (e.hash.toNat % n) (some e.p)):=hH.push
  have hnd:=hR12.nd
  have s12:=hT.size
  have tail: ∀(a13:Act) (w13:World) (A':Nat->Option Addr),Sl 97 a13 [(8,pT e.g),(0,pT m)]->Raw w13 m hb n (pO (e::R).getLast?) (pO R.head?) (R.length:Int) (upd H (e.hash.toNat % n) (some e.p)) (upd (upd N e.g none) e.g (H (e.hash.toNat % n))) (upd B e.g (pO R.head?)) A' (e::R) D'->
    A'=upH R (upd A e.g none) e.p->Moved O w w13->w13.heap.size=w12.heap.size->Code.wp Tryz.prog (.seq (L0 18) (.seq (L0 19) (.seq (L0 20) .ret))) (bodyPost Tryz.prog Tryz.f70 (Az7 m R D O d v w)) a13 w13:=by
   intro a13 w13 A' h13 hR13 hA' hMv13 hs13
   obtain⟨cs,hBm,hz,_,_,_,_⟩:=hR13.map
   refine Zs (Cu4 h13 rfl rfl (F2 hBm Ft Zo rfl) fun a14 h14=> ?_)
   have hR14:=hR13.setTo (some ⟨e.g,0,none⟩)
   have hMv14:=hMv13.set (.inl o1) 10 [pT e.g]
   have hs14:(w13.setCells m 10 [pT e.g]).heap.size=w12.heap.size:=(B7 _ _ _ _).trans hs13
   generalize w13.setCells m 10 [pT e.g]=w14 at hR14 hMv14 hs14 ⊢
   obtain⟨cs,hBm,hz,_,_,_,c11⟩:=hR14.map
   refine Zs (Cu5 (ny:=R.length) h14 rfl (A9 hBm Tryz.underlying3 rfl c11) Zo (F2 hBm Zk Zo rfl) fun a15 h15=> ?_)
   have hR15:=hR14.setMany ((R.length:Int)+1)
   have hMv15:=hMv14.set (.inl o1) 11 [ii ((R.length:Int)+1)]
   have hs15:(w14.setCells m 11 [ii ((R.length:Int)+1)]).heap.size=w12.heap.size:=(B7 _ _ _ _).trans hs14
   generalize w14.setCells m 11 [ii ((R.length:Int)+1)]=w15 at hR15 hMv15 hs15 ⊢
   refine Zs (Cu6 h15 fun a16 h16=>wp_ret ?_)
   refine G7 rfl h16 rfl (good (R':=e::R) (by unfold Cu;rw[hf];exact⟨_,by rw[he]⟩) ?_)
   refine⟨D',fun b=>O b\/(w.heap.size<=b/\b<w12.heap.size),⟨hb,n,_,_,_,_,hn0,hn1,hR15.by rfl rfl (by simp) (fun _ _=>rfl) (fun _ _=>⟨rfl,rfl,rfl⟩),hHd, ?_, ?_,.inl o1, ?_, ?_, ?_⟩,hMv15, ?_,⟨fun b h=>.inl h,fun b h=>h.imp_right fun h=>h.1⟩⟩
   ·exact(show Links n R N B A from fun X x Z hX=>⟨hN X x Z hX,(hLk X x Z hX).2⟩).push hnd hNk rfl hA'
   ·exact hKO.push (by rw[he];exact hrd) (by rw[he];exact hk) (by rw[he]) (by rw[he])
   ·exact hOhb.imp_right fun h=>⟨h,by have:=hR12.hlt;omega⟩
   ·intro x hx
    rcases List.mem_cons.1 hx with rfl | hx
    ·exact .inr ⟨Zo,Zo⟩
    ·exact .inl (o3 x hx)
   ·intro b hb
    rw[hs15]
    exact hb.elim (fun h=>by have:=hOw b h;omega) (fun h=>h.2)
   ·rw[hD']
    exact⟨fun b h=>.inl h,fun b h=>h.imp_right fun h=>by omega⟩
  obtain⟨cs,hBm,hz,_,_,c10,_⟩:=hR12.map
  cases R with
  | nil=>
   refine wp_seq (Zs (Bn7 h10 rfl (A9 hBm Tryz.underlying161 rfl c10) (fun w=>Cu9 w) fun a11 h11=>wp_cond_true (h11.look 74 rfl) ?_))
   refine Wv (Cu2 h11 rfl rfl (F2 hBm Ft Zo rfl) fun a12 h12=> ?_)
   exact tail a12 _ _ (h12.to ⟨rfl,rfl,trivial⟩) (hR12.setFrom _) rfl (hMv12.set (.inl o1) _ _) (B7 _ _ _ _)
  | cons r R=>
   have hr':r∈e::r::R:=by simp
   obtain⟨mk,m0,hBr,_⟩:=hR12.ent r hr'
   refine wp_seq (Zs (Bn8 h10 rfl (A9 hBm Tryz.underlying161 rfl c10) (fun w=>Ak0 ⟨r.g,0,none⟩ w) fun a11 h11=>wp_cond_false (h11.look 74 rfl) ?_))
   refine Wv (Cu3 h11 rfl rfl (A9 hBm Tryz.underlying161 rfl c10) (F2 hBr Ft (by show 25<27;omega) rfl) fun a12 h12=> ?_)
   refine tail a12 _ _ (h12.to ⟨rfl,rfl,trivial⟩) ?_ rfl (hMv12.set (.inl (o3 r (by simp))) _ _) (B7 _ _ _ _)
   rw[List.getLast?_cons_cons]
   exact hR12.setA hr' _
 obtain⟨cs,hBm,hz,c8,c9,c10,c11⟩:=hR.map
 have hMv4:Moved O w w4:=Moved.of_below hb04
 by_cases hg:n<=R.length
 ·refine wp_seq (Zs (Ay1 (ny:=R.length) (nh:=n) h6 rfl (A9 hBm Tryz.underlying3 rfl c11) (A9 hBm Tryz.underlying167 rfl c8) (decide_eq_true Zo) fun a7 mm h7=>wp_cond_true (h7.look 46 rfl) ?_))
  have hdr:=B3 (Below.refl w4.heap.size w4) mm
  refine Wv (Ct8 h7 rfl (Wh (hR.old hdr) (fun X e Z hX=>(hLk X e Z hX).2.2) hn0 Zo) fun a8 w8 hx h8=> ?_)
  obtain⟨hb',H',N',hR8,hH8,hN8,hhb,hMv⟩:=hx
  have hMv':Moved O w4 w8:=⟨hMv.size,hMv.os,hMv.tape,hMv.output,fun b hb ho=>hMv.block b hb fun h=>h.elim (fun e=>ho (e ▸ o1)) (fun⟨x,hx,e⟩=>ho (e ▸ o3 x hx))⟩
  have hMv8:Moved O w w8:=hMv4.trans (hMv'.more fun x h=>.inl h)
  exact rest a8 w8 hb' (2*n) H' N' (h8.to ⟨rfl,rfl,rfl,rfl,trivial⟩) Zo Zo hR8 hH8 hN8 (.inr (by have:w4.heap.size<=hb':=hhb;omega)) hMv8 (hA4.moved hMv' (fun h=>by have:=hOw _ h;omega)) (hZ4.moved hMv' (fun h=>by have:=hOw _ h;omega))
 ·refine wp_seq (Zs (Ay1 (ny:=R.length) (nh:=n) h6 rfl (A9 hBm Tryz.underlying3 rfl c11) (A9 hBm Tryz.underlying167 rfl c8) (decide_eq_false Zo) fun a7 mm h7=>wpo (h7.look 46 rfl) ?_))
  have hdr:=B3 (Below.refl w4.heap.size w4) mm
  exact rest a7 (w4.drewN mm) hb n H N (h7.to ⟨rfl,rfl,rfl,rfl,trivial⟩) hn0 hn1 (hR.old hdr) hH hLk.nok (.inl o2) (hMv4.trans (Moved.of_below hdr)) (hA4.drewN mm) (hZ4.drewN mm)
theorem Oc{α:Type}{X Z P S:List α}{y:α}(h:X++Z=P++y::S):(∃X',X=P++y::X'/\S=X'++Z)\/∃P',Z=P'++y::S/\P=X++P':=by
 rcases List.append_eq_append_iff.1 h.symm with⟨a,h1,h2⟩ | ⟨a,h1,h2⟩
 ·cases a with
  | nil=>exact .inr ⟨[],by simpa using h2.symm,by simpa using h1.symm⟩
  | cons b a=>
   injection h2 with h3 h4
   subst h3
   exact .inl ⟨a,h1,h4⟩
 ·exact .inr ⟨a,h2,h1⟩
def R2(n:Nat)(h:Int)(X:List En):Option En:=(X.filter (bkB n h)).getLast?
theorem Qz{n:Nat}{h:Int}{X Y:List En}(hn:Y.find? (bkB n h)=none):R2 n h (X++Y)=R2 n h X:=by
 unfold R2
 rw[List.filter_append,show Y.filter (bkB n h)=[] from List.filter_eq_nil_iff.2 fun a ha=>List.find?_eq_none.1 hn a ha,List.append_nil]
theorem Wu{n:Nat}{h:Int}{X:List En}{y:En}(hy:bkB n h y=true):R2 n h (X++[y])=some y:=by
 unfold R2
 rw[List.filter_append,List.filter_cons_of_pos hy,List.filter_nil,List.getLast?_append]
 rfl
theorem Y5{n:Nat}{h:Int}{X:List En}{y:En}(hl:R2 n h X=some y):y∈X/\bkB n h y=true:=by
 have:=List.mem_of_getLast? hl
 exact List.mem_filter.1 this
theorem Ra{n:Nat}{h:Int}{X:List En}(hl:R2 n h X=none):X.find? (bkB n h)=none:=by
 unfold R2 at hl
 rw[List.getLast?_eq_none_iff,List.filter_eq_nil_iff] at hl
 exact List.find?_eq_none.2 hl
theorem Rb{n:Nat}{h:Int}{X:List En}{y:En}(hl:R2 n h X=some y):(X.find? (bkB n h)).isSome=true:=by
 obtain⟨h1,h2⟩:=Y5 hl
 exact List.find?_isSome.2 ⟨y,h1,h2⟩
theorem Ek4{n:Nat}{a b:Int}(h:a.toNat % n=b.toNat % n):bkB n a=bkB n b:=by
 funext x
 unfold bkB
 rw[h]
theorem Ek5{n:Nat}{h:Int}{x:En}(hx:bkB n h x=true):bkB n x.hash=bkB n h:=Ek4 (by
 unfold bkB at hx
 simpa using hx)
def Cw0(n:Nat)(X:List En)(e:En)(H:Nat->Option Addr)(p:Option Addr):Nat->Option Addr:=match R2 n e.hash X with
 | none=>upd H (e.hash.toNat % n) p
 | some _=>H
def Cw1(n:Nat)(X:List En)(e:En)(N:Nat->Option Addr)(p:Option Addr):Nat->Option Addr:=match R2 n e.hash X with
 | none=>N
 | some x=>upd N x.g p
def Bp7(Z:List En)(A:Nat->Option Addr)(p:Option Addr):Nat->Option Addr:=match Z with
 | []=>A
 | z::_=>upd A z.g p
def Bp8(X:List En)(B:Nat->Option Addr)(p:Option Addr):Nat->Option Addr:=match X.getLast? with
 | none=>B
 | some x=>upd B x.g p
section
variable {n:Nat} {X Z:List En} {e:En} {H N B A:Nat->Option Addr}
theorem Ke{p:En->Bool}(hp:p e=false):(X++e::Z).find? p=(X++Z).find? p:=by
 rw[List.find?_append,List.find?_append,List.find?_cons_of_neg (by rw[hp];decide)]
theorem HeadsOk.drop(h:HeadsOk n (X++e::Z) H):HeadsOk n (X++Z) (Cw0 n X e H (pO (Z.find? (bkB n e.hash)))):=by
 intro i hi
 unfold Cw0
 by_cases hk:i=e.hash.toNat % n
 ·subst hk
  have hf:(fun x:En=>x.hash.toNat % n==e.hash.toNat % n)=bkB n e.hash:=rfl
  have h1:=h _ hi
  rw[hf] at h1 ⊢
  cases hl:R2 n e.hash X with
  | none=>
   show upd H _ _ _=_
   rw[H6,List.find?_append,Ra hl,Option.none_or]
  | some x=>
   show H _=_
   rw[h1,List.find?_append,List.find?_append]
   obtain⟨y,hy⟩:=Option.isSome_iff_exists.1 (Rb hl)
   rw[hy]
   rfl
 ·have h1:=h i hi
  rw[Ke (by simpa using fun q=>hk q.symm)] at h1
  cases hl:R2 n e.hash X with
  | none=>
   show upd H _ _ _=_
   rw[J8 hk];exact h1
  | some x=>exact h1
theorem NOk.drop(h:NOk n (X++e::Z) N)(hnd:((X++e::Z).map (·.g)).Nodup):NOk n (X++Z) (Cw1 n X e N (pO (Z.find? (bkB n e.hash)))):=by
 rw[List.map_append,List.map_cons,List.nodup_append] at hnd
 obtain⟨hX,hZ,hXZ⟩:=hnd
 have hxz: ∀a∈X,∀b∈Z,a.g≠b.g:=fun a ha b hb=>hXZ _ (List.mem_map.2 ⟨a,ha,rfl⟩) _ (List.mem_cons_of_mem _ (List.mem_map.2 ⟨b,hb,rfl⟩))
 intro P y S hy
 unfold Cw1
 rcases Oc hy with⟨X',rfl,rfl⟩ | ⟨P',rfl,rfl⟩
 ·have h1:=h P y (X'++e::Z) (by simp)
  by_cases hb:bkB n y.hash e=true
  ·have hbe:bkB n y.hash=bkB n e.hash:=(Ek5 hb).symm
   have hye:bkB n e.hash y=true:=by rw[<-hbe];unfold bkB;simp
   rw[hbe] at h1 ⊢
   cases hf:X'.find? (bkB n e.hash) with
   | none=>
    have hl:R2 n e.hash (P++y::X')=some y:=by
     rw[show P++y::X'=(P++[y])++X' by simp,Qz hf,Wu hye]
    rw[hl]
    show upd N y.g _ y.g=_
    rw[H6,List.find?_append,hf,Option.none_or]
   | some z=>
    have hl: ∃x,R2 n e.hash (P++y::X')=some x/\x∈X':=by
     have hzX:=List.mem_of_find?_eq_some hf
     have hzb:=List.find?_some hf
     unfold R2
     rw[show P++y::X'=(P++[y])++X' by simp,List.filter_append,List.getLast?_append]
     cases hq:(X'.filter (bkB n e.hash)).getLast? with
     | none=>
      rw[List.getLast?_eq_none_iff,List.filter_eq_nil_iff] at hq
      exact absurd hzb (hq z hzX)
     | some x=>exact⟨x,rfl,(List.mem_filter.1 (List.mem_of_getLast? hq)).1⟩
    obtain⟨x,hl,hxX⟩:=hl
    rw[hl]
    show upd N x.g _ y.g=_
    rw[J8,h1,List.find?_append,List.find?_append,hf]
    ·rfl
    ·intro q
     rw[List.map_append,List.map_cons,List.nodup_append] at hX
     exact(List.nodup_cons.1 hX.2.1).1 (List.mem_map.2 ⟨x,hxX,q.symm⟩)
  ·have hb':bkB n y.hash e=false:=by simpa using hb
   rw[Ke hb'] at h1
   cases hl:R2 n e.hash (P++y::X') with
   | none=>exact h1
   | some x=>
    show upd N x.g _ y.g=_
    rw[J8]
    ·exact h1
    ·intro q
     have hyx:y=x:=Bo5 hX (by simp) (Y5 hl).1 q
     subst hyx
     have:=(Y5 hl).2
     apply hb
     unfold bkB at this ⊢
     rw[beq_iff_eq] at this ⊢
     exact this.symm
 ·have h1:=h (X++e::P') y S (by simp)
  cases hl:R2 n e.hash X with
  | none=>exact h1
  | some x=>
   show upd N x.g _ y.g=_
   rw[J8]
   ·exact h1
   ·exact fun q=>hxz x (Y5 hl).1 y (by simp) q.symm
theorem Links.drop(h:Links n (X++e::Z) N B A)(hnd:((X++e::Z).map (·.g)).Nodup){N':Nat->Option Addr}(hN:NOk n (X++Z) N'):Links n (X++Z) N' (Bp8 X B (pO Z.head?)) (Bp7 Z A (pO X.getLast?)):=by
 rw[List.map_append,List.map_cons,List.nodup_append] at hnd
 obtain⟨hX,hZ,hXZ⟩:=hnd
 have hxz: ∀a∈X,∀b∈Z,a.g≠b.g:=fun a ha b hb=>hXZ _ (List.mem_map.2 ⟨a,ha,rfl⟩) _ (List.mem_cons_of_mem _ (List.mem_map.2 ⟨b,hb,rfl⟩))
 intro P y S hy
 refine⟨hN P y S hy, ?_⟩
 rcases Oc hy with⟨X',rfl,rfl⟩ | ⟨P',rfl,rfl⟩
 ·obtain⟨_,h1,h2⟩:=h P y (X'++e::Z) (by simp)
  constructor
  ·unfold Bp8
   cases hq:X'.getLast? with
   | none=>
    rw[List.getLast?_eq_none_iff] at hq
    subst hq
    rw[List.getLast?_append]
    show upd B y.g _ y.g=_
    rw[H6]
    rfl
   | some x=>
    have hxX:=List.mem_of_getLast? hq
    rw[show P++y::X'=(P++[y])++X' by simp,List.getLast?_append,hq]
    show upd B x.g _ y.g=_
    rw[J8,h1]
    ·cases X' with
     | nil=>cases hxX
     | cons z X'=>rfl
    ·intro q
     rw[List.map_append,List.map_cons,List.nodup_append] at hX
     exact(List.nodup_cons.1 hX.2.1).1 (List.mem_map.2 ⟨x,hxX,q.symm⟩)
  ·unfold Bp7
   cases Z with
   | nil=>exact h2
   | cons z Z=>
    show upd A z.g _ y.g=_
    rw[J8]
    ·exact h2
    ·exact hxz y (by simp) z (by simp)
 ·obtain⟨_,h1,h2⟩:=h (X++e::P') y S (by simp)
  constructor
  ·unfold Bp8
   cases hq:X.getLast? with
   | none=>exact h1
   | some x=>
    show upd B x.g _ y.g=_
    rw[J8]
    ·exact h1
    ·exact fun q=>hxz x (List.mem_of_getLast? hq) y (by simp) q.symm
  ·unfold Bp7
   cases P' with
   | nil=>
    show upd A y.g _ y.g=_
    rw[H6,List.append_nil]
   | cons z P'=>
    show upd A z.g _ y.g=_
    rw[J8]
    ·rw[h2,show X++e::z::P'=(X++[e])++z::P' by simp,List.getLast?_append,List.getLast?_append,List.getLast?_append]
     cases hq:(z::P').getLast? with
     | none=>rw[List.getLast?_eq_none_iff] at hq;cases hq
     | some x=>rfl
    ·intro q
     have hZ2:=(List.nodup_cons.1 hZ).2
     rw[List.cons_append,List.map_cons,List.nodup_cons] at hZ2
     exact hZ2.1 (List.mem_map.2 ⟨y,by simp,q⟩)
theorem KeysOk.drop(h:KeysOk (X++e::Z)):KeysOk (X++Z):=
 ⟨fun x hx=>h.right x (by rcases List.mem_append.1 hx with q | q<;>simp[q]),fun x hx=>h.num x (by rcases List.mem_append.1 hx with q | q<;>simp[q])⟩
end
section
variable {w w':World} {m hb n:Nat} {fr tx:Option Addr} {many:Int} {H N B A:Nat->Option Addr} {R:List En} {D:Nat->Prop}
end
section
variable {w:World} {m:Nat} {R:List En} {D O:Nat->Prop} {d v:Dt} {md mv:Dm} {S T:Nat->Prop}
end
end Go.Proofs.YtbjegfpfmnleeaaGreatDoor
