/-
   Written by an AI agent.
-/
import Derived.Test.YtbjegfpfmnleeaaGreatDoorPk16
import Derived.Test.YtbjegfpfmnleeaaGreatDoorPk26
import Derived.ScopeJumps
namespace Go.Proofs.YtbjegfpfmnleeaaGreatDoor
open Go.RowKit Go.Maps
set_option maxRecDepth 100000
theorem Qc{σ:Type}(g1:Nat)(s:S3)(zs:List Int)(hzl:zs.length<=1000000)(S:Nat->Prop)(w0:World):Ee1 Tryz.prog 51 #[pT g1] (fun x:Int=>#[ii x])
  (fun(_:σ) (_:List Int) A=>Blk A g1 24 #[.slice s.d zs.length s.c]/\PathAt A S s.d zs) (fun _ pre x _ _=>zs[pre.length]? =some x) (fun _ xs _=>xs=zs) w0:=by
 intro own l J Jx st0 W hb hJ hJx hM hO hY h0
 refine callsIn_wide.2 (B6 (vs:=[.func (.yield l) #[] #[],pT g1]) 16 Tryz.func51 Bf5 Zk (by simp) fun a0 h0'=> ?_)
 unfold Ar5
 obtain⟨c1,_⟩:=hM _ _ _ h0
 refine Zs (Dp5 (sn:=zs.length) h0' rfl (A9 c1 Tryz.underlying24 rfl rfl) fun a1 h1=> ?_)
 refine wp_block ?_
 refine wp_loop (fun a' wr=> ∃(st:σ) (i:Nat),i<=zs.length/\Sl 16 a' [(7,ii (i:Int)),(6,ii (zs.length:Int)),(5,.slice s.d zs.length s.c),(0,.func (.yield l) #[] #[])]/\J st (zs.take i) wr) (fun a' _=>G1 zs.length (F9 a' 7))
  ⟨st0,0,Nat.zero_le _,h1.to ⟨rfl,rfl,rfl,rfl,trivial⟩,h0⟩ ?_
 rintro a2 w2 ⟨st,i,hi,h2,hJ2⟩
 rw[h2.look 7 rfl,B4]
 unfold Er8
 by_cases hlt:i<zs.length
 ·refine Zs (Ce2 h2 rfl rfl (decide_eq_true Zo) fun a3 h3=> ?_)
  refine wp_seq (wpn (h3.look 8 rfl) ?_)
  obtain⟨x,hx⟩: ∃x,zs[i]? =some x:=⟨zs[i],List.getElem?_eq_getElem hlt⟩
  obtain⟨q,o,hq,_,hc⟩:=(hM _ _ _ hJ2).2.get hx
  rw[hq] at h3
  refine wp_seq (wp_block ?_)
  refine Zs (Dp6 h3 rfl rfl (fun w=>D7 hlt w) (H9 Tryz.underlying3 rfl (by rw[Nat.mul_one];exact hc)) fun a4 h4=> ?_)
  have hl:(zs.take i).length=i:=by rw[List.length_take];omega
  have htk:zs.take (i+1)=zs.take i++[x]:=by rw[List.take_add_one,hx];rfl
  have hyl:=hY st (zs.take i) x (fun _=>False) w2 hJ2 (by show zs[(zs.take i).length]? =some x;rw[hl];exact hx) (fun _ h=>h.elim)
  refine wp_seq (Dp7 (C0:=fun b W'=> ∃st',(b=true/\J st' (zs.take i++[x]) W')\/(b=false/\Jx st' (zs.take i++[x]) W')) h4 rfl rfl (YieldAt.mono hyl fun r W' hh=> ?_) fun a5 b w5 hx5 h5=> ?_)
  ·obtain⟨st',⟨rfl,hh⟩ | ⟨rfl,hh⟩,_⟩:=hh
   ·exact⟨true,rfl,st',.inl ⟨rfl,hh⟩⟩
   ·exact⟨false,rfl,st',.inr ⟨rfl,hh⟩⟩
  obtain⟨st',⟨rfl,hJ5⟩ | ⟨rfl,hJx5⟩⟩:=hx5
  ·refine B9 (h5.look 14 rfl) (B1 ?_)
   show Code.wp _ (Sr 4) _ a5 w5
   refine Zl (Dp8 h5 rfl Zo fun a6 h6=>⟨⟨st',i+1,hlt, ?_,by rw[htk];exact hJ5⟩, ?_⟩)
   ·rw[hq]
    exact h6.to ⟨rfl,rfl,rfl,rfl,trivial⟩
   ·rw[h6.look 7 rfl]
    show G1 zs.length (ii ((i+1:Nat):Int))<_
    rw[B4]
    omega
  ·refine wp_cond_true (h5.look 14 rfl) (wp_ret ?_)
   repeat (first | with_reducible refine D2 ?_ | with_reducible refine F1 ?_)
   exact bodyPost_ret (results_none rfl _ _ _) h5.defers ⟨⟨_,rfl⟩,.inr ⟨_,_,hJx5⟩⟩
 ·refine Zs (Ce2 h2 rfl rfl (decide_eq_false Zo) fun a3 h3=> ?_)
  refine wp_seq (C9 (h3.look 8 rfl) ?_)
  refine A8 (A8 (B8 ?_))
  obtain rfl:i=zs.length:=by omega
  rw[List.take_length] at hJ2
  exact bodyPost_end (results_none rfl _ _ _) h3.defers ⟨⟨_,rfl⟩,.inl ⟨st,zs,rfl,hJ2⟩⟩
theorem Qd(s:S3)(w:World):Calls Tryz.prog 28 #[.slice s.d s.n s.c] w fun e w'=>e=.returned (.func (.func 51) #[] #[pT w.heap.size])/\w'=w.alloc (.cells #[.slice s.d s.n s.c] 24):=by
 refine B6 (vs:=[.slice s.d s.n s.c]) 4 Tryz.func28 Bf4 Zk (by simp) fun a0 h0=> ?_
 unfold Ar4
 refine Zs (Dp3 h0 rfl fun a1 h1=> ?_)
 refine Zs (Dp4 h1 rfl fun a2 h2=>wp_ret ?_)
 exact G7 rfl h2 rfl ⟨rfl,rfl⟩
set_option maxHeartbeats 1000000 in
theorem Qe{w:World}{g1:Nat}{z:S3}{zs:List Int}{S:Nat->Prop}(hB:Blk w g1 24 #[.slice z.d zs.length z.c])(hp:PathAt w S z.d zs)(hS: ∀b,S b->b<w.heap.size)(hl:zs.length<=1000000)(hown:OwnAt w):
  Calls Tryz.prog 76 #[.slice none 0 0,.func (.func 51) #[] #[pT g1]] w fun e w'=> ∃q:S3,e=.returned (.slice q.d q.n q.c)/\(ZRow w' w.heap.size q zs/\Below w.heap.size w w'):=by
 refine X9 (vs:=[.slice none 0 0,.func (.func 51) #[] #[pT g1]]) 13 Tryz.func76 Bf3 Zk (by simp) fun a0 h0=> ?_
 unfold Ar3
 refine Zs (Do8 h0 rfl fun a1 h1=> ?_)
 have hG:=Blk.new w 24 #[.slice none 0 0]
 have hb1:Below w.heap.size w (w.alloc (.cells #[.slice none 0 0] 24)):=B2 (Below.refl _ _) _
 change Code.wp _ _ _ a1 (w.alloc (.cells #[.slice none 0 0] 24))
 generalize w.alloc (.cells #[.slice none 0 0] 24)=u at hG hb1 ⊢
 have hzu:=hG.lt
 have hlt:=hB.lt
 refine wp_seq (Zs (Do9 h1 rfl fun a3 h3=> ?_))
 refine wp_block ?_
 refine Vm (σ:=S3) (g:=.tmp 6) (ps:=#[7]) (gf:=51) (lb:=#[pT g1]) (h3.look 6 rfl) (Go.Proofs.enters_of Tryz.func51 Zk rfl)
  (Qc g1 z zs hl (fun b=>b<w.heap.size) u) (Below.refl _ _) (fun _=>rfl) (fun s b=>b=w.heap.size\/s.v.ownBlock=some b)
  (fun s pre A=>Blk A w.heap.size 24 #[.slice s.d s.n s.c]/\ZRow A u.heap.size s pre/\Below w.heap.size w A/\u.heap.size<=A.heap.size)
  (fun _ _ _ _=>False) ?hI (fun _ _ _ _ _ h _=>h) ?hM ?hO (fun _ _ _ _ _ _ h _=>h) ⟨none,0,0⟩ ?h0
  (fun s x _ a' A=>Sl 13 a' [(5,ii x),(2,pT w.heap.size)] []) (fun _ _ _ _ _ _ h _=>h) ?ha ?hb ?hd (fun _ _ _ _ h=>h.elim) (fun _ _ _ _ h _=>h)
 case hI=>
  rintro s pre A C ⟨q1,q2,q3,q4⟩ e
  exact⟨q1.ext e,⟨q2.1,Cz q2.2 e⟩,Below.ext' q3 e Zo,Nat.le_trans q4 e.size⟩
 case hM=>
  rintro s pre A ⟨q1,q2,q3,q4⟩
  exact⟨hB.below q3 hlt,hp.keep (fun b h _=>q3.block b (hS b h)) (fun b h _=>hS b h)⟩
 case hO=>
  rintro s pre A ⟨q1,q2,q3,q4⟩ b hb
  rcases hb with rfl | hb
  ·exact q1.lt
  ·exact(ARow.block q2 hb).2
 case h0=>
  exact⟨hG,ZRow.nil _ _,hb1,Nat.le_refl _⟩
 case ha=>
  rintro l s pre x Hd W Kn ⟨q1,q2,q3,q4⟩ hy hHd hK
  refine Rc (Dp0 (h3.yield1 7 Zo _) rfl fun a4 h4=> ?_) Zk (fun⟨_,_,h⟩=>h)
  exact hK a4 _ (Below.refl _ _) (h4.to ⟨rfl,rfl,trivial⟩)
 case hb=>
  rintro l s pre x Hd a4 W ⟨q1,q2,q3,q4⟩ hy hHd h4
  have hpl:=(List.getElem?_eq_some_iff.1 hy).1
  have hwz:=q1.lt
  have hne:s.v.ownBlock≠some w.heap.size:=fun e=>by have:=(ARow.block q2 e).1;omega
  refine wpIn_block (Dn6 (Dp1 (C0:=fun _ t v=>ZRow v u.heap.size t (pre++[x])/\Moved (fun b=>s.v.ownBlock=some b) W v/\(t.v.ownBlock=s.v.ownBlock\/∃g,t.v.ownBlock=some g/\W.heap.size<=g)) h4 rfl rfl (A9 q1 Tryz.underlying24 rfl rfl) (fun ty=> ?_) (fun t v hv=>F2 ((hv.2.1.block _ hwz hne).trans q1) Zk (by show 0<1;omega) rfl) fun a5 t v hv h5=> ?_) Zk (U2 Js))
  ·obtain⟨s',v,r1,r2,r3,r4⟩:=ZRow.app q2 Zo q4 x ty
   exact⟨s',v,r1,r2,r3,r4.imp_right fun e=>⟨_,e,Zo⟩⟩
  ·obtain⟨hZ,hM,ho⟩:=hv
   have hg:Blk (v.setCells w.heap.size 0 [.slice t.d t.n t.c]) w.heap.size 24 #[.slice t.d t.n t.c]:=Blk.set_ ((hM.block _ hwz hne).trans q1) 0 _
   have hnt: ∀g,t.v.ownBlock=some g->g≠w.heap.size:=fun g e=>by have:=(ARow.block hZ e).1;omega
   have hM2:Moved (fun b=>b=w.heap.size\/s.v.ownBlock=some b) W (v.setCells w.heap.size 0 [.slice t.d t.n t.c]):=(hM.more fun b hb=>.inr hb).set (.inl (.inl rfl)) _ _
   have hbf:=hM2.below q3 (fun b hb q=>by
    rcases q with q | q
    ·omega
    ·have:=(ARow.block q2 q).1
     omega) q3.size
   refine B1 ⟨Jl hM2 fun b hb=> ?_,t,⟨hg,ARow.keep hZ fun g e=>B5 _ _ _ (hnt g e),hbf,Nat.le_trans q4 hM2.size⟩,hM2.more (fun b hb=>.inl hb),fun b hb=> ?_⟩
   ·rcases hb with rfl | hb
    ·exact⟨_,_,q1⟩
    ·rcases ARow.cases q2 with⟨e,_⟩ | ⟨g',cs,_,e2,_,e4,_⟩
     ·rw[e] at hb
      cases hb
     ·rw[e2] at hb
      injection hb with hb
      subst hb
      exact⟨_,_,e4⟩
   ·rcases hb with hb | hb
    ·exact .inl (.inl hb)
    ·rcases ho with q | ⟨g,q,hg⟩
     ·rw[q] at hb
      exact .inl (.inr hb)
     ·rw[q] at hb
      injection hb with hb
      subst hb
      exact .inr (.inr hg)
 case hd=>
  rintro s xs W rfl ⟨q1,q2,q3,q4⟩ hD
  refine B1 ?_
  have h5:Sl 13 {a3 with defers:={target:=.collected u.heap.size,args:=#[]}::a3.defers} [(2,pT w.heap.size)] [{target:=.collected u.heap.size,args:=#[]}]:=by
   have h6:=h3.to (l0:=[(2,pT w.heap.size)]) ⟨rfl,trivial⟩
   exact⟨h6.size,by simp[h6.defers],h6.known⟩
  refine Zs (Dp2 h5 rfl (A9 q1 Tryz.underlying24 rfl rfl) fun a6 h6=>wp_ret ?_)
  show LeavesInM Fence.wide 9 Tryz.prog Tryz.f76 a6.tmps _ a6.defers .returning W
  rw[h6.defers]
  refine S7 (ds:=[u.heap.size]) u.heap.size _ (by simp) (fun D hD'=>by rw[List.mem_singleton.1 hD'];exact⟨Nat.le_refl _,hD⟩) fun W' hx=>⟨.slice s.d s.n s.c,Al rfl h6 rfl,s,rfl, ?_,Below.ext' q3 hx Zo⟩
  exact ZRow.low ⟨q2.1,Cz q2.2 hx⟩ (by have:=hb1.size;omega)
theorem Qf{w:World}{g1:Nat}{z:S3}{zs:List Int}{S:Nat->Prop}(hB:Blk w g1 24 #[.slice z.d zs.length z.c])(hp:PathAt w S z.d zs)(hS: ∀b,S b->b<w.heap.size)(hl:zs.length<=1000000)(hown:OwnAt w):
  Calls Tryz.prog 27 #[.func (.func 51) #[] #[pT g1]] w fun e w'=> ∃q:S3,e=.returned (.slice q.d q.n q.c)/\(ZRow w' w.heap.size q (L3 zs)/\Below w.heap.size w w'):=by
 refine B6 (vs:=[.func (.func 51) #[] #[pT g1]]) 9 Tryz.func27 Bf1 Zk (by simp) fun a0 h0=> ?_
 unfold Ar1
 refine Zs (Do2 h0 fun a1 h1=> ?_)
 refine Zs (Do3 (C0:=fun q w'=>ZRow w' w.heap.size q zs/\Below w.heap.size w w') h1 rfl ?_ fun a2 q u hu h2=> ?_)
 ·refine B6 (vs:=[.func (.func 51) #[] #[pT g1]]) 5 Tryz.func50 Bf2 Zk (by simp) fun b0 k0=> ?_
  unfold Ar2
  refine Zs (Do6 k0 fun b1 k1=> ?_)
  refine Zs (Do7 k1 rfl (Qe hB hp hS hl hown) fun b2 q u hu k2=>wp_ret ?_)
  exact G7 rfl k2 rfl ⟨q,rfl,hu⟩
 ·obtain⟨hZ,hb⟩:=hu
  refine Zs (Do4 h2 rfl (Co hZ Zo) fun a3 v hv h3=> ?_)
  refine Zs (Do5 h3 rfl fun a4 h4=>wp_ret ?_)
  exact G7 rfl h4 rfl ⟨q,rfl,hv.1,hb.trans (hv.2.bel (fun g hg=>(ARow.block hZ hg).1) hb.size)⟩
def byV(D:DD)(k:Int):Int:=match D.find? (fun p=>decide (p.1=k)) with
 | some p=>nAt D p.2
 | none=>0
def tM(K:List Int)(D:DD):IM:=K.map fun k=>(k,Value.int .i64 (byV D k))
structure KOk (K:List Int):Prop where
 rise:K.Pairwise (· < ·)
 pos: ∀x,x∈K->1<=x/\x<=1000000
 far:K.length<=1000
structure DOk (K:List Int) (D:DD):Prop where
 nd:(D.map (·.1)).Nodup
 sub: ∀x,x∈D.map (·.1)->x∈K
 qs: ∀p,p∈D->p.2<D.length
theorem DOk.len{K:List Int}{D:DD}(h:DOk K D):D.length<=K.length:=by
 have:=N7 _ K h.nd h.sub
 simpa using this
theorem DOk.nAt_in{K:List Int}{D:DD}(h:DOk K D){q:Nat}(hq:q<D.length):nAt D q∈K:=h.sub _ (mem_nAt.2 ⟨q,hq,rfl⟩)
theorem DOk.nil(K:List Int):DOk K []:=⟨by simp,by simp,by simp⟩
theorem DOk.cm{K:List Int}{D:DD}(h:DOk K D)(n:Int){q:Nat}(hq:q<=D.length):DOk K (cm K D n q):=by
 unfold Go.Proofs.YtbjegfpfmnleeaaGreatDoor.cm
 by_cases hc:n∈K/\n∉D.map (·.1)
 ·rw[if_pos hc]
  refine⟨?_, ?_, ?_⟩
  ·rw[List.map_append,List.nodup_append]
   refine⟨h.nd,by simp, ?_⟩
   intro a ha b hb e
   simp only[List.map_cons,List.map_nil,List.mem_singleton] at hb
   subst e hb
   exact hc.2 ha
  ·intro x hx
   rw[List.map_append,List.mem_append] at hx
   rcases hx with hx | hx
   ·exact h.sub x hx
   ·simp only[List.map_cons,List.map_nil,List.mem_singleton] at hx
    subst hx
    exact hc.1
  ·intro p hp
   rw[List.length_append,List.length_singleton]
   rcases List.mem_append.1 hp with hp | hp
   ·have:=h.qs p hp
    omega
   ·rw[List.mem_singleton.1 hp]
    show q<_
    omega
 ·rw[if_neg hc]
  exact h
theorem Ss{K:List Int}{D:DD}(hK:KOk K)(h:DOk K D){k:Int}(hk:k∈D.map (·.1)):byV D k≠0:=by
 unfold byV
 cases hf:D.find? (fun p=>decide (p.1=k)) with
 | none=>
  obtain⟨p,hp,rfl⟩:=List.mem_map.1 hk
  have:=List.find?_eq_none.1 hf p hp
  simp at this
 | some p=>
  have:=hK.pos _ (h.nAt_in (h.qs p (List.mem_of_find?_eq_some hf)))
  show nAt D p.2≠0
  omega
theorem Ge{D:DD}{k:Int}(hk:k∉D.map (·.1)):byV D k=0:=by
 unfold byV
 rw[List.find?_eq_none.2 fun p hp=>by
  have:p.1≠k:=fun e=>hk (List.mem_map.2 ⟨p,hp,e⟩)
  simpa using this]
theorem Bg2{D:DD}(hq: ∀p,p∈D->p.2<D.length){n:Int}{q:Nat}(hn:n∉D.map (·.1))(k:Int):byV (D++[(n,q)]) k=if k=n then nAt (D++[(n,q)]) q else byV D k:=by
 unfold byV
 rw[List.find?_append]
 by_cases hk:k=n
 ·subst hk
  rw[if_pos rfl,List.find?_eq_none.2 fun p hp=>by
   have:p.1≠k:=fun e=>hn (List.mem_map.2 ⟨p,hp,e⟩)
   simpa using this]
  simp
 ·rw[if_neg hk]
  cases hf:D.find? (fun p=>decide (p.1=k)) with
  | none=>simp[Ne.symm hk]
  | some p=>exact J4 (hq p (List.mem_of_find?_eq_some hf)) _
theorem Su(K:List Int)(D:DD)(n:Int):Bc n (tM K D)=if n∈K then some (ii (byV D n)) else none:=by
 unfold Bc tM
 rw[List.find?_map]
 by_cases hn:n∈K
 ·rw[if_pos hn]
  cases hf:K.find? ((fun p:Int×Value=>decide (p.1=n))∘fun k=>(k,Value.int .i64 (byV D k))) with
  | none=>
   have:=List.find?_eq_none.1 hf n hn
   simp at this
  | some k=>
   have:=List.find?_some hf
   have:k=n:=by simpa using this
   subst this
   rfl
 ·rw[if_neg hn,List.find?_eq_none.2 fun k hk=>by
   have:k≠n:=fun e=>hn (e ▸ hk)
   simpa using this]
  rfl
theorem Fb{n:Int}{M:IM}(h: ∀p,p∈M->p.1≠n):Cj n M=M:=List.filter_eq_self.2 fun p hp=>by simp[h p hp]
theorem Fc(f:Int->Value)(n:Int)(v:Value): ∀K:List Int,K.Pairwise (· < ·)->n∈K->X3 n v (K.map fun k=>(k,f k))=K.map fun k=>(k,if k=n then v else f k)
 | [],_,h=>by cases h
 | k::r,hp,hn=>by
  have hp':=List.pairwise_cons.1 hp
  by_cases hk:k=n
  ·subst hk
   unfold X3 Cj
   rw[List.map_cons,List.filter_cons_of_neg (by simp)]
   have e:(r.map fun x=>(x,f x)).filter (fun p=> !decide (p.1=k))=r.map fun x=>(x,f x):=Fb fun p hp2=>by
    obtain⟨x,hx,rfl⟩:=List.mem_map.1 hp2
    have:=hp'.1 x hx
    show x≠k
    omega
   rw[e,List.map_cons,if_pos rfl]
   have e2:(r.map fun x=>(x,if x=k then v else f x))=r.map fun x=>(x,f x):=List.map_congr_left fun x hx=>by
    have:=hp'.1 x hx
    rw[if_neg Zo]
   rw[e2]
   cases r with
   | nil=>rfl
   | cons y t=>
    have:=hp'.1 y (by simp)
    simp only[List.map_cons,Gq]
    rw[if_pos this]
  ·have hn':n∈r:=by
    rcases List.mem_cons.1 hn with h | h
    ·exact absurd h.symm hk
    ·exact h
   have hlt:=hp'.1 n hn'
   have ih:=Fc f n v r hp'.2 hn'
   unfold X3 Cj at ih ⊢
   rw[List.map_cons,List.filter_cons_of_pos (by simp[hk]),Gq,if_neg (by show ¬n<k;omega),ih,List.map_cons,if_neg hk]
theorem Qg{n:Int}{M:IM}(h: ∀p,p∈M->p.1<n)(v:Value):X3 n v M=M++[(n,v)]:=by
 unfold X3
 rw[Fb fun p hp=>by have:=h p hp;omega]
 exact Uo M n v h
theorem Dt5{K:List Int}{D:DD}(hK:KOk K)(h:DOk K D){n:Int}{q:Nat}(hn:n∈K)(hd:n∉D.map (·.1)):X3 n (ii (nAt (D++[(n,q)]) q)) (tM K D)=tM K (D++[(n,q)]):=by
 unfold tM
 rw[Fc (fun k=>Value.int .i64 (byV D k)) n _ K hK.rise hn]
 apply List.map_congr_left
 intro k _
 rw[Bg2 h.qs hd]
 by_cases hk:k=n<;>simp[hk]
theorem MapI.no_cells{w:World}{b n:Nat}{M:IM}{t:TypeId}{cs:Array Value}(h:MapI w b n M)(h1:Blk w b t cs):False:=by
 obtain⟨es,clock,hb,_⟩:=h
 unfold Blk at h1
 rw[hb] at h1
 cases h1
theorem Blk.same_t{w:World}{g:Nat}{t t':TypeId}{cs cs':Array Value}(h:Blk w g t cs)(h':Blk w g t' cs'):t=t':=by
 have h:w.heap[g]? =some (.cells cs t (0,0)):=h
 have h':w.heap[g]? =some (.cells cs' t' (0,0)):=h'
 rw[h] at h'
 injection h' with h'
 injection h' with _ h'
theorem ZRow.cells{w:World}{B:Nat}{s:S3}{l:List Int}(h:ZRow w B s l){g:Nat}(hg:s.v.ownBlock=some g): ∃cs,Blk w g 3 cs:=by
 rcases ARow.cases h with⟨e,_⟩ | ⟨g',cs,_,e2,_,e4,_⟩
 ·rw[e] at hg
  cases hg
 ·rw[e2] at hg
  injection hg with hg
  subst hg
  exact⟨cs,e4⟩
abbrev Ae2:TypeId:=69
structure Rch (B:Nat) (w:World) (rp gh bt:Nat) (K:List Int) (D:DD) (s:S3):Prop where
 blk:Blk w rp Ae2 #[pT gh,.map (some bt),.slice s.d s.n s.c]
 mp:MapI w bt (K.length+D.length) (tM K D)
 row:ZRow w B s (D.map (·.1))
 lo:B<=rp/\B<=bt
 d:DOk K D
def Cg8(rp bt:Nat)(s:S3)(b:Nat):Prop:=b=rp\/b=bt\/s.v.ownBlock=some b
section
variable {B:Nat} {w:World} {rp gh bt:Nat} {K:List Int} {D:DD} {s:S3}
theorem Rch.ne(h:Rch B w rp gh bt K D s):rp≠bt/\s.v.ownBlock≠some rp/\s.v.ownBlock≠some bt:=by
 refine⟨fun e=> ?_,fun e=> ?_,fun e=> ?_⟩
 ·have:=h.blk
  rw[e] at this
  exact h.mp.no_cells this
 ·obtain⟨cs,hc⟩:=ZRow.cells h.row e
  have:=Blk.same_t hc h.blk
  revert this
  decide
 ·obtain⟨cs,hc⟩:=ZRow.cells h.row e
  exact h.mp.no_cells hc
theorem Rch.lim(h:Rch B w rp gh bt K D s){b:Nat}(hb:Cg8 rp bt s b):B<=b/\b<w.heap.size:=by
 rcases hb with rfl | rfl | hb
 ·exact⟨h.lo.1,h.blk.lt⟩
 ·exact⟨h.lo.2,h.mp.lt⟩
 ·exact ARow.block h.row hb
theorem Rch.keep{w':World}(h:Rch B w rp gh bt K D s)(hk: ∀b,Cg8 rp bt s b->w'.heap[b]? =w.heap[b]?):Rch B w' rp gh bt K D s:=
 ⟨(hk _ (.inl rfl)).trans h.blk,h.mp.keep (hk _ (.inr (.inl rfl))),ARow.keep h.row fun g hg=>hk _ (.inr (.inr hg)),h.lo,h.d⟩
theorem Rch.old{w':World}(h:Rch B w rp gh bt K D s)(hb:Below w.heap.size w w'):Rch B w' rp gh bt K D s:=h.keep fun b hO=>hb.block b (h.lim hO).2
theorem Rch.lm(h:Rch B w rp gh bt K D s):Lds Tryz.prog 67 (.pointer (some ⟨rp,1,none⟩)) (.map (some bt)) w:=A9 h.blk Tryz.underlying67 rfl rfl
theorem Rch.ls(h:Rch B w rp gh bt K D s):Lds Tryz.prog 24 (.pointer (some ⟨rp,2,none⟩)) (.slice s.d s.n s.c) w:=A9 h.blk Tryz.underlying24 rfl rfl
structure RchQ (B:Nat) (w w':World) (rp gh bt:Nat) (K:List Int) (D':DD) (s:S3) (s':S3):Prop where
 r:Rch B w' rp gh bt K D' s'
 m:Moved (Cg8 rp bt s) w w'
 o:s'.v.ownBlock=s.v.ownBlock\/∃g,s'.v.ownBlock=some g/\w.heap.size<=g
set_option maxHeartbeats 1000000 in
theorem Ij(hK:KOk K)(h:Rch B w rp gh bt K D s)(hB:B<=w.heap.size){n bz:Int}(hn: -9223372036854775808<=n/\n<=9223372036854775807){q:Nat}(hq:q<=D.length)(hbz:n∈K->n∉D.map (·.1)->bz=nAt (D++[(n,q)]) q):
  Calls Tryz.prog 53 #[pT rp,ii n,ii bz] w fun e w'=>e=.returned (.tuple #[])/\∃s',RchQ B w w' rp gh bt K (cm K D n q) s s':=by
 refine B6 (vs:=[pT rp,ii n,ii bz]) 38 Tryz.func53 Bf6 Zk (by simp) fun a0 h0=> ?_
 unfold Ar6
 have hlk:=h.mp.look2 (z:=.int .i64 0) Tryz.underlying67 (fun _=>Tryz.zeroValue3 _) hn
 rw[Su] at hlk
 have same:cm K D n q=D->∃s',RchQ B w w rp gh bt K (cm K D n q) s s':=fun e=>⟨s,by rw[e];exact h,.of_below (Below.refl _ _),.inl rfl⟩
 by_cases hk:n∈K
 ·rw[if_pos hk] at hlk
  refine Zs (Ce4 (was:=byV D n) (ok:=true) h0 rfl rfl h.lm hlk fun a1 h1=> ?_)
  by_cases hd:n∈D.map (·.1)
  ·refine Zs (Ar7 (b20:=false) h1 rfl rfl (decide_eq_false (Ss hK h.d hd)) fun a2 h2=>B9 (h2.look 21 rfl) ?_)
   exact bodyPost_end (results_none rfl _ _ _) h2.defers ⟨rfl,same (by unfold Go.Proofs.YtbjegfpfmnleeaaGreatDoor.cm;rw[if_neg (fun c=>c.2 hd)])⟩
  ·refine Zs (Ar7 (b20:=true) h1 rfl rfl (decide_eq_true (Ge hd)) fun a2 h2=>wp_cond_true (h2.look 21 rfl) ?_)
   have hlen:=h.d.len
   have hfar:=hK.far
   obtain⟨w1,hr,hm,ht⟩:=h.mp.store Tryz.underlying67 (by unfold maxLen;omega) hn (ii bz)
   obtain⟨n1,n2,n3⟩:=h.ne
   have hM1:Moved (fun b=>b=bt) w w1:=Moved.of_turned ht rfl
   have hz1:=hM1.size
   rw[hbz hk hd,Dt5 hK h.d hk hd] at hm
   have hb1:Blk w1 rp Ae2 #[pT gh,.map (some bt),.slice s.d s.n s.c]:=(hM1.block _ h.blk.lt n1).trans h.blk
   have hZ1:ZRow w1 B s (D.map (·.1)):=ARow.keep h.row fun g hg=>hM1.block g (ARow.block h.row hg).2 fun e=>n3 (e ▸ hg)
   refine Zs (Dp9 h2 rfl rfl rfl h.lm hr fun a3 h3=> ?_)
   have hrl:=h.blk.lt
   refine Zl (Dq0 (C0:=fun _ t v=>ZRow v B t (D.map (·.1)++[n])/\Moved (fun b=>s.v.ownBlock=some b) w1 v/\(t.v.ownBlock=s.v.ownBlock\/∃g,t.v.ownBlock=some g/\w1.heap.size<=g)) h3 rfl rfl (A9 hb1 Tryz.underlying24 rfl rfl) (fun ty=> ?_) (fun t v hv=>F2 ((hv.2.1.block _ Zo n2).trans hb1) Zk (by show 2<3;omega) rfl) fun a4 t v hv h4=> ?_)
   ·obtain⟨s',v,r1,r2,r3,r4⟩:=ZRow.app hZ1 (by simp;omega) Zo n ty
    exact⟨s',v,r1,r2,r3,r4.imp_right fun e=>⟨_,e,Zo⟩⟩
   ·obtain⟨hZ,hM,ho⟩:=hv
    have hB1:Blk v rp Ae2 #[pT gh,.map (some bt),.slice s.d s.n s.c]:=(hM.block _ Zo n2).trans hb1
    have hrb:t.v.ownBlock≠some rp:=fun e=>by
     obtain⟨cs,hc⟩:=ZRow.cells hZ e
     have:=Blk.same_t hc hB1
     revert this
     decide
    have hcm:cm K D n q=D++[(n,q)]:=by unfold Go.Proofs.YtbjegfpfmnleeaaGreatDoor.cm;rw[if_pos ⟨hk,hd⟩]
    have hMW:Moved (Cg8 rp bt s) w (v.setCells rp 2 [.slice t.d t.n t.c]):=((hM1.more fun b hb=>.inr (.inl hb)).trans (hM.more fun b hb=>.inl (.inr (.inr hb)))).set (.inl (.inl rfl)) _ _
    refine bodyPost_end (results_none rfl _ _ _) h4.defers ⟨rfl,t,⟨Blk.set_ hB1 2 _, ?_, ?_,h.lo,h.d.cm n hq⟩,hMW, ?_⟩
    ·rw[hcm,List.length_append]
     exact(hm.keep (hM.block _ hm.lt fun e=>n3 e)).keep (B5 _ _ _ (Ne.symm n1))
    ·rw[hcm,List.map_append]
     exact ARow.keep hZ fun g hg=>B5 _ _ _ fun e=>hrb (e ▸ hg)
    ·rcases ho with e | ⟨g,e,hg⟩
     ·exact .inl e
     ·exact .inr ⟨g,e,Zo⟩
 ·rw[if_neg hk] at hlk
  refine Zs (Ce4 (was:=0) (ok:=false) h0 rfl rfl h.lm hlk fun a1 h1=> ?_)
  refine Zs (Ce3 h1 rfl fun a2 h2=>B9 (h2.look 21 rfl) ?_)
  exact bodyPost_end (results_none rfl _ _ _) h2.defers ⟨rfl,same (by unfold Go.Proofs.YtbjegfpfmnleeaaGreatDoor.cm;rw[if_neg (fun c=>hk c.1)])⟩
end
def L1:Fo->List Int
 | .nil=>[]
 | .cons h k r=>((if h.obj=0 then[] else[h.obj])++(if h.kind=8 then L1 k else[]))++L1 r
def Aa(h:Hd)(k:Fo):List Int:=(if h.obj=0 then[] else[h.obj])++(if h.kind=8 then L1 k else[])
theorem Bl(f:Fo){i:Nat}{h:Hd}{k:Fo}(e:f.get i=some (h,k)):L1 (f.drop i)=Aa h k++L1 (f.drop (i+1)):=by
 rw[Fo.drop_get f i h k e]
 rfl
def Dt6(h:Hd)(k:Fo):Prop:= ∀(w:World) (B:Nat) (S:Nat->Prop) (s:S3) (l:List Int) (m:Dm),ZRow w B s l->B<=w.heap.size->(⟨h,k⟩:Dt).at w S m->(∀b,S b->s.v.ownBlock≠some b)->(l++Aa h k).length<=1000000000->
 Calls Tryz.prog 52 #[.slice s.d s.n s.c,.agg ((⟨h,k⟩:Dt).cs m)] w fun e w'=> ∃t:S3,e=.returned (.slice t.d t.n t.c)/\(ZRow w' B t (l++Aa h k)/\Rw w w' s t)
set_option maxHeartbeats 2000000 in
theorem Cg9(h:Hd)(k:Fo)(hf:k.len<=1034834473170)(hk: ∀i a k',k.get i=some (a,k')->Dt6 a k'):Dt6 h k:=by
 intro w B S s l m hZ hB hd hne hlen
 replace hd:(⟨h,k⟩:Dt).at w (fun b=>S b/\b<w.heap.size) m:=hd.keep (fun _ _ _=>rfl) (fun b h1 h2=>⟨h1,h2⟩)
 refine B6 (vs:=[.slice s.d s.n s.c,.agg ((⟨h,k⟩:Dt).cs m)]) 32 Tryz.func52 Bf7 Zk (by simp) fun a0 h0=> ?_
 unfold Ar8
 refine Zs (Dq1 (d:=⟨h,k⟩) (m:=m) h0 rfl fun a1 h1=> ?_)
 have hX:=Blk.new w C7 ((⟨h,k⟩:Dt).cs m)
 have hb1:Below w.heap.size w (w.alloc (.cells ((⟨h,k⟩:Dt).cs m) C7)):=B2 (Below.refl _ _) _
 change Code.wp _ _ _ a1 (w.alloc (.cells ((⟨h,k⟩:Dt).cs m) C7))
 generalize w.alloc (.cells ((⟨h,k⟩:Dt).cs m) C7)=u at hX hb1 ⊢
 have hzu:=hb1.size
 have hxl:=hX.lt
 have hZ1:=hZ.old hb1
 have hlen':=hlen
 unfold Aa at hlen'
 simp only[List.length_append] at hlen'
 have hnx:s.v.ownBlock≠some w.heap.size:=fun e=>by have:=(ARow.block hZ e).2;omega
 have hne1: ∀b,S b/\b<w.heap.size->s.v.ownBlock≠some b:=fun b hb=>hne b hb.1
 obtain⟨rest,hrest⟩: ∃rest:Act->World->Prop,rest=fun a7 w7=> ∃(t7:S3),Sl 32 a7 [(0,.slice t7.d t7.n t7.c),(3,pT w.heap.size)]/\ZRow w7 B t7 (l++(if h.obj=0 then[] else[h.obj]))/\Rw u w7 s t7:=⟨_,rfl⟩
 refine wp_seq (Code.wp_mono (Q:=fun e a' w'=>e=.normal/\rest a' w') ?_ ?_)
 ·rintro e a7 w7 ⟨rfl,hr⟩
  rw[hrest] at hr
  obtain⟨t7,h7,hZ7,hW7⟩:=hr
  have hz7:=hW7.m.size
  have hX7:Blk w7 w.heap.size C7 ((⟨h,k⟩:Dt).cs m):=(hW7.blk hxl hnx).trans hX
  have hd7:SlAt w7 (fun b=>S b/\b<w.heap.size) m.ia k:=hd.kids.keep (fun x hx hl=>(hW7.blk Zo (hne1 x hx)).trans (hb1.block x hl)) (fun _ hx _=>hx)
  have hne7: ∀b,S b/\b<w.heap.size->t7.v.ownBlock≠some b:=fun b hb=>hW7.ne Zo (hne1 b hb)
  have hWw:Rw w w7 s t7:=Rw.pre hb1 hW7
  have fin: ∀(a8:Act) (w8:World) (t8:S3),Sl 32 a8 [(0,.slice t8.d t8.n t8.c)]->ZRow w8 B t8 (l++Aa h k)->Rw w w8 s t8->Code.wp Tryz.prog (.seq (Ei 9) .ret) (bodyPost Tryz.prog Tryz.f52 fun e w'=> ∃t:S3,e=.returned (.slice t.d t.n t.c)/\(ZRow w' B t (l++Aa h k)/\Rw w w' s t)) a8 w8:=fun a8 w8 t8 h8 hZ8 hW8=>by
   refine Zs (Dq7 h8 rfl fun a9 h9=>wp_ret ?_)
   exact G7 rfl h9 rfl ⟨t8,rfl,hZ8,hW8⟩
  show Code.wp _ _ _ a7 w7
  by_cases hkd:h.kind=8
  ·refine wp_seq (Zs (Ce6 (k:=h.kind) (b19:=true) h7 rfl (A9 hX7 Tryz.underlying3 rfl rfl) (decide_eq_true hkd) fun a8 h8=>wp_cond_true (h8.look 19 rfl) ?_))
   refine Zs (Dq3 (sd:=m.ia) (sn:=k.len) (sc:=m.ic) h8 rfl (A9 hX7 Tryz.underlying23 rfl rfl) fun a9 h9=> ?_)
   refine wp_block ?_
   refine wp_loop (fun a' wr=> ∃(i:Nat) (t:S3) (P:List Int),i<=k.len/\Sl 32 a' [(23,ii (i:Int)),(22,ii (k.len:Int)),(21,.slice m.ia k.len m.ic),(0,.slice t.d t.n t.c)]/\ZRow wr B t P/\Rw w7 wr t7 t/\P++L1 (k.drop i)=l++Aa h k) (fun a' _=>G1 k.len (F9 a' 23))
    ⟨0,t7,_,Nat.zero_le _,h9.to ⟨rfl,rfl,rfl,rfl,trivial⟩,hZ7,.of_below (Below.refl _ _) _,by rw[Fo.drop_zero];unfold Aa;rw[if_pos hkd,List.append_assoc]⟩ ?_
   rintro b1 w9 ⟨i,t,P,hi,k1,hZ9,hW9,hP⟩
   rw[k1.look 23 rfl,B4]
   unfold Er9
   have hPl:(P++L1 (k.drop i)).length<=1000000000:=by rw[hP];exact hlen
   rw[List.length_append] at hPl
   have hz9:=hW9.m.size
   by_cases hlt:i<k.len
   ·refine Zs (Ce7 k1 rfl rfl (decide_eq_true Zo) fun b2 k2=> ?_)
    refine wp_seq (wpn (k2.look 24 rfl) ?_)
    obtain⟨h',k',hg⟩:=Fo.get_lt k i hlt
    have hd9:SlAt w9 (fun b=>S b/\b<w.heap.size) m.ia k:=hd7.keep (fun b hb _=>hW9.blk Zo (hne7 b hb)) (fun _ hb _=>hb)
    obtain⟨b,o,hia,hSb,pa,pc,ja,jc,hc,hdd⟩:=hd9.get hg
    rw[hia] at k2
    refine wp_seq (wp_block ?_)
    have hY:=Q8 (w:=w9) ⟨h',k'⟩ ⟨pa,pc,ja,jc⟩
    refine Zs (Dq4 (x:=⟨h',k'⟩) (mx:=⟨pa,pc,ja,jc⟩) k2 rfl rfl (fun w=>J2 i Tryz.underlying23 K4 hlt w) (M2 (d:=⟨h',k'⟩) (m:=⟨pa,pc,ja,jc⟩) hc) (D1 (Blk.new w9 C7 zA) (by show 0+11<=11;omega)) fun b3 k3=> ?_)
    change Code.wp _ _ _ b3 ((w9.alloc (.cells zA C7)).setCells w9.heap.size 0 (Dt.cs ⟨h',k'⟩ ⟨pa,pc,ja,jc⟩).toList)
    generalize (w9.alloc (.cells zA C7)).setCells w9.heap.size 0 (Dt.cs ⟨h',k'⟩ ⟨pa,pc,ja,jc⟩).toList=v at hY ⊢
    obtain⟨hYb,hbv⟩:=hY
    have hdv:(⟨h',k'⟩:Dt).at v (fun b=>S b/\b<w.heap.size) ⟨pa,pc,ja,jc⟩:=hdd.keep (fun x hx hl=>hbv.block x hl) (fun _ hx _=>hx)
    rw[Bl k hg] at hP hPl
    simp only[List.length_append] at hPl
    refine Zl (Dq5 (x:=⟨h',k'⟩) (mx:=⟨pa,pc,ja,jc⟩) (C0:=fun t8 w8=>ZRow w8 B t8 (P++Aa h' k')/\Rw v w8 t t8) k3 rfl rfl (C6 hYb rfl) (hk i h' k' hg v B _ t P _ (hZ9.old hbv) (by have:=hbv.size;omega) hdv (fun b hb=>hW9.ne Zo (hne7 b hb)) (by simp only[List.length_append];omega)) fun b4 t8 w8 hq k4=> ?_)
    obtain⟨hZ8,hW8⟩:=hq
    refine B1 ?_
    show Code.wp _ (Ei 8) _ b4 w8
    refine Zl (Dq6 k4 rfl Zo fun b5 k5=>⟨⟨i+1,t8,_,hlt, ?_,hZ8,hW9.trans (Rw.pre hbv hW8), ?_⟩, ?_⟩)
    ·rw[hia]
     exact k5.to ⟨rfl,rfl,rfl,rfl,trivial⟩
    ·rw[<-hP]
     simp only[List.append_assoc]
    ·rw[k5.look 23 rfl]
     show G1 k.len (ii ((i+1:Nat):Int))<_
     rw[B4]
     omega
   ·refine Zs (Ce7 k1 rfl rfl (decide_eq_false Zo) fun b2 k2=> ?_)
    refine wp_seq (C9 (k2.look 24 rfl) ?_)
    refine A8 (A8 (B8 ?_))
    obtain rfl:i=k.len:=by omega
    rw[Fo.drop_len k _ (Nat.le_refl _)] at hP
    have hP':P=l++Aa h k:=by simpa[L1] using hP
    subst hP'
    exact fin b2 w9 t (k2.to ⟨rfl,trivial⟩) hZ9 (hWw.trans hW9)
  ·refine wp_seq (Zs (Ce6 (k:=h.kind) (b19:=false) h7 rfl (A9 hX7 Tryz.underlying3 rfl rfl) (decide_eq_false hkd) fun a8 h8=>B9 (h8.look 19 rfl) ?_))
   refine fin a8 w7 t7 (h8.to ⟨rfl,trivial⟩) ?_ hWw
   unfold Aa
   rw[if_neg hkd,List.append_nil]
   exact hZ7
 ·by_cases hz:h.obj=0
  ·refine Zs (Ce5 (o:=h.obj) (b10:=false) h1 rfl (A9 hX Tryz.underlying3 rfl rfl) (decide_eq_false (by simpa using hz)) fun a2 h2=>B9 (h2.look 10 rfl) ⟨rfl, ?_⟩)
   rw[hrest]
   refine⟨s,h2.to ⟨rfl,rfl,trivial⟩, ?_,.of_below (Below.refl _ _) s⟩
   rw[if_pos hz,List.append_nil]
   exact hZ1
  ·refine Zs (Ce5 (o:=h.obj) (b10:=true) h1 rfl (A9 hX Tryz.underlying3 rfl rfl) (decide_eq_true hz) fun a2 h2=> ?_)
   refine wp_cond_true (h2.look 10 rfl) (Zl (Dq2 (o:=h.obj) (C0:=fun _ v x=>ZRow x B v (l++[h.obj])/\Rw u x s v) h2 rfl rfl (A9 hX Tryz.underlying3 rfl rfl) (fun ty=> ?_) fun a8 t8 w8 hq h8=> ?_))
   ·obtain⟨s',x,r1,r2,r3,r4⟩:=ZRow.app hZ1 Zo Zo h.obj ty
    exact⟨s',x,r1,r2,r3,r4.imp_right fun e=>⟨_,e,Zo⟩⟩
   ·refine⟨rfl, ?_⟩
    rw[hrest]
    refine⟨t8,h8.to ⟨rfl,rfl,trivial⟩, ?_,hq.2⟩
    rw[if_neg hz]
    exact hq.1
theorem Lw: ∀(f:Fo),f.ok->∀i a k,f.get i=some (a,k)->Dt6 a k
 | .nil,_,i,_,_,e=>by cases e
 | .cons h k r,ho,0,a,k',e=>by
  simp only[Fo.get,Option.some.injEq,Prod.mk.injEq] at e
  obtain⟨rfl,rfl⟩:=e
  exact Cg9 h k ho.2.2.2 (Lw k ho.2.1)
 | .cons h k r,ho,i+1,a,k',e=>Lw r ho.2.2.1 i a k' e
section
variable {B:Nat} {w:World} {gh:Nat} {O:Nat->Prop} {last:Nat} {T:Tm} {bm:Nat} {pt:Nat->Nat} {own:Nat->Nat->Prop}
def keysT(T:Tm):List Int:=T.map fun t=>(t.1:Int)
theorem HSx.len(h:HSx B w gh O last T bm pt own):T.length<=last:=by
 have h1:(keysT T).Nodup:=by
  unfold keysT
  rw[List.nodup_iff_pairwise_ne,List.pairwise_map]
  exact h.rise.imp fun{a b} hab=>by omega
 have h2:=N7 (keysT T) ((List.range' 1 last).map fun(n:Nat)=>(n:Int)) h1 fun x hx=>by
  obtain⟨t,ht,rfl⟩:=List.mem_map.1 hx
  have:=h.num t.1 t.2 ht
  exact List.mem_map.2 ⟨t.1,List.mem_range'_1.2 Zo,rfl⟩
 unfold keysT at h2
 simpa using h2
theorem HSx.kok(h:HSx B w gh O last T bm pt own):KOk (keysT T):=by
 have hl:=h.len
 have hf:=h.far
 refine⟨?_,fun x hx=> ?_,by unfold keysT;rw[List.length_map];omega⟩
 ·unfold keysT
  rw[List.pairwise_map]
  exact h.rise.imp fun{a b} hab=>by omega
 ·obtain⟨t,ht,rfl⟩:=List.mem_map.1 hx
  have:=h.num t.1 t.2 ht
  omega
theorem Fe(h:HSx B w gh O last T bm pt own):Calls Tryz.prog 19 #[pT gh] w fun e w'=> ∃q:S3,e=.returned (.slice q.d q.n q.c)/\(ZRow w' w.heap.size q (keysT T)/\Below w.heap.size w w'):=by
 have hl:=h.len
 have hf:=h.far
 refine(Mb h.hp (by rw[Bm2];omega)).mono ?_
 rintro e w' ⟨v,ss,rfl,hp,ho,_,hb⟩
 have hk:=h.kok
 have e1:(tIM pt T).map (·.1)=keysT T:=by
  unfold tIM keysT
  rw[List.map_map]
  rfl
 rw[e1] at hp
 have e2:ss.mergeSort (fun x y=>decide (x<=y))=keysT T:=by
  refine N6 (Gi ((hp.nodup_iff).2 (hk.rise.imp fun h=>by omega))) hk.rise fun x=> ?_
  exact sortZ_mem.trans hp.mem_iff
 rw[e2,hp.length_eq] at ho
 obtain⟨s,rfl,hs⟩:=ARow.of_v ho
 exact⟨s,rfl,hs,hb⟩
end
theorem ZRow.get{w:World}{B:Nat}{s:S3}{l:List Int}(h:ZRow w B s l){i:Nat}{x:Int}(hx:l[i]? =some x): ∃g,s.d=some ⟨g,0,none⟩/\s.n=l.length/\w.cell? ⟨g,0+i*1,none⟩=some (ii x):=by
 obtain⟨h1,h2,_⟩:=ZRow.path h
 obtain⟨b,o,hb,_,hc⟩:=h1.get hx
 rcases ARow.cases h with⟨e,_⟩ | ⟨g,cs,e1,_⟩
 ·rw[e] at hb
  cases hb
 ·have e3:s.d=some ⟨g,0,none⟩:=by rw[e1]
  rw[e3] at hb
  injection hb with hb
  injection hb with hb1 hb2
  subst hb1 hb2
  exact⟨g,e3,h2,by rw[Nat.mul_one];exact hc⟩
section
variable {K:List Int} {D:DD} {i:Nat}
theorem As7(n:Int)(q:Nat):D.length<=(cm K D n q).length:=by
 unfold cm
 split
 ·simp
 ·exact Nat.le_refl _
theorem Ch0(hi:i<D.length)(n:Int)(q:Nat):nAt (cm K D n q) i=nAt D i:=by
 unfold cm
 split
 ·exact J4 hi _
 ·rfl
theorem Cd(q:Nat): ∀(xs:List Int) (D:DD),D.length<=(xs.foldl (fun D v=>cm K D v q) D).length
 | [],_=>Nat.le_refl _
 | x::r,D=>Nat.le_trans (As7 x q) (Cd q r _)
theorem Ik(q:Nat): ∀(xs:List Int) (D:DD),i<D.length->nAt (xs.foldl (fun D v=>cm K D v q) D) i=nAt D i
 | [],_,_=>rfl
 | x::r,D,hi=>(Ik q r _ (Nat.lt_of_lt_of_le hi (As7 x q))).trans (Ch0 hi x q)
end
theorem Bg3{K:List Int}(hK:KOk K){i:Nat}{x:Int}(hx:K[i]? =some x):X3 x (ii 0) (tM (K.take i) [])=tM (K.take (i+1)) []:=by
 rw[Qg]
 ·unfold tM
  rw[List.take_add_one,hx,List.map_append]
  rfl
 ·intro p hp
  obtain⟨k,hk,rfl⟩:=List.mem_map.1 hp
  obtain⟨j,hj⟩:=List.mem_iff_getElem?.1 hk
  have hji:j<i:=by
   have:=(List.getElem?_eq_some_iff.1 hj).1
   rw[List.length_take] at this
   omega
  rw[List.getElem?_take_of_lt hji] at hj
  obtain⟨h1,e1⟩:=List.getElem?_eq_some_iff.1 hj
  obtain⟨h2,e2⟩:=List.getElem?_eq_some_iff.1 hx
  have:=List.pairwise_iff_getElem.1 hK.rise j i h1 h2 hji
  show k<x
  omega
theorem Ae3{T:Tm}{n:Nat}{x:Int}(hx:x∈S2 T n): ∃t,(n,t)∈T/\x∈t.raw:=by
 unfold S2 at hx
 cases hg:I6 T n with
 | none=>rw[hg] at hx;cases hx
 | some t=>
  rw[hg] at hx
  have hx:x∈L4 (L3 t.raw):=hx
  rw[Vl (Bp _),sortZ_mem] at hx
  exact⟨t,L9 hg,hx⟩
theorem Il{x:Fd}(hx:x.ok){v:Int}(hv:v∈x.to):1<=v/\v<=2147483647:=by
 cases x with
 | nil=>cases hv
 | num n=>cases hv
 | ref k o=>
  have:v=(o:Int):=by simpa[Fd.to] using hv
  subst this
  have:=hx.1
  have:=hx.2
  omega
theorem Bg4{t:Th}(ht:t.ok){v:Int}(hv:v∈t.raw): -9223372036854775808<=v/\v<=9223372036854775807:=by
 have key: ∀{x:Fd},x.ok->v∈x.to-> -9223372036854775808<=v/\v<=9223372036854775807:=fun hx hv=>by have:=Il hx hv;omega
 cases t with
 | obj a b=>rcases List.mem_append.1 hv with h | h;exact key ht.1 h;exact key ht.2 h
 | arr a b=>rcases List.mem_append.1 hv with h | h;exact key ht.1 h;exact key ht.2 h
 | tab E=>
  obtain⟨x,hx,hv⟩:=List.mem_flatMap.1 hv
  exact key (Mo ht.2 x hx) hv
 | box a=>exact key ht hv
 | fn c bx b=>
  rcases List.mem_append.1 hv with h | h
  ·exact ht.2.2 v h
  ·exact key ht.2.1 h
theorem Ae4{T:Tm}(hT: ∀i t,(i,t)∈T->t.ok){n:Nat}{x:Int}(hx:x∈S2 T n): -9223372036854775808<=x/\x<=9223372036854775807:=by
 obtain⟨t,ht,hx⟩:=Ae3 hx
 exact Bg4 (hT _ _ ht) hx
theorem Bm{T:Tm}(hT: ∀i t,(i,t)∈T->t.ok){n:Nat}:(S2 T n).length<=10000:=by
 unfold S2
 cases hg:I6 T n with
 | none=>exact Nat.zero_le _
 | some t=>
  have h1:=Gv t (hT _ _ (L9 hg))
  have h2:=Jp (L3 t.raw)
  have h3:(L3 t.raw).length=t.raw.length:=List.length_mergeSort _
  show(L4 (L3 t.raw)).length<=_
  omega
def H7(boxes:List Int)(l:Fo):List Int:=L3 (boxes++L1 l)
def E7(T:Tm)(n:Int):List Int:=S2 T n.toNat
def Ab(T:Tm)(R:List Int):DD:=Ch1 (keysT T) (E7 T) R
section
variable {B0:Nat} {w:World} {gh:Nat} {O:Nat->Prop} {last:Nat} {T:Tm} {bm:Nat} {pt:Nat->Nat} {own:Nat->Nat->Prop}
noncomputable def ckTail:Code:=.seq (.seq (J3 22) (.cond (.tmp 69) (.seq (J3 23) .ret) .skip)) (.seq (.seq (J3 24) (.block 6 (.loop Dq8))) (.seq (J3 29) (.goto 0)))
def Sv(w:World)(T:Tm)(R:List Int)(rp gh bt:Nat)(a:Act)(wr:World):Prop:= ∃(f i:Nat) (D:DD) (s:S3),Sl 98 a [(15,ii (i:Int)),(7,pT rp),(0,pT gh)]/\Rch w.heap.size wr rp gh bt (keysT T) D s/\Below w.heap.size w wr/\i<=D.length/\goB (keysT T) (E7 T) f i D=Ab T R/\(keysT T).length<f+i
def Bg5(w:World)(T:Tm)(R:List Int)(gh:Nat)(e:Ending)(w':World):Prop:= ∃rp:Nat,e=.returned (pT rp)/\((∃bt s,Rch w.heap.size w' rp gh bt (keysT T) (Ab T R) s)/\Below w.heap.size w w')
set_option maxHeartbeats 2000000 in
theorem Im(h:HSx B0 w gh O last T bm pt own)(hown:OwnAt w)(hT: ∀i t,(i,t)∈T->t.ok){R:List Int}{rp bt:Nat}(a:Act)(w1:World)(hJ:Sv w T R rp gh bt a w1):
  ckTail.wp Tryz.prog (Exit.jump 0 (fun a' w'=>Sv w T R rp gh bt a' w'/\G1 (keysT T).length (F9 a' 15)<G1 (keysT T).length (F9 a 15)) (bodyPost Tryz.prog Tryz.f29 (Bg5 w T R gh))) a w1:=by
 obtain⟨f,i,D,s,h1,hR,hb,hi,hgo,hf⟩:=hJ
 have hK:=h.kok
 have hlen:=hR.d.len
 have hsn:s.n=D.length:=by have:=hR.row.1;rwa [List.length_map] at this
 unfold ckTail
 rw[h1.look 15 rfl,B4]
 have hfar:=hK.far
 by_cases hlt:i<D.length
 ·refine wp_seq (Zs (As2 (b69:=false) h1 rfl rfl hR.ls (decide_eq_false (by rw[hsn];omega)) fun a2 h2=>B9 (h2.look 69 rfl) ?_))
  have hx:(D.map (·.1))[i]? =some (nAt D i):=by simp[nAt,hlt]
  obtain⟨g,hsd,_,hc⟩:=ZRow.get hR.row hx
  have hin:=hR.d.nAt_in hlt
  have hpos:=hK.pos _ hin
  have hx1:=h.old hb
  have hld:=Fs hx1 (hown.old hb) (nAt D i).toNat Zo hT
  rw[show(((nAt D i).toNat:Nat):Int)=nAt D i by omega] at hld
  have hls:=hR.ls
  rw[hsd] at hls
  refine wp_seq (Zs (Cg0 (ai:=i) (n:=nAt D i) (C0:=fun y u=>ZRow u w1.heap.size y (E7 T (nAt D i))/\Below w1.heap.size w1 u) h2 rfl rfl rfl hls (fun w=>D7 Zo w) (H9 Tryz.underlying3 rfl hc) hld fun a3 y u hu h3=> ?_))
  obtain⟨hy,hbu⟩:=hu
  obtain⟨X,hX⟩: ∃X,X=E7 T (nAt D i):=⟨_,rfl⟩
  rw[<-hX] at hy
  have hXl:X.length<=10000:=by rw[hX];exact Bm hT
  have hRu:=hR.old hbu
  have hyn:y.n=X.length:=by have:=hy.1;exact this
  have hzu:=hbu.size
  have hy1: ∀g,y.v.ownBlock=some g->w1.heap.size<=g/\g<u.heap.size:=fun g hg=>ARow.block hy hg
  have hs1: ∀g,s.v.ownBlock=some g->g<w1.heap.size:=fun g hg=>(ARow.block hR.row hg).2
  rw[hyn] at h3
  refine wp_block ?_
  refine wp_loop (fun a' wr=> ∃(j:Nat) (s':S3),j<=X.length/\Sl 98 a' [(81,ii (j:Int)),(80,ii (X.length:Int)),(79,.slice y.d X.length y.c),(15,ii (i:Int)),(7,pT rp),(0,pT gh)]/\
    Rch w.heap.size wr rp gh bt (keysT T) ((X.take j).foldl (fun D v=>cm (keysT T) D v i) D) s'/\Below w.heap.size w wr/\u.heap.size<=wr.heap.size/\ZRow wr w1.heap.size y X/\(s'.v.ownBlock=s.v.ownBlock\/∃g,s'.v.ownBlock=some g/\u.heap.size<=g)) (fun a' _=>G1 X.length (F9 a' 81))
   ⟨0,s,Nat.zero_le _,h3.to ⟨rfl,rfl,rfl,rfl,rfl,rfl,trivial⟩,hRu,hb.trans (hbu.mono hb.size),Nat.le_refl _,hy,.inl rfl⟩ ?_
  rintro a4 w4 ⟨j,s',hj,h4,hR4,hb4,hz4,hy4,ho4⟩
  rw[h4.look 81 rfl,B4]
  unfold Dq8
  have hny: ∀b,y.v.ownBlock=some b->¬Cg8 rp bt s' b:=fun b hbb q=>by
   have h5:=hy1 b hbb
   rcases q with rfl | rfl | q
   ·have:=hR.blk.lt
    omega
   ·have:=hR.mp.lt
    omega
   ·rcases ho4 with e | ⟨g',e,hg'⟩
    ·rw[e] at q
     have:=hs1 b q
     omega
    ·rw[e] at q
     injection q with q
     omega
  by_cases hjl:j<X.length
  ·refine Zs (As3 h4 rfl rfl (decide_eq_true Zo) fun a5 h5=> ?_)
   refine wp_seq (wpn (h5.look 82 rfl) ?_)
   obtain⟨x,hxx⟩: ∃x,X[j]? =some x:=⟨X[j],List.getElem?_eq_getElem hjl⟩
   obtain⟨g',hyd,_,hc'⟩:=ZRow.get hy4 hxx
   rw[hyd] at h5
   refine wp_seq (wp_block ?_)
   refine Zs (Cg1 (x:=x) h5 rfl rfl (fun w=>D7 hjl w) (H9 Tryz.underlying3 rfl hc') fun a6 h6=> ?_)
   obtain⟨D',hD'⟩: ∃D',D'=(X.take j).foldl (fun D v=>cm (keysT T) D v i) D:=⟨_,rfl⟩
   rw[<-hD'] at hR4
   have hl':D.length<=D'.length:=by rw[hD'];exact Cd i _ _
   have hn':nAt D' i=nAt D i:=by rw[hD'];exact Ik i _ _ hlt
   have hx':(D'.map (·.1))[i]? =some (nAt D' i):=by simp[nAt,show i<D'.length by omega]
   obtain⟨g2,hsd2,hsn2,hc2⟩:=ZRow.get hR4.row hx'
   have hls2:=hR4.ls
   rw[hsd2] at hls2
   have hzw:=hb4.size
   have hxr: -9223372036854775808<=x/\x<=9223372036854775807:=by
    have hm:x∈X:=List.mem_of_getElem? hxx
    exact Ae4 hT (by rw[hX] at hm;exact hm)
   rw[List.length_map] at hsn2
   refine Zl (Cg2 (ai:=i) (x:=x) (n:=nAt D' i) (C0:=fun v=> ∃s2,RchQ w.heap.size w4 v rp gh bt (keysT T) (cm (keysT T) D' x i) s' s2) h6 rfl rfl rfl hls2 (fun w=>D7 Zo w) (H9 Tryz.underlying3 rfl hc2) (Ij hK hR4 hzw hxr (q:=i) Zo (fun _ _=>(J4 Zo _).symm)) fun a7 v hv h7=> ?_)
   obtain⟨s2,hQ⟩:=hv
   refine B1 ?_
   show Code.wp _ (J3 28) _ a7 v
   have hzv:=hQ.m.size
   refine Zl (Cg3 h7 rfl Zo fun a8 h8=>⟨⟨j+1,s2,hjl, ?_, ?_, ?_,Zo, ?_, ?_⟩, ?_⟩)
   ·rw[hyd]
    exact h8.to ⟨rfl,rfl,rfl,rfl,rfl,rfl,trivial⟩
   ·rw[List.take_add_one,hxx]
    simp only[Option.toList_some,List.foldl_append,List.foldl_cons,List.foldl_nil]
    rw[<-hD']
    exact hQ.r
   ·exact hb4.trans (F4 hQ.m (fun b hb=>(hR4.lim hb).1) hzw)
   ·exact ARow.keep hy4 fun b hbb=>hQ.m.block b (ARow.block hy4 hbb).2 (hny b hbb)
   ·rcases hQ.o with e | ⟨g3,e,hg3⟩
    ·rw[e]
     exact ho4
    ·exact .inr ⟨g3,e,Zo⟩
   ·rw[h8.look 81 rfl]
    show G1 X.length (ii ((j+1:Nat):Int))<_
    rw[B4]
    omega
  ·refine Zs (As3 h4 rfl rfl (decide_eq_false Zo) fun a5 h5=> ?_)
   refine wp_seq (C9 (h5.look 82 rfl) ?_)
   refine A8 (A8 (B8 ?_))
   obtain rfl:j=X.length:=by omega
   rw[List.take_length,hX] at hR4
   change Rch _ _ _ _ _ _ (Ba (keysT T) (E7 T) i D) _ at hR4
   refine Zs (Cg4 (ai:=i) h5 rfl Zo fun a6 h6=>wp_goto ⟨rfl,⟨f-1,i+1,_,s',h6.to ⟨rfl,rfl,rfl,trivial⟩,hR4,hb4, ?_, ?_,Zo⟩, ?_⟩)
   ·have:=Cd (K:=keysT T) i (E7 T (nAt D i)) D
    show i+1<=(Ba (keysT T) (E7 T) i D).length
    unfold Ba
    omega
   ·rw[<-hgo]
    obtain⟨f',rfl⟩: ∃f',f=f'+1:=⟨f-1,Zo⟩
    show goB (keysT T) (E7 T) f' (i+1) _=goB (keysT T) (E7 T) (f'+1) i D
    rw[goB,if_pos hlt]
   ·rw[h6.look 15 rfl]
    show G1 _ (ii ((i+1:Nat):Int))<_
    rw[B4]
    omega
 ·obtain rfl:i=D.length:=by omega
  refine wp_seq (Zs (As2 (ai:=D.length) (b69:=true) h1 rfl rfl hR.ls (decide_eq_true (by rw[hsn])) fun a2 h2=>wp_cond_true (h2.look 69 rfl) ?_))
  refine Zs (Cf9 h2 rfl fun a3 h3=>wp_ret ?_)
  have hgo':D=Ab T R:=by
   rw[<-hgo]
   obtain⟨f',rfl⟩: ∃f',f=f'+1:=⟨f-1,Zo⟩
   rw[goB,if_neg (Nat.lt_irrefl _)]
  rw[hgo'] at hR
  exact D2 (G7 rfl h3 rfl ⟨rp,rfl,⟨bt,s,hR⟩,hb⟩)
end
end Go.Proofs.YtbjegfpfmnleeaaGreatDoor
