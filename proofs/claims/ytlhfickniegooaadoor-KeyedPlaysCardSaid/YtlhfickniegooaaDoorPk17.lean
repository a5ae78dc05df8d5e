/-
   Written by an AI agent.
-/
import Derived.Test.YtlhfickniegooaaDoorPk16
import Derived.Test.YtlhfickniegooaaDoorPk12
import Derived.Test.YtlhfickniegooaaDoorPk15
import Derived.Test.YtlhfickniegooaaDoorPk11
import Derived.Deep.CutBlock
import Derived.BigQuiet
namespace Go.Proofs.YtlhfickniegooaaDoor
open Go.RowKit
set_option maxRecDepth 100000
structure Hn where
 k:Dt
 v:Dt
 dk:Dm
 dv:Dm
def Hn.encs(x:Hn):Array Value:=#[.agg (x.k.cs x.dk),.agg (x.v.cs x.dv)]
def Hn.at(x:Hn)(Hd:Nat->Prop)(A:World):Prop:= ∃lo mid hi,x.k.sep A lo mid x.dk/\x.v.sep A mid hi x.dv/\lo<=mid/\mid<=hi/\Hd=fun b=>lo<=b/\b<hi
def ItM{σ α:Type}(rs:σ->List En)(R0:List En)(g1 m:Nat)(st:σ)(s:List α)(A:World):Prop:=A.cell? ⟨g1,0,none⟩=some (.pointer (some ⟨m,0,none⟩))/\(∃D O,MapAt A m (rs st) D O)/\(rs st).length<=200000000000/\(s=[]->rs st=R0)/\OwnAt A
def AllY{σ:Type}(R0:List En)(_:σ)(pre:List Hn)(x:Hn)(Hd:Nat->Prop)(A:World):Prop:=(∃e,R0.reverse[pre.length]? =some e/\x.k=e.key/\x.v=e.val)/\x.at Hd A
def AllE{σ:Type}(R0:List En)(_:σ)(xs:List Hn)(_:World):Prop:=xs.length=R0.length
theorem Hn.at.ext{B:Nat}{x:Hn}{Hd:Nat->Prop}{A C:World}(h:x.at Hd A)(e:Ext B A C):x.at Hd C:=let⟨lo,mid,hi,h1,h2,h3⟩:=h;⟨lo,mid,hi,h1.ext e,h2.ext e,h3⟩
def zeroP:Array Value:=#[.int .i64 0,.string ⟨#[]⟩,.int .i64 0,.int .u64 0,.string ⟨#[]⟩,.int .i64 0,.int .i64 0,.int .i64 0,.int .i64 0,.slice none 0 0,.slice none 0 0,.int .i64 0,.string ⟨#[]⟩,.int .i64 0,.int .u64 0,.string ⟨#[]⟩,.int .i64 0,.int .i64 0,.int .i64 0,.int .i64 0,.slice none 0 0,.slice none 0 0,.bool false]
set_option maxHeartbeats 2000000 in
theorem all_seq{σ:Type}(rs:σ->List En)(R0:List En)(g1 m:Nat)(w0:World):SeqZ Tryd.prog 30 #[.pointer (some ⟨g1,0,none⟩)] Hn.encs (ItM rs R0 g1 m) (AllY R0) (AllE R0) w0:=by
 intro own l J Jx st0 W hb hJ hJx hM hO hY h0
 refine callsIn_wide.2 (calls_ev (vs:=[.func (.yield l) #[] #[],.pointer (some ⟨g1,0,none⟩)]) 20 Tryd.func30 k2_body (by kernel_rfl) (by simp) fun a0 h0'=> ?_)
 unfold k2Body
 obtain⟨c1,⟨D,O,hMap⟩,hL,hRR,_⟩:=hM _ _ _ h0
 have hRR:=hRR rfl
 rw[hRR] at hMap hL
 refine wp_seq (rg_wp (k2_r0 (np:=R0.length) (C0:=fun s u=>(∃Q,Q.map (·.e)=R0.reverse/\PairsAt u W.heap.size s Q)/\Below W.heap.size W u) h0' rfl (lds1 Tryd.underlying24 rfl c1) (kpairs_any hMap hL) fun a1 s Wp hx h1=> ?_))
 obtain⟨⟨Q,hQ,hP⟩,hbp⟩:=hx
 have hQl:Q.length=R0.length:=by
  have:=congrArg List.length hQ
  simpa using this
 refine wp_block ?_
 refine wp_loop (fun a' wr=> ∃(st:σ) (pre:List Hn),pre.length<=R0.length/\Sl 20 a' [(8,.int .i64 (pre.length:Int)),(7,.int .i64 (R0.length:Int)),(6,.slice s.d R0.length s.c),(0,.func (.yield l) #[] #[])]/\J st pre wr/\Priv (own st) W.heap.size Wp wr Q pre.length) (fun a' _=>muTo R0.length (slot a' 8))
  ⟨st0,[],Nat.zero_le _,h1.to ⟨rfl,rfl,rfl,rfl,trivial⟩,hJ _ _ _ _ h0 hbp,Priv.start (hO _ _ _ h0)⟩ ?_
 rintro a2 w2 ⟨st,pre,hle,h2,hJ2,hPv⟩
 rw[h2.look 8 rfl,muTo_int]
 unfold k2L0
 by_cases hlt:pre.length<R0.length
 ·refine wp_seq (rg_wp (k2_r1 h2 rfl rfl (decide_eq_true (by omega)) fun a3 h3=> ?_))
  refine wp_seq (wpn (h3.look 9 rfl) ?_)
  obtain⟨p,hp⟩: ∃p,Q[pre.length]? =some p:=⟨Q[pre.length],by simp[hQl,hlt]⟩
  obtain⟨g,hsd,hrow⟩:=hPv.row hP hp
  have hpe:R0.reverse[pre.length]? =some p.e:=by rw[<-hQ,List.getElem?_map,hp];rfl
  rw[hsd] at h3
  refine wp_seq (wp_block ?_)
  refine wp_seq (rg_wp (k2_r2 (dk:=p.e.key) (mk:=p.dk) (dv:=p.e.val) (mv:=p.dv) (ow:=p.e.own) h3 rfl rfl (fun w=>ix_at (o:=pre.length*23) (sz:=23) pre.length rfl Tryd.underlying86 pairInf hlt rfl w) (ldsA (cs:=p.cs.toList) Tryd.underlying89 rfl pairInf hrow) (stsA (cells:=p.cs) (there_bk (Blk.new w2 pairT _) (by show 0+23<=23;omega)) pairInf (by kernel_rfl)) fun a4 h4=> ?_))
  have hB4:=over_pair (Blk.new w2 pairT zeroP) rfl p
  have hb4:Below w2.heap.size w2 ((w2.alloc (.cells zeroP pairT)).setCells w2.heap.size 0 p.cs.toList):=below_setCells _ 0 _ (bl_alloc (Below.refl _ _) _) (Nat.le_refl _)
  show Code.wp _ _ _ a4 ((w2.alloc (.cells zeroP pairT)).setCells w2.heap.size 0 p.cs.toList)
  generalize (w2.alloc (.cells zeroP pairT)).setCells w2.heap.size 0 p.cs.toList=w4 at hB4 hb4 ⊢
  have hJ4:=hJ _ _ _ _ hJ2 hb4
  have hPv4:=hPv.below hb4
  have hpa:=hPv4.dat hP hp
  obtain⟨x,hx⟩: ∃x:Hn,x=⟨p.e.key,p.e.val,p.dk,p.dv⟩:=⟨_,rfl⟩
  have hYx:AllY R0 st pre x (fun b=>p.lo<=b/\b<p.hi) w4:=⟨⟨p.e,hpe,by rw[hx],by rw[hx]⟩,p.lo,p.mid,p.hi,by rw[hx];exact hpa.key,by rw[hx];exact hpa.val,hpa.le1,hpa.le2,rfl⟩
  have hyl:=hY st pre x _ w4 hJ4 hYx (fun b hb=>let h:=hPv4.mine hP hp hb;⟨h.1,h.2.1⟩)
  rw[hx] at hyl
  refine wp_seq (k2_r3 (C0:=fun b W'=> ∃st',((b=true/\J st' (pre++[x]) W')\/(b=false/\Jx st' (pre++[x]) W'))/\Step own st st' (fun b=>p.lo<=b/\b<p.hi) w4 W') h4 rfl rfl (pair_key hB4) (pair_val hB4) (YieldAt.mono hyl fun r W' hh=> ?_) fun a5 b w5 hx5 h5=> ?_)
  ·rw[<-hx] at hh
   obtain⟨st',⟨rfl,hh⟩ | ⟨rfl,hh⟩,hs⟩:=hh
   ·exact⟨true,rfl,st',.inl ⟨rfl,hh⟩,hs⟩
   ·exact⟨false,rfl,st',.inr ⟨rfl,hh⟩,hs⟩
  obtain⟨st',⟨rfl,hJ5⟩ | ⟨rfl,hJx5⟩,hs⟩:=hx5
  ·refine wpc_off (h5.look 18 rfl) (block_norm ?_)
   show Code.wp _ (r_k2 4) _ a5 w5
   have hPv5:=hPv4.step hp (own':=own st') (fun b hb=>.inl hb) hs.1 hs.2
   have hpl:(pre++[x]).length=pre.length+1:=by simp
   refine wpl (rg_wp (k2_r4 h5 rfl (by omega) fun a6 h6=>⟨⟨st',pre++[x],by omega, ?_,hJ5,by rw[hpl];exact hPv5⟩, ?_⟩))
   ·rw[hpl,hsd]
    exact h6.to ⟨rfl,rfl,rfl,rfl,trivial⟩
   ·rw[h6.look 8 rfl]
    show muTo R0.length (.int .i64 ((pre.length+1:Nat):Int))<_
    rw[muTo_int]
    omega
  ·refine wp_cond_true (h5.look 18 rfl) (wp_ret ?_)
   repeat (first | with_reducible refine then_ret ?_ | with_reducible refine block_ret ?_)
   exact bodyPost_ret (results_none rfl _ _ _) h5.defers ⟨⟨_,rfl⟩,.inr ⟨_,_,hJx5⟩⟩
 ·refine wp_seq (rg_wp (k2_r1 h2 rfl rfl (decide_eq_false (by omega)) fun a3 h3=> ?_))
  refine wp_seq (wpc_exit (h3.look 9 rfl) ?_)
  refine then_exit' (then_exit' (in_block2 ?_))
  exact bodyPost_end (results_none rfl _ _ _) h3.defers ⟨⟨_,rfl⟩,.inl ⟨st,pre,by show pre.length=R0.length;omega,hJ2⟩⟩
end Go.Proofs.YtlhfickniegooaaDoor

namespace Go.Proofs.YtlhfickniegooaaDoor
open Go.RowKit
set_option maxRecDepth 100000
theorem ret_ctt{P:Program}{fn:Func}{R:Ending->World->Prop}{a:Act}{w:World}{n c t u:Nat}{l:List (Nat×Value)}{ty:TypeId}{p:Addr}{z v y:Value}(hr:fn.results=#[.cell c ty,.tmp t,.tmp u])(hs:Sl n a l)(e3:l.lookup c=some (.pointer (some p)))(e1:l.lookup t=some v)(e2:l.lookup u=some y)(hl:Lds P ty (.pointer (some p)) z w)(h:R (.returned (.tuple #[z,v,y])) w):bodyPost P fn R .ret a w:=
 bodyPost_ret (v:=.tuple #[z,v,y]) (by
  simp[results,hr,look_getD hs e1,look_getD hs e2,look_getD hs e3,asAddr,var_run hl]) hs.defers h
theorem kright_one{d:Dt}(ho:d.ok){m:Dm}{S:Nat->Prop}{w:World}(hd:d.at w S m)(hown:OwnAt w):
  Calls Tryd.prog 21 #[.slice (some ⟨w.heap.size,0,none⟩) 1 1] (w.alloc (.cells (d.cs m) 31)) fun e w'=> ∃v,e=.returned v/\((if rB d=true then v=.nilIface else WrongAt w w' v)/\Below w.heap.size w w'):=by
 have hb:=bl_alloc (Below.refl w.heap.size w) (.cells (d.cs m) 31)
 have hB:=Blk.new w 31 (d.cs m)
 refine(kright_any [(d,m)] (by simp) w.heap.size 1 _ (hown.old hb) hB.lt fun j x mx hj=> ?_).mono fun e w' hh=> ?_
 ·match j,hj with
  | 0,hj=>
   injection hj with hj
   injection hj with h1 h2
   subst h1 h2
   exact⟨range_of hB 0 11 rfl,ho,S,hd.old hb⟩
 ·obtain⟨v,h1,h2,h3⟩:=hh
  refine⟨v,h1, ?_,bl_trans hb h3⟩
  simp only[List.all_cons,List.all_nil,Bool.and_true] at h2
  split at h2
  ·rw[if_pos (by assumption)];exact h2
  ·rw[if_neg (by assumption)]
   obtain⟨g,q1,q2,q3⟩:=h2
   exact⟨g,q1,q2,Nat.le_trans hb.size q3⟩
theorem zero_over{w:World}{g:Nat}{t:TypeId}(h:Blk w g t zeroC):Blk (w.setCells g 0 zeroC.toList) g t zeroC:=by
 have e:(zeroC.toList.foldl (fun(p:Array Value×Nat) v=>(p.1.setIfInBounds p.2 v,p.2+1)) (zeroC,0)).1=zeroC:=by kernel_rfl
 have h2:=Blk.setL zeroC.toList 0 _ _ h
 rw[e] at h2
 exact h2
theorem zero_store{w:World}{g:Nat}{t:TypeId}(h:Blk w g t zeroC):(Instr.storeAt 31 (.pointer (some ⟨g,0,none⟩)) (.agg zeroC)).run Tryd.prog w=.ok () (w.setCells g 0 zeroC.toList):=stsA (cells:=zeroC) (there_bk h (show 0+11<=11 by omega)) datInf (by kernel_rfl)
theorem zero_load{w:World}{g:Nat}{t:TypeId}(h:Blk w g t zeroC):Lds Tryd.prog 31 (.pointer (some ⟨g,0,none⟩)) (.agg zeroC) w:=ldsA (cs:=zeroC.toList) Tryd.underlying31 rfl datInf (range_of h 0 11 rfl)
def GetR(R:List En)(d:Dt)(w:World)(e:Ending)(w':World):Prop:=Below w.heap.size w w'/\
 if rB d=false then ∃v,e=.returned (.tuple #[.agg zeroC,.bool false,v])/\WrongAt w w' v
 else if kB d=false then ∃v,e=.returned (.tuple #[.agg zeroC,.bool false,v])/\FaultAt w w' v keyW (heldS d.h d.k)
 else match fE R d with
  | none=>e=.returned (.tuple #[.agg zeroC,.bool false,.nilIface])
  | some x=> ∃m',e=.returned (.tuple #[.agg (x.val.cs m'),.bool true,.nilIface])/\x.val.sep w' w.heap.size w'.heap.size m'
theorem fE_mem{R:List En}{d:Dt}{x:En}(h:fE R d=some x):x∈R:=List.mem_of_find?_eq_some h
set_option maxHeartbeats 2000000 in
theorem kget_any{w:World}{m:Nat}{R:List En}{D O:Nat->Prop}(hM:MapAt w m R D O){d:Dt}{md:Dm}{S:Nat->Prop}(ho:d.ok)(hd:d.at w S md)(hown:OwnAt w):
  Calls Tryd.prog 10 #[.pointer (some ⟨m,0,none⟩),.agg (d.cs md)] w (GetR R d w):=by
 refine calls_ev (vs:=[.pointer (some ⟨m,0,none⟩),.agg (d.cs md)]) 34 Tryd.func10 kg_body (by kernel_rfl) (by simp) fun a0 h0=> ?_
 unfold kgBody
 refine wp_seq (rg_wp (kg_r0 h0 rfl fun a1 h1=> ?_))
 have hA1:=(Blk.new w 31 (d.cs md)).alloc (.cells zeroC 31)
 have hZ1:=Blk.new1 w (.cells (d.cs md) 31) 31 zeroC
 have hb1:=bl_alloc (bl_alloc (Below.refl w.heap.size w) (.cells (d.cs md) 31)) (.cells zeroC 31)
 have hs1:(w.alloc (.cells (d.cs md) 31)).heap.size=w.heap.size+1:=by simp
 rw[hs1] at h1
 have hsz:((w.alloc (.cells (d.cs md) 31)).alloc (.cells zeroC 31)).heap.size=w.heap.size+2:=by simp
 show Code.wp _ _ _ a1 ((w.alloc (.cells (d.cs md) 31)).alloc (.cells zeroC 31))
 generalize (w.alloc (.cells (d.cs md) 31)).alloc (.cells zeroC 31)=w1 at hA1 hZ1 hb1 hsz ⊢
 have hd1:=hd.old hb1
 refine wp_seq (wp_seq (rg_wp (kg_r1 (C0:=fun v u=>(if rB d=true then v=.nilIface else WrongAt w1 u v)/\Below w1.heap.size w1 u) h1 rfl (dat_whole hA1) (kright_one ho hd1 (hown.old hb1)) fun a2 v2 w2 hx h2=> ?_)))
 obtain⟨hv,hb2⟩:=hx
 have hb02:=bl_trans hb1 hb2
 have hZ2:=hZ1.below hb2 hZ1.lt
 have zc: ∀{u:World},Blk u (w.heap.size+1) 31 zeroC->∀n,Below n w u->n<=w.heap.size->Below n w (u.setCells (w.heap.size+1) 0 zeroC.toList):=fun _ n h hn=>below_setCells _ 0 _ h (by omega)
 cases hr:rB d with
 | false=>
  rw[hr,if_neg (by decide)] at hv
  obtain⟨g,rfl,hg,hgs⟩:=hv
  refine wp_seq (rg_wp (kg_r2e h2 rfl fun a3 h3=>wp_cond_true (h3.look 15 rfl) ?_))
  refine wp_seq (rg_wp (kg_r3 h3 rfl rfl (zero_store hZ2) fun a4 h4=>wp_ret (then_ret ?_)))
  refine ret_ctt rfl h4 rfl rfl rfl (zero_load (zero_over hZ2)) ⟨zc hZ2 _ hb02 (Nat.le_refl _), ?_⟩
  rw[if_pos hr]
  exact⟨_,rfl,g,rfl,Blk.farL (by omega) _ _ _ hg,by omega⟩
 | true=>
 rw[hr,if_pos rfl] at hv
 subst hv
 refine wp_seq (rg_wp (kg_r2n h2 rfl fun a3 h3=>wpo (h3.look 15 rfl) ?_))
 have hA2:=hA1.below hb2 hA1.lt
 refine wp_seq (rg_wp (kg_r4 (C0:=fun x y z u=> ∃q,x=.pointer q/\Below w2.heap.size w2 u/\if kB d=true then q=pO (fE R d)/\z=.nilIface else q=none/\FaultAt w2 u z keyW (heldS d.h d.k)) h3 rfl rfl (dat_whole hA2) ((kfind_any (hM.old hb02) ho hr (hd.old hb02) (hown.old hb02)).mono fun e w' hh=>by
  obtain⟨q1,q2⟩:=hh
  cases hk:kB d with
  | true=>
   rw[hk,if_pos rfl] at q2
   exact⟨_,_,_,q2,_,rfl,q1,by rw[if_pos rfl];exact⟨rfl,rfl⟩⟩
  | false=>
   rw[hk,if_neg (by decide)] at q2
   obtain⟨v,q2,q3⟩:=q2
   exact⟨_,_,_,q2,_,rfl,q1,by rw[if_neg (by decide)];exact⟨rfl,q3⟩⟩) fun a4 x4 y4 z4 w4 hx h4=> ?_))
 obtain⟨q,rfl,hb4,hq⟩:=hx
 have hb04:=bl_trans hb02 hb4
 have hZ4:=hZ2.below hb4 hZ2.lt
 have none':q=none->(∀u:World,u=w4.setCells (w.heap.size+1) 0 zeroC.toList->GetR R d w (.returned (.tuple #[.agg zeroC,.bool false,z4])) u)->Code.wp Tryd.prog (.seq (.seq (r_kg 5) (.cond (.tmp 26) (.seq (r_kg 6) .ret) .skip)) (.seq (r_kg 7) .ret)) (bodyPost Tryd.prog Tryd.f10 (GetR R d w)) a4 w4:=fun hq0 hK=>by
  subst hq0
  refine wp_seq (wp_seq (rg_wp (kg_r5n h4 rfl (fun w=>eql_nn w) fun a5 h5=>wp_cond_true (h5.look 26 rfl) ?_)))
  refine wp_seq (rg_wp (kg_r6 h5 rfl rfl (zero_store hZ4) fun a6 h6=>wp_ret (then_ret ?_)))
  exact ret_ctt rfl h6 rfl rfl rfl (zero_load (zero_over hZ4)) (hK _ rfl)
 cases hk:kB d with
 | false=>
  rw[hk,if_neg (by decide)] at hq
  obtain⟨hq,g,rfl,hg,hgs⟩:=hq
  refine none' hq fun u hu=> ?_
  subst hu
  refine⟨zc hZ4 _ hb04 (Nat.le_refl _), ?_⟩
  have:=hb2.size
  rw[if_neg (by rw[hr];decide),if_pos hk]
  exact⟨_,rfl,g,rfl,Blk.farL (by omega) _ _ _ hg,by omega⟩
 | true=>
 rw[hk,if_pos rfl] at hq
 obtain⟨hq,rfl⟩:=hq
 cases hf:fE R d with
 | none=>
  rw[hf] at hq
  refine none' hq fun u hu=> ?_
  subst hu
  refine⟨zc hZ4 _ hb04 (Nat.le_refl _), ?_⟩
  rw[if_neg (by rw[hr];decide),if_neg (by rw[hk];decide),hf]
 | some x=>
  rw[hf] at hq
  have hq':q=some ⟨x.g,0,none⟩:=hq
  subst hq'
  obtain⟨hb,n,H,N,B,A,hn0,hn1,hR,_⟩:=hM.old hb04
  have hxR:=fE_mem hf
  obtain⟨mk,mv,hBe,_,hva⟩:=hR.ent x hxR
  refine wp_seq (wp_seq (rg_wp (kg_r5e h4 rfl (fun w=>eql_none ⟨x.g,0,none⟩ w) fun a5 h5=>wpo (h5.look 26 rfl) ?_)))
  refine wp_seq (rg_wp (kg_r7 h5 rfl rfl (ent_val hBe) (kcopied_sep (hR.ok x hxR).2.1 hva) (fun x7 w7 hx=>dat_store (d:=x.val) (hZ4.below hx.2 hZ4.lt) (by decide)) fun a6 x6 w6 hx h6=>wp_ret ?_))
  obtain⟨hx1,hx2⟩:=hx
  have hZ6:=hZ4.below hx2 hZ4.lt
  have hB6:=over_dat hZ6 rfl x.val x6
  have hb06:=bl_trans hb04 hx2
  have h2s:=hb2.size
  have h4s:=hb4.size
  refine ret_ctt rfl h6 rfl rfl rfl (dat_whole hB6) ⟨below_setCells _ 0 _ hb06 (by omega), ?_⟩
  rw[if_neg (by rw[hr];decide),if_neg (by rw[hk];decide),hf]
  refine⟨x6,rfl,(hx1.keep (fun b hb1 _ _=>setCells_other _ _ _ (by omega))).mono (by omega) (Nat.le_of_eq (setCells_size' _ _ _ _).symm)⟩
end Go.Proofs.YtlhfickniegooaaDoor

namespace Go.Proofs.YtlhfickniegooaaDoor
open Go.RowKit
set_option maxRecDepth 100000
structure Wn where
 j:Nat
 h:Hn
def Wn.encs(x:Wn):Array Value:=x.h.encs
def nx(pre:List Wn):Nat:=match pre.getLast? with
 | none=>0
 | some x=>x.j+1
theorem nx_snoc(pre:List Wn)(x:Wn):nx (pre++[x])=x.j+1:=by
 unfold nx
 rw[List.getLast?_append]
 rfl
def GoneB(R R0:List En)(lo hi:Nat):Prop:= ∀i e,lo<=i->i<hi->R0.reverse[i]? =some e->e.own=true/\fE R e.key=none
def WalkY{σ:Type}(rs:σ->List En)(R0:List En)(st:σ)(pre:List Wn)(x:Wn)(Hd:Nat->Prop)(A:World):Prop:=(∃e,R0.reverse[x.j]? =some e/\(if e.own=true then ∃f,fE (rs st) e.key=some f/\x.h.k=f.key/\x.h.v=f.val else x.h.k=e.key/\x.h.v=e.val))/\nx pre<=x.j/\GoneB (rs st) R0 (nx pre) x.j/\x.h.at Hd A
def WalkE{σ:Type}(rs:σ->List En)(R0:List En)(st:σ)(xs:List Wn)(_:World):Prop:=GoneB (rs st) R0 (nx xs) R0.length
theorem pair_over{w:World}{g:Nat}{t:TypeId}{a b:Dt}{ma mb:Dm}{o:Bool}(h:Blk w g t (prA a b ma mb o))(k v:Dt)(mk mv:Dm):Blk ((w.setCells g 0 (k.cs mk).toList).setCells g 11 (v.cs mv).toList) g t (prA k v mk mv o):=by
 have e1:((k.cs mk).toList.foldl (fun(p:Array Value×Nat) v=>(p.1.setIfInBounds p.2 v,p.2+1)) (prA a b ma mb o,0)).1=prA k b mk mb o:=by kernel_rfl
 have e2:((v.cs mv).toList.foldl (fun(p:Array Value×Nat) v=>(p.1.setIfInBounds p.2 v,p.2+1)) (prA k b mk mb o,11)).1=prA k v mk mv o:=by kernel_rfl
 have h2:=Blk.setL (k.cs mk).toList 0 _ _ h
 rw[e1] at h2
 have h3:=Blk.setL (v.cs mv).toList 11 _ _ h2
 rw[e2] at h3
 exact h3
set_option maxHeartbeats 2000000 in
theorem walk_seq{σ:Type}(rs:σ->List En)(R0:List En)(g1 m:Nat)(w0:World):SeqZ Tryd.prog 27 #[.pointer (some ⟨g1,0,none⟩)] Wn.encs (ItM rs R0 g1 m) (WalkY rs R0) (WalkE rs R0) w0:=by
  intro own l J Jx st0 W hb hJ hJx hM hO hY h0
  refine callsIn_wide.2 (calls_ev (vs:=[.func (.yield l) #[] #[],.pointer (some ⟨g1,0,none⟩)]) 47 Tryd.func27 k3_body (by kernel_rfl) (by simp) fun a0 h0'=> ?_)
  unfold k3Body
  obtain⟨c1,⟨D,O,hMap⟩,hL,hRR,_⟩:=hM _ _ _ h0
  have hRR:=hRR rfl
  rw[hRR] at hMap hL
  have hKO:KeysOk R0/\∀e∈R0,e.key.ok:=by
    obtain⟨_,_,_,_,_,_,_,_,hR,_,_,hK,_⟩:=hMap
    exact⟨hK,fun e he=>(hR.ok e he).1⟩
  refine wp_seq (rg_wp (k3_r0 (np:=R0.length) (C0:=fun s u=>(∃Q,Q.map (·.e)=R0.reverse/\PairsAt u W.heap.size s Q)/\Below W.heap.size W u) h0' rfl (lds1 Tryd.underlying24 rfl c1) (kpairs_any hMap hL) fun a1 s Wp hx h1=> ?_))
  obtain⟨⟨Q,hQ,hP⟩,hbp⟩:=hx
  have hQl:Q.length=R0.length:=by
    have:=congrArg List.length hQ
    simpa using this
  refine wp_block ?_
  refine wp_loop (fun a' wr=> ∃(st:σ) (pre:List Wn) (j:Nat),nx pre<=j/\j<=R0.length/\GoneB (rs st) R0 (nx pre) j/\Sl 47 a' [(11,.int .i64 (j:Int)),(10,.int .i64 (R0.length:Int)),(9,.slice s.d R0.length s.c),(0,.func (.yield l) #[] #[]),(1,.pointer (some ⟨g1,0,none⟩))]/\J st pre wr/\Priv (own st) W.heap.size Wp wr Q j) (fun a' _=>muTo R0.length (slot a' 11))
    ⟨st0,[],0,Nat.zero_le _,Nat.zero_le _,(fun i e _ h=>by omega),h1.to ⟨rfl,rfl,rfl,rfl,rfl,trivial⟩,hJ _ _ _ _ h0 hbp,Priv.start (hO _ _ _ h0)⟩ ?_
  rintro a2 w2 ⟨st,pre,j,hnx,hle,hgo,h2,hJ2,hPv⟩
  rw[h2.look 11 rfl,muTo_int]
  unfold k3L0
  by_cases hlt:j<R0.length
  · refine wp_seq (rg_wp (k3_r1 h2 rfl rfl (decide_eq_true (by omega)) fun a3 h3=> ?_))
    refine wp_seq (wpn (h3.look 12 rfl) ?_)
    obtain⟨p,hp⟩: ∃p,Q[j]? =some p:=⟨Q[j],by simp[hQl,hlt]⟩
    obtain⟨g,hsd,hrow⟩:=hPv.row hP hp
    have hpe:R0.reverse[j]? =some p.e:=by rw[<-hQ,List.getElem?_map,hp];rfl
    have hpR:p.e∈R0:=by simpa using List.mem_of_getElem? hpe
    have next: ∀(a':Act) (w':World) (st':σ) (pre':List Wn),Sl 47 a' [(11,.int .i64 (j:Int)),(10,.int .i64 (R0.length:Int)),(9,.slice s.d R0.length s.c),(0,.func (.yield l) #[] #[]),(1,.pointer (some ⟨g1,0,none⟩))]->J st' pre' w'->nx pre'<=j+1->GoneB (rs st') R0 (nx pre') (j+1)->Priv (own st') W.heap.size Wp w' Q (j+1)->
        ∀Qn:Exit->Act->World->Prop,(∀a'',((∃(st:σ) (pre:List Wn) (j:Nat),nx pre<=j/\j<=R0.length/\GoneB (rs st) R0 (nx pre) j/\Sl 47 a'' [(11,.int .i64 (j:Int)),(10,.int .i64 (R0.length:Int)),(9,.slice s.d R0.length s.c),(0,.func (.yield l) #[] #[]),(1,.pointer (some ⟨g1,0,none⟩))]/\J st pre w'/\Priv (own st) W.heap.size Wp w' Q j)/\muTo R0.length (slot a'' 11)<R0.length-j)->Qn .normal a'' w')->(r_k3 8).wp Tryd.prog Qn a' w':=fun a' w' st' pre' h' hJ' hn hg hPv' Qn hQn=>by
      refine wpl (rg_wp (k3_r8 h' rfl (by omega) fun a6 h6=>hQn a6 ⟨⟨st',pre',j+1,hn,by omega,hg,h6.to ⟨rfl,rfl,rfl,rfl,rfl,trivial⟩,hJ',hPv'⟩, ?_⟩))
      rw[h6.look 11 rfl]
      show muTo R0.length (.int .i64 ((j+1:Nat):Int))<_
      rw[muTo_int]
      omega
    rw[hsd] at h3
    refine wp_seq (wp_block ?_)
    refine wp_seq (rg_wp (k3_r2 (dk:=p.e.key) (mk:=p.dk) (dv:=p.e.val) (mv:=p.dv) (ow:=p.e.own) h3 rfl rfl (fun w=>ix_at (o:=j*23) (sz:=23) j rfl Tryd.underlying86 pairInf hlt rfl w) (ldsA (cs:=p.cs.toList) Tryd.underlying89 rfl pairInf hrow) (stsA (cells:=p.cs) (there_bk (Blk.new w2 pairT _) (by show 0+23<=23;omega)) pairInf (by kernel_rfl)) fun a4 h4=> ?_))
    have hB4:=over_pair (Blk.new w2 pairT zeroP) rfl p
    have hb4:Below w2.heap.size w2 ((w2.alloc (.cells zeroP pairT)).setCells w2.heap.size 0 p.cs.toList):=below_setCells _ 0 _ (bl_alloc (Below.refl _ _) _) (Nat.le_refl _)
    show Code.wp _ _ _ a4 ((w2.alloc (.cells zeroP pairT)).setCells w2.heap.size 0 p.cs.toList)
    generalize (w2.alloc (.cells zeroP pairT)).setCells w2.heap.size 0 p.cs.toList=w4 at hB4 hb4 ⊢
    rw[<-hsd] at h4
    have hJ4:=hJ _ _ _ _ hJ2 hb4
    have hPv4:=hPv.below hb4
    have hpa:=hPv4.dat hP hp
    have fin: ∀(a7:Act) (w7:World) (x:Hn) (Hd:Nat->Prop) (Qb:Exit->Act->World->Prop),Sl 47 a7 [(4,.pointer (some ⟨w2.heap.size,0,none⟩)),(11,.int .i64 (j:Int)),(10,.int .i64 (R0.length:Int)),(9,.slice s.d R0.length s.c),(0,.func (.yield l) #[] #[]),(1,.pointer (some ⟨g1,0,none⟩))]->
        Blk w7 w2.heap.size pairT (prA x.k x.v x.dk x.dv p.e.own)->Below w2.heap.size w2 w7->WalkY rs R0 st pre ⟨j,x⟩ Hd w7->(∀b,Hd b->¬own st b/\b<w7.heap.size)->
        (∀a' w' st',Sl 47 a' [(11,.int .i64 (j:Int)),(10,.int .i64 (R0.length:Int)),(9,.slice s.d R0.length s.c),(0,.func (.yield l) #[] #[]),(1,.pointer (some ⟨g1,0,none⟩))]->J st' (pre++[⟨j,x⟩]) w'->Step own st st' Hd w7 w'->Qb .normal a' w')->(∀a' w' st',a'.defers=[]->Jx st' (pre++[⟨j,x⟩]) w'->Qb .ret a' w')->
        Code.wp Tryd.prog (.seq (r_k3 7) (.cond (.tmp 45) .ret .skip)) Qb a7 w7:=by
      intro a7 w7 x Hd Qb h7 hB7 hb7 hY7 hHd hn hr
      have hyl:=hY st pre ⟨j,x⟩ Hd w7 (hJ _ _ _ _ hJ2 hb7) hY7 hHd
      refine wp_seq (k3_r7 (C0:=fun b W'=> ∃st',((b=true/\J st' (pre++[⟨j,x⟩]) W')\/(b=false/\Jx st' (pre++[⟨j,x⟩]) W'))/\Step own st st' Hd w7 W') h7 rfl rfl (dat_load (d:=x.k) (m:=x.dk) hB7 rfl) (dat_load (d:=x.v) (m:=x.dv) hB7 rfl) (YieldAt.mono hyl fun r W' hh=> ?_) fun a5 b w5 hx5 h5=> ?_)
      · obtain⟨st',⟨rfl,hh⟩ | ⟨rfl,hh⟩,hs⟩:=hh
        · exact⟨true,rfl,st',.inl ⟨rfl,hh⟩,hs⟩
        · exact⟨false,rfl,st',.inr ⟨rfl,hh⟩,hs⟩
      obtain⟨st',⟨rfl,hJ5⟩ | ⟨rfl,hJx5⟩,hs⟩:=hx5
      · exact wpc_off (h5.look 45 rfl) (hn _ _ st' (h5.to ⟨rfl,rfl,rfl,rfl,rfl,trivial⟩) hJ5 hs)
      · exact wp_cond_true (h5.look 45 rfl) (wp_ret (hr _ _ st' h5.defers hJx5))
    have done: ∀(x:Hn) (Hd:Nat->Prop) (w7:World) (a':Act) (w':World) (st':σ),Below w2.heap.size w2 w7->(∀b,Hd b->(p.lo<=b/\b<p.hi)\/Wp.heap.size<=b)->Step own st st' Hd w7 w'->nx (pre++[⟨j,x⟩])<=j+1/\GoneB (rs st') R0 (nx (pre++[⟨j,x⟩])) (j+1)/\Priv (own st') W.heap.size Wp w' Q (j+1):=fun x Hd w7 a' w' st' hb7 hHd hs=>by
      rw[nx_snoc]
      exact⟨Nat.le_refl _,(fun i e h1 h2=>by have h1:j+1<=i:=h1;omega),(hPv.below hb7).step hp hHd hs.1 hs.2⟩
    cases hown:p.e.own with
    | false=>
      refine wp_seq (wp_seq (rg_wp (k3_r3 h4 rfl (one_load hB4 Tryd.underlying4 rfl (v:=.bool p.e.own) rfl) fun a5 h5=> ?_)))
      rw[hown] at h5
      refine wpo (h5.look 16 rfl) ?_
      refine fin a5 w4 ⟨p.e.key,p.e.val,p.dk,p.dv⟩ (fun b=>p.lo<=b/\b<p.hi) _ (h5.to ⟨rfl,rfl,rfl,rfl,rfl,rfl,trivial⟩) hB4 hb4 ⟨⟨p.e,hpe,by rw[hown,if_neg (by decide)];exact⟨rfl,rfl⟩⟩,hnx,hgo,p.lo,p.mid,p.hi,hpa.key,hpa.val,hpa.le1,hpa.le2,rfl⟩ (fun b hb=>let h:=hPv4.mine hP hp hb;⟨h.1,h.2.1⟩) (fun a' w' st' h' hJ' hs=>block_norm ?_) (fun a' w' st' hd' hJx'=> ?_)
      · obtain⟨d1,d2,d3⟩:=done ⟨p.e.key,p.e.val,p.dk,p.dv⟩ _ w4 a' w' st' hb4 (fun b hb=>.inl hb) hs
        exact next a' w' st' _ h' hJ' d1 d2 d3 _ (fun _ h=>h)
      · repeat (first | with_reducible refine then_ret ?_ | with_reducible refine block_ret ?_)
        exact bodyPost_ret (results_none rfl _ _ _) hd' ⟨⟨_,rfl⟩,.inr ⟨_,_,hJx'⟩⟩
    | true=>
      refine wp_seq (wp_seq (rg_wp (k3_r3 h4 rfl (one_load hB4 Tryd.underlying4 rfl (v:=.bool p.e.own) rfl) fun a5 h5=> ?_)))
      rw[hown] at h5
      refine wp_cond_true (h5.look 16 rfl) ?_
      obtain⟨c1',⟨D',O',hMap'⟩,_,_,hown'⟩:=hM _ _ _ hJ4
      have hkr:=hKO.1.right _ hpR
      refine wp_seq (rg_wp (k3_r4 (gm:=m) (dk:=p.e.key) (mk:=p.dk) (C0:=fun x y z u=>x=.pointer (pO (fE (rs st) p.e.key))/\Below w4.heap.size w4 u) h5 rfl rfl (lds1 Tryd.underlying24 rfl c1') (pair_key hB4) ((kfind_any hMap' (hKO.2 _ hpR) hkr.1 hpa.key.dat hown').mono fun e w' hh=>by
        obtain⟨q1,q2⟩:=hh
        rw[if_pos hkr.2] at q2
        exact⟨_,_,_,q2,rfl,q1⟩) fun a6 x6 y6 z6 w6 hx6 h6=> ?_))
      obtain⟨rfl,hb6⟩:=hx6
      have hb26:=bl_trans hb4 hb6
      cases hf:fE (rs st) p.e.key with
      | none=>
        have hpe0:pO (none:Option En)=none:=rfl
        rw[hf,hpe0] at h6
        refine wp_seq (wp_seq (rg_wp (k3_r5n h6 rfl (fun w=>eql_nn w) fun a7 h7=>wp_cond_true (h7.look 26 rfl) (wp_exit ?_))))
        repeat (with_reducible refine then_exit' ?_)
        refine in_block2 ?_
        exact next a7 w6 st pre (h7.to ⟨rfl,rfl,rfl,rfl,rfl,trivial⟩) (hJ _ _ _ _ hJ2 hb26) (by omega) (fun i e q1 q2 q3=>by
          rcases Nat.lt_or_ge i j with q | q
          · exact hgo i e q1 q q3
          · have q4:i=j:=by omega
            rw[q4,hpe] at q3
            injection q3 with q3
            rw[<-q3]
            exact⟨hown,hf⟩) (hPv.below hb26).skip _ (fun _ h=>h)
      | some f=>
        have hpe0:pO (some f)=some ⟨f.g,0,none⟩:=rfl
        rw[hf,hpe0] at h6
        obtain⟨_,_,_,_,_,_,_,_,hR6,_⟩:=hMap'.old hb6
        have hfR:=fE_mem hf
        obtain⟨mk,mv,hBf,hkf,hvf⟩:=hR6.ent f hfR
        obtain⟨ok1,ok2,_⟩:=hR6.ok f hfR
        have hB6:=hB4.below hb6 hB4.lt
        have hdr:Below w6.heap.size w6 (w6.drewN 1):=below_drewN (Below.refl _ _) 1
        refine wp_seq (wp_seq (rg_wp (k3_r5e h6 rfl (fun w=>eql_none ⟨f.g,0,none⟩ w) fun a7 h7=>wpo (h7.look 26 rfl) ?_)))
        refine rg_wp (k3_r6 (C:=fun u=>Below w6.heap.size w6 u) (ek:=f.key) (ev:=f.val) (mek:=mk) (mev:=mv) (C0:=fun y u=>f.key.sep u w6.heap.size u.heap.size y/\Below w6.heap.size w6 u) (C1:=fun u0 y u=>f.val.sep u u0.heap.size u.heap.size y/\Below u0.heap.size u0 u)
          h7 rfl rfl hdr (fun u hu=>ent_key (hBf.below hu hBf.lt)) (fun u hu=>ent_val (hBf.below hu hBf.lt))
          ((kcopied_sep ok1 (hkf.old hdr)).mono fun e w' hh => by
            obtain⟨y,r1,r2,r3⟩:=hh
            exact⟨y,r1,r2,bl_trans hdr r3⟩)
          (fun y u hy=>hy.2)
          (fun y u hy=>(kcopied_sep ok2 (hvf.old hy.2)).mono fun e w' hh=>by
            obtain⟨z,r1,r2,r3⟩:=hh
            exact⟨z,r1,r2,r3⟩)
          (fun y u hy z u2 hz=>bl_trans hy.2 hz.2)
          (fun y u hy z u2 hz=>dat_store (hB6.below (bl_trans hy.2 hz.2) hB6.lt) (by show 0+11<=23;omega))
          (fun y u hy z u2 hz=>dat_store (Blk.setL (f.key.cs y).toList 0 _ _ (hB6.below (bl_trans hy.2 hz.2) hB6.lt)) (by rw[foldSet_size];show 11+11<=23;omega))
          fun a8 y u z u2 hy hz h8=> ?_)
        have hbu:=bl_trans hy.2 hz.2
        have hB8:=pair_over (hB6.below hbu hB6.lt) f.key f.val y z
        have z1:=hb26.size
        have z2:=hy.2.size
        have z3:=hz.2.size
        have z4:=hB6.lt
        have z5:=hb6.size
        have hb8:Below w2.heap.size w2 ((u2.setCells w2.heap.size 0 (f.key.cs y).toList).setCells w2.heap.size 11 (f.val.cs z).toList):=below_setCells _ _ _ (below_setCells _ _ _ (bl_trans hb26 hbu) (Nat.le_refl _)) (Nat.le_refl _)
        have hs8:((u2.setCells w2.heap.size 0 (f.key.cs y).toList).setCells w2.heap.size 11 (f.val.cs z).toList).heap.size=u2.heap.size:=(setCells_size' _ _ _ _).trans (setCells_size' _ _ _ _)
        have hoth: ∀b,w6.heap.size<=b->((u2.setCells w2.heap.size 0 (f.key.cs y).toList).setCells w2.heap.size 11 (f.val.cs z).toList).heap[b]? =u2.heap[b]? :=fun b hb=>(setCells_other _ _ _ (by omega)).trans (setCells_other _ _ _ (by omega))
        have hk8:f.key.sep ((u2.setCells w2.heap.size 0 (f.key.cs y).toList).setCells w2.heap.size 11 (f.val.cs z).toList) w6.heap.size u.heap.size y:=hy.1.keep (fun b hb _ hl=>(hoth b hb).trans (hz.2.block b hl))
        have hv8:f.val.sep ((u2.setCells w2.heap.size 0 (f.key.cs y).toList).setCells w2.heap.size 11 (f.val.cs z).toList) u.heap.size u2.heap.size z:=hz.1.keep (fun b hb _ hl=>hoth b (by omega))
        show Code.wp _ _ _ a8 ((u2.setCells w2.heap.size 0 (f.key.cs y).toList).setCells w2.heap.size 11 (f.val.cs z).toList)
        generalize (u2.setCells w2.heap.size 0 (f.key.cs y).toList).setCells w2.heap.size 11 (f.val.cs z).toList=w8 at hB8 hb8 hs8 hoth hk8 hv8 ⊢
        have hOb: ∀b,own st b->b<w4.heap.size:=hO _ _ _ hJ4
        have hPs:=hPv4.size
        refine fin a8 w8 ⟨f.key,f.val,y,z⟩ (fun b=>w6.heap.size<=b/\b<u2.heap.size) _ (h8.to ⟨rfl,rfl,rfl,rfl,rfl,rfl,trivial⟩) hB8 hb8 ⟨⟨p.e,hpe,by rw[hown,if_pos rfl];exact⟨f,hf,rfl,rfl⟩⟩,hnx,hgo,w6.heap.size,u.heap.size,u2.heap.size,hk8,hv8,z2,z3,rfl⟩ (fun b hb=>⟨fun h=>by have:=hOb b h;omega,by omega⟩) (fun a' w' st' h' hJ' hs=>block_norm ?_) (fun a' w' st' hd' hJx'=> ?_)
        · obtain⟨d1,d2,d3⟩:=done ⟨f.key,f.val,y,z⟩ _ w8 a' w' st' hb8 (fun b hb=>.inr (by omega)) hs
          exact next a' w' st' _ h' hJ' d1 d2 d3 _ (fun _ h=>h)
        · repeat (first | with_reducible refine then_ret ?_ | with_reducible refine block_ret ?_)
          exact bodyPost_ret (results_none rfl _ _ _) hd' ⟨⟨_,rfl⟩,.inr ⟨_,_,hJx'⟩⟩
  · refine wp_seq (rg_wp (k3_r1 h2 rfl rfl (decide_eq_false (by omega)) fun a3 h3=> ?_))
    refine wp_seq (wpc_exit (h3.look 12 rfl) ?_)
    refine then_exit' (then_exit' (in_block2 ?_))
    exact bodyPost_end (results_none rfl _ _ _) h3.defers ⟨⟨_,rfl⟩,.inl ⟨st,pre,(by
      have:j=R0.length:=by omega
      subst this
      exact hgo),hJ2⟩⟩
end Go.Proofs.YtlhfickniegooaaDoor

namespace Go.Proofs.YtlhfickniegooaaDoor
open Go.RowKit Go.Sort
def RSameC(h:Hd)(k:Fo)(h':Hd)(k':Fo):Prop:= ∀(w:World) (S T:Nat->Prop) (pa:Option Addr) (pc:Nat) (ia:Option Addr) (ic:Nat) (pa':Option Addr) (pc':Nat) (ia':Option Addr) (ic':Nat),
 DatAt w S h k pa pc ia ic->DatAt w T h' k' pa' pc' ia' ic'->
 Calls Tryd.prog 29 #[.agg (h.cells pa pc ia k.len ic),.agg (h'.cells pa' pc' ia' k'.len ic')] w fun e w'=>e=.returned (.bool (sameD h k h' k'))/\Below w.heap.size w w'
def s1B(h h':Hd)(n n':Nat):Bool:=h.kind==h'.kind&&(h.type.toList==h'.type.toList&&(h.n==h'.n&&(h.f==h'.f&&(h.s.toList==h'.s.toList&&((n:Int)==(n':Int)&&((h.path.length:Int)==(h'.path.length:Int)))))))
def s2B(h h':Hd):Bool:=h.obj==h'.obj&&(h.frm==h'.frm&&(h.len==h'.len&&h.cap==h'.cap))
theorem same_split(h:Hd)(k:Fo)(h':Hd)(k':Fo):sameD h k h' k'=(s1B h h' k.len k'.len&&s2B h h'&&(decide (h.path=h'.path)&&sameF k k')):=by
 have hl:sameF k k'=(((k.len:Int)==(k'.len:Int))&&sameF k k'):=by
  cases hf:sameF k k' with
  | false=>simp
  | true=>rw[sameF_len k k' hf];simp
 have hp:decide (h.path=h'.path)=(((h.path.length:Int)==(h'.path.length:Int))&&decide (h.path=h'.path)):=by
  by_cases e:h.path=h'.path
  ·simp[e]
  ·simp[e]
 unfold sameD sameHd oneB s1B s2B
 rw[beq_str,beq_str,hl,hp,Bool.eq_iff_iff]
 simp only[Bool.and_eq_true,decide_eq_true_iff,beq_iff_eq]
 constructor
 ·rintro⟨⟨⟨⟨a1,a2⟩,a3,a4,a5,a6,a7,a8,a9⟩,b1,b2⟩,c1,c2⟩
  exact⟨⟨⟨a1,a2,a3,a4,a5,c1,b1⟩,a6,a7,a8,a9⟩,⟨b1,b2⟩,c1,c2⟩
 ·rintro⟨⟨⟨a1,a2,a3,a4,a5,c1,b1⟩,a6,a7,a8,a9⟩,⟨_,b2⟩,_,c2⟩
  exact⟨⟨⟨⟨a1,a2⟩,a3,a4,a5,a6,a7,a8,a9⟩,b1,b2⟩,c1,c2⟩
theorem drop_dec2{l m:List Int}{j:Nat}{x y:Int}(hx:l[j]? =some x)(hy:m[j]? =some y):decide (l.drop j=m.drop j)=((x==y)&&decide (l.drop (j+1)=m.drop (j+1))):=by
 obtain⟨hj1,rfl⟩:=List.getElem?_eq_some_iff.1 hx
 obtain⟨hj2,rfl⟩:=List.getElem?_eq_some_iff.1 hy
 rw[List.drop_eq_getElem_cons hj1,List.drop_eq_getElem_cons hj2,Bool.eq_iff_iff]
 simp only[decide_eq_true_iff,Bool.and_eq_true,beq_iff_eq,List.cons.injEq]
set_option maxRecDepth 100000 in
set_option maxHeartbeats 4000000 in
theorem rsame_one(h:Hd)(k:Fo)(h':Hd)(k':Fo)(ho:h.ok)(_ho':h'.ok)(hl:k.len<=1034834473170)(ih: ∀i a b a' b',k.get i=some (a,b)->k'.get i=some (a',b')->RSameC a b a' b'):RSameC h k h' k':=by
 intro w S T pa pc ia ic pa' pc' ia' ic' hd hd'
 have HSP:=Lib.hid (same_split h k h' k')
 unfold Hd.cells
 go_enter Tryd.func29,Tryd.ntmps29
 go_upto_region 0 with fail
 go_cut [0,1,2,3,4] (fun _ _ t2 t3 _ wx=>t2=.pointer (some ⟨w.heap.size,0,none⟩)/\t3=.pointer (some ⟨w.heap.size+1,0,none⟩)/\Blk wx w.heap.size 31 (h.cells pa pc ia k.len ic)/\Blk wx (w.heap.size+1) 31 (h'.cells pa' pc' ia' k'.len ic')/\Below w.heap.size w wx)
 case first=>
  go_wp2_with fail
  go_meet
  case rel=>exact⟨rfl,rfl,(Blk.new _ _ _).alloc _,Blk.new1 _ _ _ _,bz⟩
 case rest=>
 obtain⟨rfl,rfl,hA,hB,hbw⟩:=hcut
 obtain⟨w0,rfl⟩: ∃w0:World,w0=wc:=⟨_,rfl⟩
 obtain⟨c0,c1,c2,c3,c4,c5,c6,c7,c8,c9,c10⟩:=(CellsAt.of_blk hA).box
 obtain⟨d0,d1,d2,d3,d4,d5,d6,d7,d8,d9,d10⟩:=(CellsAt.of_blk hB).box
 go_upto_region 1 with fail
 go_cut [60] (fun t wx=>t=.bool (!s1B h h' k.len k'.len)/\w0=wx)
 case first=>
  have HS1:Hid (s1B h h' k.len k'.len=(h.kind==h'.kind&&(h.type.toList==h'.type.toList&&(h.n==h'.n&&(h.f==h'.f&&(h.s.toList==h'.s.toList&&((k.len:Int)==(k'.len:Int)&&((h.path.length:Int)==(h'.path.length:Int))))))))):=Lib.hid rfl
  cases q0:h.kind==h'.kind
  ·rw[q0] at HS1
   have p0:(h.kind != h'.kind)=true:=by simp[bne,q0]
   clear q0
   go_wp2_with fail
   go_meet
   case rel=>exact⟨by rw[HS1.out];rfl,rfl⟩
  rw[q0] at HS1
  have p0:(h.kind != h'.kind)=false:=by simp[bne,q0]
  clear q0
  cases q1:h.type.toList==h'.type.toList
  ·rw[q1] at HS1
   go_wp2_with fail
   go_meet
   case rel=>exact⟨by rw[HS1.out];rfl,rfl⟩
  rw[q1] at HS1
  cases q2:h.n==h'.n
  ·rw[q2] at HS1
   have p2:(h.n != h'.n)=true:=by simp[bne,q2]
   clear q2
   go_wp2_with fail
   go_meet
   case rel=>exact⟨by rw[HS1.out];rfl,rfl⟩
  rw[q2] at HS1
  have p2:(h.n != h'.n)=false:=by simp[bne,q2]
  clear q2
  cases q3:h.f==h'.f
  ·rw[q3] at HS1
   have p3:(h.f != h'.f)=true:=by simp[bne,q3]
   clear q3
   go_wp2_with fail
   go_meet
   case rel=>exact⟨by rw[HS1.out];rfl,rfl⟩
  rw[q3] at HS1
  have p3:(h.f != h'.f)=false:=by simp[bne,q3]
  clear q3
  cases q4:h.s.toList==h'.s.toList
  ·rw[q4] at HS1
   go_wp2_with fail
   go_meet
   case rel=>exact⟨by rw[HS1.out];rfl,rfl⟩
  rw[q4] at HS1
  cases q5:(k.len:Int)==(k'.len:Int)
  ·rw[q5] at HS1
   have p5:((k.len:Int) != (k'.len:Int))=true:=by simp[bne,q5]
   clear q5
   go_wp2_with fail
   go_meet
   case rel=>exact⟨by rw[HS1.out];rfl,rfl⟩
  rw[q5] at HS1
  have p5:((k.len:Int) != (k'.len:Int))=false:=by simp[bne,q5]
  clear q5
  cases q6:(h.path.length:Int)==(h'.path.length:Int)
  ·rw[q6] at HS1
   have p6:((h.path.length:Int) != (h'.path.length:Int))=true:=by simp[bne,q6]
   clear q6
   go_wp2_with fail
   go_meet
   case rel=>exact⟨by rw[HS1.out];rfl,rfl⟩
  rw[q6] at HS1
  have p6:((h.path.length:Int) != (h'.path.length:Int))=false:=by simp[bne,q6]
  clear q6
  go_wp2_with fail
  go_meet
  case rel=>exact⟨by rw[HS1.out];rfl,rfl⟩
 case rest=>
 obtain⟨rfl,rfl⟩:=hcut
 cases hs1:s1B h h' k.len k'.len
 ·have HR:Hid (sameD h k h' k'=false):=Lib.hid (by rw[HSP.out,hs1];rfl)
  clear hs1
  go_wp2_with fail
  go_ret
  exact⟨ret_bool HR.out.symm,hbw⟩
 have hlens:k.len=k'.len/\h.path.length=h'.path.length:=by
  unfold s1B at hs1
  simp only[Bool.and_eq_true,beq_iff_eq] at hs1
  omega
 have HLN:=Lib.hid hlens
 rw[hs1] at HSP
 clear hs1 hlens
 go_upto_region 3 with fail
 go_cut [94] (fun t wx=>t=.bool (!s2B h h')/\w0=wx)
 case first=>
  have HS2:Hid (s2B h h'=(h.obj==h'.obj&&(h.frm==h'.frm&&(h.len==h'.len&&h.cap==h'.cap)))):=Lib.hid rfl
  cases q0:h.obj==h'.obj
  ·rw[q0] at HS2
   have p0:(h.obj != h'.obj)=true:=by simp[bne,q0]
   clear q0
   go_wp2_with fail
   go_meet
   case rel=>exact⟨by rw[HS2.out];rfl,rfl⟩
  rw[q0] at HS2
  have p0:(h.obj != h'.obj)=false:=by simp[bne,q0]
  clear q0
  cases q1:h.frm==h'.frm
  ·rw[q1] at HS2
   have p1:(h.frm != h'.frm)=true:=by simp[bne,q1]
   clear q1
   go_wp2_with fail
   go_meet
   case rel=>exact⟨by rw[HS2.out];rfl,rfl⟩
  rw[q1] at HS2
  have p1:(h.frm != h'.frm)=false:=by simp[bne,q1]
  clear q1
  cases q2:h.len==h'.len
  ·rw[q2] at HS2
   have p2:(h.len != h'.len)=true:=by simp[bne,q2]
   clear q2
   go_wp2_with fail
   go_meet
   case rel=>exact⟨by rw[HS2.out];rfl,rfl⟩
  rw[q2] at HS2
  have p2:(h.len != h'.len)=false:=by simp[bne,q2]
  clear q2
  cases q3:h.cap==h'.cap
  ·rw[q3] at HS2
   have p3:(h.cap != h'.cap)=true:=by simp[bne,q3]
   clear q3
   go_wp2_with fail
   go_meet
   case rel=>exact⟨by rw[HS2.out];rfl,rfl⟩
  rw[q3] at HS2
  have p3:(h.cap != h'.cap)=false:=by simp[bne,q3]
  clear q3
  go_wp2_with fail
  go_meet
  case rel=>exact⟨by rw[HS2.out];rfl,rfl⟩
 case rest=>
 obtain⟨rfl,rfl⟩:=hcut
 cases hs2:s2B h h'
 ·have HR:Hid (sameD h k h' k'=false):=Lib.hid (by rw[HSP.out,hs2];rfl)
  clear hs2
  go_wp2_with fail
  go_ret
  exact⟨ret_bool HR.out.symm,hbw⟩
 have HR:Hid (sameD h k h' k'=(decide (h.path=h'.path)&&sameF k k')):=Lib.hid (by rw[HSP.out,hs2];rfl)
 clear hs2
 have hpl:=ho.path
 have HA:=Lib.hid hA
 have HB:=Lib.hid hB
 have HD1:=Lib.hid hd
 have HD2:=Lib.hid hd'
 have HIH:=Lib.hid ih
 clear c0 c1 c2 c3 c4 c5 c6 c7 c8 c9 c10 d0 d1 d2 d3 d4 d5 d6 d7 d8 d9 d10 hA hB hd hd' ih HSP
 go_wp2_with fail
 go_loopg [5] h.path.length (fun g i wr=> ∃j:Nat,j<=h.path.length/\i=.int .i64 j/\g=h.path.length-j/\Below w.heap.size w wr/\Blk wr w.heap.size 31 (h.cells pa pc ia k.len ic)/\Blk wr (w.heap.size+1) 31 (h'.cells pa' pc' ia' k'.len ic')/\Hid (decide (h.path=h'.path)=decide (h.path.drop j=h'.path.drop j)))
 case atStart=>exact⟨0,by omega,rfl,by omega,hbw,HA.out,HB.out,by unfold Hid;simp⟩
 case round=>
 obtain⟨j,hj,rfl,rfl,hbr,hA,hB,HN⟩:=hrel
 obtain⟨c0,c1,c2,c3,c4,c5,c6,c7,c8,c9,c10⟩:=(CellsAt.of_blk hA).box
 obtain⟨d0,d1,d2,d3,d4,d5,d6,d7,d8,d9,d10⟩:=(CellsAt.of_blk hB).box
 by_cases hlt:j<h.path.length
 ·obtain⟨x,hx⟩: ∃x,h.path[j]? =some x:=⟨_,List.getElem?_eq_getElem hlt⟩
  obtain⟨y,hy⟩: ∃y,h'.path[j]? =some y:=⟨_,List.getElem?_eq_getElem (by have:=HLN.out.2;omega)⟩
  obtain⟨pb,po,rfl,_,hc1⟩:=(HD1.out.below hbr (fun b _ h=>h)).path.get hx
  obtain⟨qb,qo,rfl,_,hc2⟩:=(HD2.out.below hbr (fun b _ h=>h)).path.get hy
  have HS:Hid (decide (h.path.drop j=h'.path.drop j)=((x==y)&&decide (h.path.drop (j+1)=h'.path.drop (j+1)))):=Lib.hid (drop_dec2 hx hy)
  have hj0:(j:Int)<(h.path.length:Int):=by omega
  have hj2:(j:Int)<(h'.path.length:Int):=by have:=HLN.out.2;omega
  clear hx hy
  cases q:x==y
  ·rw[q] at HS
   have p:(x != y)=true:=by simp[bne,q]
   clear q
   go_wp2_with fail
   go_quiet (fail)
   go_wp2_with fail
   go_ret
   exact⟨ret_bool (by rw[HR.out,HN.out,HS.out];rfl),bz⟩
  ·rw[q] at HS
   have p:(x != y)=false:=by simp[bne,q]
   clear q
   go_wp2_with fail
   go_quiet (fail)
   go_wp2_with fail
   go_roundg (h.path.length-(j+1))
   case measure=>omega
   case rel=>exact⟨j+1,by omega,by go_num,rfl,bz,hA.drewN _,hB.drewN _,by unfold Hid;rw[HN.out,HS.out];rfl⟩
 have hjl:h.path.length<=j:=by omega
 have HRF:Hid (sameD h k h' k'=sameF k k'):=Lib.hid (by
  rw[HR.out,HN.out,List.drop_of_length_le hjl,List.drop_of_length_le (by have:=HLN.out.2;omega)];simp)
 have hjn:(h.path.length:Int)<=(j:Int):=by omega
 have HA2:=Lib.hid hA
 have HB2:=Lib.hid hB
 clear HR HN hlt hjl HA HB
 go_upto_region 10 with fail
 clear c0 c1 c2 c3 c4 c5 c6 c7 c8 c9 c10 d0 d1 d2 d3 d4 d5 d6 d7 d8 d9 d10 hA hB
 go_wp2_with fail
 go_loopg [6] k.len (fun g i wr=> ∃t:Nat,t<=k.len/\i=.int .i64 t/\g=k.len-t/\Below w.heap.size w wr/\Blk wr w.heap.size 31 (h.cells pa pc ia k.len ic)/\Blk wr (w.heap.size+1) 31 (h'.cells pa' pc' ia' k'.len ic')/\Hid (sameF k k'=sameF (k.drop t) (k'.drop t)))
 case atStart=>exact⟨0,by omega,rfl,by omega,hbr,HA2.out,HB2.out,by unfold Hid;simp⟩
 case round=>
 obtain⟨t,ht,rfl,rfl,hbs,hA,hB,HN⟩:=hrel
 by_cases hlt:t<k.len
 ·obtain⟨c0,c1,c2,c3,c4,c5,c6,c7,c8,c9,c10⟩:=(CellsAt.of_blk hA).boxrg
  obtain⟨d0,d1,d2,d3,d4,d5,d6,d7,d8,d9,d10⟩:=(CellsAt.of_blk hB).boxrg
  have x10:=(CellsAt.of_blk hA).box.2.2.2.2.2.2.2.2.2.2
  obtain⟨h1,k1,hg1⟩:=Fo.get_lt k t hlt
  obtain⟨h2,k2,hg2⟩:=Fo.get_lt k' t (by have:=HLN.out.1;omega)
  have hk1:SlAt _ S ia k:=(HD1.out.below hbs (fun b _ h=>h)).kids
  have hk2:SlAt _ T ia' k':=(HD2.out.below hbs (fun b _ h=>h)).kids
  obtain⟨b1,o1,rfl,_,pa1,pc1,ia1,ic1,hcs1,hda1⟩:=hk1.get hg1
  obtain⟨b2,o2,rfl,_,pa2,pc2,ia2,ic2,hcs2,hda2⟩:=hk2.get hg2
  obtain⟨m0,m1,m2,m3,m4,m5,m6,m7,m8,m9,m10⟩:=hcs1.rg
  obtain⟨n0,n1,n2,n3,n4,n5,n6,n7,n8,n9,n10⟩:=hcs2.rg
  have hI:=fun d os=>HIH.out t h1 k1 h2 k2 hg1 hg2 (grow (redrawn wr d) os) S T pa1 pc1 ia1 ic1 pa2 pc2 ia2 ic2 (hda1.below (below_regrown wr d os) (fun b _ h=>h)) (hda2.below (below_regrown wr d os) (fun b _ h=>h))
  have HDr:Hid (sameF (k.drop t) (k'.drop t)=(sameD h1 k1 h2 k2&&sameF (k.drop (t+1)) (k'.drop (t+1)))):=Lib.hid (by rw[Fo.drop_get k t h1 k1 hg1,Fo.drop_get k' t h2 k2 hg2];rfl)
  obtain⟨q1,hq1⟩: ∃q,sameD h1 k1 h2 k2=q:=⟨_,rfl⟩
  rw[hq1] at hI HDr
  unfold Hd.cells at hI
  have HI:=Lib.hid hI
  have hj0:(t:Int)<(k.len:Int):=by omega
  have hj2:(t:Int)<(k'.len:Int):=by have:=HLN.out.1;omega
  have HLT:=Lib.hid hlt
  clear hI hg1 hg2 hk1 hk2 hcs1 hcs2 hda1 hda2 hq1
  go_upto_region 13 with fail
  go_cut [7] (fun tt wx=>tt=.bool q1/\Below wr.heap.size wr wx)
  case first=>
   refine wp_region_below (by kernel_rfl) (by kernel_rfl) ?_
   repeat (go_big_quiet_step ((go_at_call 29;exact Calls.regrown_of (HI.out _ _))))
   refine wpQuiet_nil ?_
   intro w2 hb2
   go_wp2_with fail
   go_meet
   case rel=>exact⟨rfl,hb2⟩
  case rest=>
  obtain⟨rfl,hb2⟩:=hcut
  obtain⟨w2,rfl⟩: ∃w2:World,w2=wc:=⟨_,rfl⟩
  have hA2:=hA.below hb2 hA.lt
  have hB2:=hB.below hb2 hB.lt
  have hbw2:=bl_trans hbs hb2
  clear c0 c1 c2 c3 c4 c5 c6 c7 c8 c9 c10 d0 d1 d2 d3 d4 d5 d6 d7 d8 d9 d10 m0 m1 m2 m3 m4 m5 m6 m7 m8 m9 m10 n0 n1 n2 n3 n4 n5 n6 n7 n8 n9 n10 x10 HI hA hB hb2
  cases q1
  ·go_wp2_with fail
   go_ret
   exact⟨ret_bool (by rw[HRF.out,HN.out,HDr.out];rfl),hbw2⟩
  ·go_wp2_with fail
   go_roundg (k.len-(t+1))
   case measure=>omega
   case rel=>exact⟨t+1,by have:=HLT.out;omega,by go_num,rfl,hbw2,hA2,hB2,by unfold Hid;rw[HN.out,HDr.out];rfl⟩
 ·have htl:t=k.len:=by omega
  have HR:Hid (sameD h k h' k'=true):=Lib.hid (by
   rw[HRF.out,HN.out,Fo.drop_len k _ (by omega),Fo.drop_len k' _ (by have:=HLN.out.1;omega)];rfl)
  subst htl
  obtain⟨c0,c1,c2,c3,c4,c5,c6,c7,c8,c9,c10⟩:=(CellsAt.of_blk hA).box
  go_wp2_with fail
  go_ret
  exact⟨ret_bool HR.out.symm,hbs⟩
theorem rsame_all: ∀(f:Fo),f.ok->∀(g:Fo) (i:Nat) (a:Hd) (b:Fo) (a':Hd) (b':Fo),g.ok->f.get i=some (a,b)->g.get i=some (a',b')->RSameC a b a' b'
 | .nil,_,g,i,a,b,a',b',_,e,_=>by simp[Fo.get] at e
 | .cons h k r,o,g,0,a,b,a',b',og,e,e'=>by
  simp only[Fo.get,Option.some.injEq,Prod.mk.injEq] at e
  obtain⟨rfl,rfl⟩:=e
  obtain⟨o1,o2,_⟩:=Fo.ok_get g 0 a' b' og e'
  exact rsame_one _ _ _ _ o.1 o1 o.2.2.2 (fun i c d c' d' e e'=>rsame_all k o.2.1 b' i c d c' d' o2 e e')
 | .cons h k r,o,.nil,i+1,a,b,a',b',og,e,e'=>by simp[Fo.get] at e'
 | .cons h k r,o,.cons h2 k2 r2,i+1,a,b,a',b',og,e,e'=>rsame_all r o.2.2.1 r2 i a b a' b' og.2.2.1 e e'
theorem rsame_any(h:Hd)(k:Fo)(h':Hd)(k':Fo)(ho:h.ok)(hk:k.ok)(hl:k.len<=1034834473170)(ho':h'.ok)(hk':k'.ok):RSameC h k h' k':=
 rsame_one h k h' k' ho ho' hl (fun i a b a' b' e e'=>rsame_all k hk k' i a b a' b' hk' e e')
end Go.Proofs.YtlhfickniegooaaDoor
