/-
   Written by an AI agent.
-/
import Derived.Test.YtbjegfpfmnleeaaGreatDoorQw34
namespace Go.Proofs.YtbjegfpfmnleeaaGreatDoor
set_option maxRecDepth 100000
section
variable {K R:List Int} {L:Int->List Int} {D:DD} {i:Nat}
theorem chain_all{e:Nat}(h:Bf K R L i e D): ∀(f j:Nat),j<f->j<D.length->
  (∀(k l:Nat) (x:Int),k<l->(chain D j)[k]? =some x->(chain D j)[l]? ≠some x)/\(∀(k:Nat) (x:Int),(chain D j)[k]? =some x->∃a,a<=j/\nAt D a=x/\(qAt D a=a↔k=0))/\(∀(k:Nat) (x y:Int),(chain D j)[k]? =some y->(chain D j)[k+1]? =some x->x∈L y)
 | 0,j,hf,_=>by omega
 | f+1,j,hf,hj=>by
  rw[chain_eq h hj]
  by_cases hq:qAt D j=j
  ·rw[if_pos hq]
   refine⟨fun k l x hkl hk=> ?_,fun k x hk=> ?_,fun k x y hk hk1=> ?_⟩
   ·have:l≠0:=by omega
    rw[List.getElem?_eq_none (by simp;omega)]
    exact fun e=>by cases e
   ·have hk0:k=0:=by
     have:=(List.getElem?_eq_some_iff.1 hk).1
     simp at this
     exact this
    subst hk0
    have:nAt D j=x:=by simpa using hk
    exact⟨j,Nat.le_refl _,this,fun _=>rfl,fun _=>hq⟩
   ·rw[List.getElem?_eq_none (by simp)] at hk1
    cases hk1
  ·rw[if_neg hq]
   obtain⟨p1,p2,p3⟩:=h.par j hj hq
   obtain⟨a1,a2,a3⟩:=chain_all h f (qAt D j) (by omega) (by omega)
   have hp:=chain_path h (qAt D j+1) (qAt D j) (by omega) (by omega)
   have hpos:=pth_pos hp
   have hlast:=pth_last hp
   have hne: ∀k x,(chain D (qAt D j))[k]? =some x->x≠nAt D j:=fun k x hk e=>by
    obtain⟨a,b1,b2,_⟩:=a2 k x hk
    have:=h.nd a j (by omega) hj (by rw[b2,e])
    omega
   refine⟨fun k l x hkl hk hl=> ?_,fun k x hk=> ?_,fun k x y hk hk1=> ?_⟩
   ·rcases Nat.lt_or_ge l (chain D (qAt D j)).length with h1 | h1
    ·rw[List.getElem?_append_left h1] at hl
     rw[List.getElem?_append_left (by omega)] at hk
     exact a1 k l x hkl hk hl
    ·have hll:l=(chain D (qAt D j)).length:=by
      have:=(List.getElem?_eq_some_iff.1 hl).1
      simp at this
      omega
     subst hll
     have hx:nAt D j=x:=by simpa using hl
     rw[List.getElem?_append_left hkl] at hk
     exact hne k x hk hx.symm
   ·rcases Nat.lt_or_ge k (chain D (qAt D j)).length with h1 | h1
    ·rw[List.getElem?_append_left h1] at hk
     obtain⟨a,b1,b2,b3⟩:=a2 k x hk
     exact⟨a,by omega,b2,b3⟩
    ·have hkk:k=(chain D (qAt D j)).length:=by
      have:=(List.getElem?_eq_some_iff.1 hk).1
      simp at this
      omega
     subst hkk
     have hx:nAt D j=x:=by simpa using hk
     exact⟨j,Nat.le_refl _,hx,fun e=>absurd e hq,fun e=>by omega⟩
   ·rcases Nat.lt_or_ge (k+1) (chain D (qAt D j)).length with h1 | h1
    ·rw[List.getElem?_append_left h1] at hk1
     rw[List.getElem?_append_left (by omega)] at hk
     exact a3 k x y hk hk1
    ·have hkk:k+1=(chain D (qAt D j)).length:=by
      have:=(List.getElem?_eq_some_iff.1 hk1).1
      simp at this
      omega
     rw[hkk] at hk1
     have hx:nAt D j=x:=by simpa using hk1
     rw[List.getElem?_append_left (by omega)] at hk
     rw[List.getLast?_eq_getElem?,show(chain D (qAt D j)).length-1=k by omega,hk] at hlast
     injection hlast with hlast
     rw[hlast,<-hx]
     exact p3
end
structure WayP (K R:List Int) (L:Int->List Int) (z:Int) (p:List Int):Prop where
 once: ∀(k l:Nat) (x:Int),k<l->p[k]? =some x->p[l]? ≠some x
 inK: ∀x,x∈p->x∈K
 root: ∀(k:Nat) (x:Int),p[k]? =some x->(x∈R↔k=0)
 led: ∀(k:Nat) (x y:Int),p[k]? =some y->p[k+1]? =some x->x∈L y
 last:p≠[]->p.getLast? =some z
 is:p≠[]↔z∈reachB K L R
theorem way_p{T:Tm}{R:List Int}(hp:R.Pairwise (· <= ·))(z:Int):WayP (keysT T) R (leadsI T) z (wayT T R z):=by
 have hB:=run_bf T hp
 have hnd:((runT T R).map (·.1)).Nodup:=hB.nodup
 unfold wayT
 have hR:z∈reachB (keysT T) (leadsI T) R↔z∈(runT T R).map (·.1):=sortZ_mem
 by_cases hz:z∈(runT T R).map (·.1)
 ·obtain⟨j,hj,rfl⟩:=mem_nAt.1 hz
  rw[way_in hnd hj]
  obtain⟨a1,a2,a3⟩:=chain_all hB (j+1) j (by omega) hj
  have hpt:=chain_path hB (j+1) j (by omega) hj
  have hne:chain (runT T R) j≠[]:=fun e=>by have:=pth_pos hpt;rw[e] at this;simp at this
  refine⟨a1,fun x hx=> ?_,fun k x hk=> ?_,a3,fun _=>pth_last hpt,fun _=>hR.2 hz,fun _=>hne⟩
  ·obtain⟨k,hk⟩:=List.mem_iff_getElem?.1 hx
   obtain⟨a,b1,b2,_⟩:=a2 k x hk
   rw[<-b2]
   exact hB.inK a (by omega)
  ·obtain⟨a,b1,b2,b3⟩:=a2 k x hk
   constructor
   ·intro hx
    obtain⟨a',c1,c2,c3⟩:=hB.roots x hx (by rw[<-b2];exact hB.inK a (by omega))
    have:=hB.nd a' a c1 (by omega) (by rw[c2,b2])
    subst this
    exact b3.1 c3
   ·intro hk0
    rw[<-b2]
    exact hB.root a (by omega) (b3.2 hk0)
 ·rw[way_out hz]
  exact⟨fun k l x _ h=>(by simp at h),fun x h=>(by cases h),fun k x h=>(by simp at h),fun k x y h=>(by simp at h),fun h=>absurd rfl h,fun h=>absurd rfl h,fun h=>absurd (hR.1 h) hz⟩
theorem obj_root{xs:List Fd}(h: ∀x,x∈xs->x.ok){v:Int}(hv:v≠0):v∈xs.map (fun x=>x.h.obj)↔v∈rootsX xs:=by
 unfold rootsX
 rw[sortZ_mem,List.mem_map,List.mem_flatMap]
 constructor
 ·rintro⟨x,hx,rfl⟩
  refine⟨x,hx, ?_⟩
  rw[<-fd_to x (h x hx),if_neg hv]
  exact List.mem_singleton.2 rfl
 ·rintro⟨x,hx,hm⟩
  refine⟨x,hx, ?_⟩
  rw[<-fd_to x (h x hx)] at hm
  split at hm
  ·cases hm
  ·exact(List.mem_singleton.1 hm).symm
end Go.Proofs.YtbjegfpfmnleeaaGreatDoor

namespace Go.Proofs.YtbjegfpfmnleeaaGreatDoor
open Go.RowKit Go.Maps
set_option maxRecDepth 100000
theorem neq_bool(b:Bool)(w:World):(binOp .neq 4 (.bool b) (.bool b)).run Tryz.prog w=.ok (.bool false) w:=by cases b<;>rfl
set_option maxHeartbeats 8000000 in
theorem collectWay_any{w:World}(hown:OwnAt w)(hw0:0<w.heap.size){xs:List I4}{pa:Option Addr}(hA:Acts4 w pa xs)(pc:Nat){c1:List Int}{qa:Option Addr}(h1i:IntsIn w qa c1)(qc:Nat){tz:Int}(htz:okInt tz):
  Calls Tryz.prog 5 #[.slice pa xs.length pc,.slice qa c1.length qc,.int .i64 tz] w fun e w'=>e=.returned (.bool true)/\Below w.heap.size w w':=by
 refine calls_ev (vs:=[.slice pa xs.length pc,.slice qa c1.length qc,.int .i64 tz]) 152 Tryz.func5 zy_body (by kernel_rfl) (by simp) fun a0 h0=> ?_
 unfold zyBody
 refine wp_seq (rg_wp (zy_r0 h0 fun a1 k1=> ?_))
 refine wp_seq (rg_wp (zy_r1 (b:=true) (C0:=fun z=>Below w.heap.size w z) k1 (lawKnown_any hown hw0) fun a2 u1 hb1 k2=> ?_))
 have hz1:=hb1.size
 refine wp_seq (rg_wp (zy_r2 (C0:=fun wp u=>(∃gh O sd sk,Wd u1.heap.size u wp gh O (worldS xs) sd sk)/\Below u1.heap.size u1 u) k2 rfl (world_any (hown.old hb1) (by omega) (hA.below hb1) pc) fun a3 wp u2 hu k3=> ?_))
 obtain⟨⟨gh,O,sd,sk,hW2⟩,hb12⟩:=hu
 have hb2:Below w.heap.size w u2:=bl_trans hb1 hb12
 obtain⟨B,hB⟩: ∃B,B=u1.heap.size:=⟨_,rfl⟩
 rw[<-hB] at hW2
 obtain⟨σ,hσ⟩: ∃σ,σ=worldS xs:=⟨_,rfl⟩
 rw[<-hσ] at hW2
 have hok:=hW2.ok
 have hfarX:=hok.far
 refine wp_seq (wp_seq (rg_wp (zy_r3_t (b28:=false) k3 rfl rfl (fun w=>rfl) fun a4 k4=>wpc_off (k4.look 29 rfl) ?_)))
 refine wp_seq (rg_wp (zy_r5 k4 fun a5 k5=> ?_))
 refine wp_seq (rg_wp (zy_r6 k5 fun a5 k5=> ?_))
 refine wp_seq (wp_seq (rg_wp (zy_r7 k5 fun a6 k6=> ?_)))
 refine wp_block ?_
 refine wp_loop (fun a' wr=> ∃(i:Nat) (s r:S3),i<=c1.length/\i<=20/\Sl 152 a' [(11,.int .i64 (i:Int)),(8,.pointer (some ⟨wp,0,none⟩)),(9,.slice s.d s.n s.c),(10,.slice r.d r.n r.c),(1,.slice qa c1.length qc),(2,.int .i64 tz)]/\RowN u2.heap.size wr s ((c1.take i).map (datS σ.X))/\ZRow wr u2.heap.size r (((c1.take i).map (datS σ.X)).map fun x=>x.h.obj)/\Below u2.heap.size u2 wr) (fun a' _=>muTo c1.length (slot a' 11))
  ⟨0,⟨none,0,0⟩,⟨none,0,0⟩,Nat.zero_le _,Nat.zero_le _,k6.to ⟨rfl,rfl,rfl,rfl,rfl,rfl,trivial⟩,ARow.nil _ _ _ _,ZRow.nil _ _,Below.refl _ _⟩ ?_
 rintro a7 w7 ⟨i,s,r,hi,hi20,k7,hr7,hz7,hb7⟩
 rw[k7.look 11 rfl,muTo_int]
 unfold zyL2
 have hb07:=bl_trans hb2 hb7
 have hs7:=hb7.size
 by_cases hlt:i<c1.length/\i<20
 ·refine wp_seq (wp_seq (rg_wp (zy_r8_t (sn:=c1.length) (b36:=true) k7 rfl rfl (decide_eq_true (by omega)) (decide_eq_true (by omega)) fun a8 k8=>wpn (k8.look 37 rfl) ?_)))
  obtain⟨c,hc⟩: ∃c,c1[i]? =some c:=⟨c1[i]'hlt.1,List.getElem?_eq_getElem _⟩
  obtain⟨g,o,hqa,hcl⟩:=path_get (h1i.below hb07) hc
  rw[hqa] at k8
  have hlen:((c1.take i).map (datS σ.X)).length<=20:=by rw[List.length_map,List.length_take];omega
  obtain⟨y,hy⟩: ∃y,y=datS σ.X c:=⟨_,rfl⟩
  have dd:=lawDatum_any (hW2.old hb7) (h1i.num c (List.mem_of_getElem? hc))
  rw[<-hy] at dd
  refine wp_seq (wp_block ?_)
  refine wp_seq (rg_wp (zy_r10 (c:=c) (d:=y.dt) (dm:=dm0) (C0:=fun z=>Below w7.heap.size w7 z) k8 rfl rfl rfl (fun w=>ix_int hlt.1 w) (lds1 Tryz.underlying3 rfl hcl) dd (fun v hv=>dat_store (Blk.new v datT zA) (by show 0+11<=11;omega)) fun a9 v hv k9=> ?_))
  have hX:=over_x (w:=v) y.dt dm0
  obtain⟨g12,hg12⟩: ∃g12,g12=v.heap.size:=⟨_,rfl⟩
  change Code.wp _ _ _ a9 ((v.alloc (.cells zA datT)).setCells v.heap.size 0 (y.dt.cs dm0).toList)
  rw[<-hg12] at hX k9
  rw[<-hg12]
  generalize (v.alloc (.cells zA datT)).setCells g12 0 (y.dt.cs dm0).toList=v2 at hX ⊢
  obtain⟨hD,hbv⟩:=hX
  rw[hg12] at hbv
  have hb72:=bl_trans hv hbv
  have hb22:=bl_trans hb7 hb72
  have hsv:=hv.size
  have hsv2:=hbv.size
  have hrv:RowN u2.heap.size v2 s ((c1.take i).map (datS σ.X)):=ARow.old hr7 hb72
  have hzv:ZRow v2 u2.heap.size r (((c1.take i).map (datS σ.X)).map fun x=>x.h.obj):=ARow.old hz7 hb72
  have nd12:s.v.ownBlock≠some g12:=fun e=>by have:=(ARow.block hr7 e).2;omega
  obtain⟨s',w',r1,r2,r3⟩:=app_row hrv (by omega) (by omega) y
  have hrs: ∀{q:Nat},r.v.ownBlock=some q->s.v.ownBlock≠some q:=fun hq e=>by
   have e1:=ZRow.cells hzv hq
   have e2:=ARow.cells hrv e
   have:=Blk.same_t e1.choose_spec e2.choose_spec
   revert this
   decide
  have hD':Blk w' g12 datT (y.dt.cs dm0):=(r3.m.block _ hD.lt nd12).trans hD
  have hz':ZRow w' u2.heap.size r (((c1.take i).map (datS σ.X)).map fun x=>x.h.obj):=ARow.keep hzv fun q hq=>r3.m.block q (ARow.block hzv hq).2 (hrs hq)
  have hb2':Below u2.heap.size u2 w':=hb22.trans (r3.bel (fun g hg=>(ARow.block hrv hg).1) (by omega))
  refine wp_seq (rg_wp (zy_r11 (d:=y.dt) (dm:=dm0) (C0:=fun _ s1 z=>s1=s'/\z=w') k9 rfl rfl (dat_load hD rfl) (fun ty=>⟨s',w',r1 ty,rfl,rfl⟩) fun a10 s1 z hz k10=> ?_))
  obtain⟨rfl,rfl⟩:=hz
  have hzs:=hb2'.size
  obtain⟨r',w'',q1,q2,q3,q4⟩:=ZRow.app' hz' (by rw[List.length_map];omega) (by omega) y.h.obj
  refine wpl (rg_wp (zy_r12 (o:=y.h.obj) (C0:=fun _ s2 z2=>s2=r'/\z2=w'') k10 rfl rfl (one_load hD' Tryz.underlying3 rfl rfl) (fun ty=>⟨r',w'',q1 ty,rfl,rfl⟩) fun a11 s2 z2 hz2 k11=> ?_))
  obtain⟨rfl,rfl⟩:=hz2
  refine block_norm ?_
  show Code.wp _ (r_zy 9) _ a11 z2
  have hst:RowN u2.heap.size z2 s1 ((c1.take i).map (datS σ.X)++[y]):=ARow.keep r2 fun q hq=>q3.block q (ARow.block r2 hq).2 fun e=>by
   have e1:=ZRow.cells hz' e
   have e2:=ARow.cells r2 hq
   have:=Blk.same_t e1.choose_spec e2.choose_spec
   revert this
   decide
  refine wpl (rg_wp (zy_r9 k11 rfl (by omega) fun a12 k12=>⟨⟨i+1,s1,s2,hlt.1,hlt.2, ?_, ?_, ?_,hb2'.trans (below_of_moved q3 (fun b hb=>(ARow.block hz' hb).1) (by omega))⟩, ?_⟩))
  ·rw[hqa]
   exact k12.to ⟨rfl,rfl,rfl,rfl,rfl,rfl,trivial⟩
  ·rw[List.take_add_one,hc]
   simp only[Option.toList_some,List.map_append,List.map_cons,List.map_nil]
   rw[<-hy]
   exact hst
  ·rw[List.take_add_one,hc]
   simp only[Option.toList_some,List.map_append,List.map_cons,List.map_nil]
   rw[<-hy]
   exact q2
  ·rw[k12.look 11 rfl]
   show muTo c1.length (.int .i64 ((i+1:Nat):Int))<_
   rw[muTo_int]
   omega
 have hend:(c1.take i).map (datS σ.X)=datL σ.X c1:=by
  unfold datL
  rcases Nat.lt_or_ge i c1.length with h | h
  ·obtain rfl:i=20:=by omega
   rfl
  ·rw[List.take_of_length_le h,List.take_of_length_le (by omega)]
 rw[hend] at hr7 hz7
 have e7: ∀Qn:Exit->Act->World->Prop,(∀a8,Sl 152 a8 [(8,.pointer (some ⟨wp,0,none⟩)),(9,.slice s.d s.n s.c),(10,.slice r.d r.n r.c),(2,.int .i64 tz),(37,.bool false)]->Qn .normal a8 w7)->(r_zy 8).wp Tryz.prog Qn a7 w7:=fun Qn hQn=>by
  by_cases h1:i<c1.length
  ·exact wpl (rg_wp (zy_r8_t (sn:=c1.length) (b36:=false) k7 rfl rfl (decide_eq_true (by omega)) (decide_eq_false (by omega)) fun a8 k8=>hQn a8 (k8.to ⟨rfl,rfl,rfl,rfl,rfl,trivial⟩)))
  ·exact wpl (rg_wp (zy_r8_f (sn:=c1.length) k7 rfl rfl (decide_eq_false (by omega)) fun a8 k8=>hQn a8 (k8.to ⟨rfl,rfl,rfl,rfl,rfl,trivial⟩)))
 refine wp_seq (wp_seq (e7 _ fun a8 k8=>wpc_exit (k8.look 37 rfl) ?_))
 refine then_exit' (then_exit' (in_block2 ?_))
 clear e7 hend hlt k7 k6 k5 k4 k3 k2 k1 h0
 obtain⟨L,hL⟩: ∃L,L=datL σ.X c1:=⟨_,rfl⟩
 rw[<-hL] at hr7 hz7
 have hLok: ∀x,x∈L->x.ok:=by rw[hL];exact datL_ok hok c1
 have hLl:L.length<=20:=by rw[hL];exact datL_len _ _
 have hW7:=hW2.old hb7
 have hK:=hW2.kok
 obtain⟨T,hT⟩: ∃T,T=σ.T:=⟨_,rfl⟩
 rw[<-hT] at hK
 obtain⟨RL,hRL⟩: ∃RL,RL=rootsX L:=⟨_,rfl⟩
 have hRLp:RL.Pairwise (· <= ·):=by rw[hRL];exact rootsX_le _
 have hsn:s.n=L.length:=hr7.1
 have hdn:sd.n=σ.X.length:=hW2.data.1
 obtain⟨go,hgo⟩: ∃go,go=pickN tz (σ.X.length+2):=⟨_,rfl⟩
 have hgl:go<σ.X.length+2:=by rw[hgo];exact pick_lt (by omega)
 have hpk:=lawPick_any htz (n:=σ.X.length+2) (by omega) w7
 rw[<-hgo] at hpk
 refine wp_seq (rg_wp (zy_r13 (n:=go) (C0:=fun z=>z=w7) k8 rfl rfl hW7.ld (by omega) (by rw[hdn];exact hpk) fun a9 z hz k9=> ?_))
 subst hz
 have q14:=xWay hW7 (hown.old hb07) hLok (by omega) (RowN.row hr7).1 s.c (z:=(go:Int)) ⟨by omega,by omega⟩
 rw[<-hT,<-hRL] at q14
 rw[hsn] at k9
 obtain⟨p,hp⟩: ∃p,p=wayT T RL (go:Int):=⟨_,rfl⟩
 have hP:WayP (keysT T) RL (leadsI T) (go:Int) p:=by rw[hp];exact way_p hRLp _
 rw[<-hp] at q14
 refine wp_seq (rg_wp (zy_r14 (ln:=L.length) (go:=go) (C0:=fun q v=>ZRow v z.heap.size q p/\Below z.heap.size z v) k9 rfl rfl rfl hW7.lh q14 fun a10 y w10 hy k10=> ?_))
 obtain⟨hY10,hb10⟩:=hy
 have hb210:=bl_trans hb7 hb10
 have hb010:=bl_trans hb2 hb210
 have hW10:=hW2.old hb210
 have q15:=xReached hW10 (hown.old hb010) hLok (by omega) (RowN.row (ARow.old hr7 hb10)).1 s.c
 rw[<-hT,<-hRL] at q15
 refine wp_seq (rg_wp (zy_r15 (ln:=L.length) (C0:=fun q v=>ZRow v w10.heap.size q (reachT T RL)/\Below w10.heap.size w10 v) k10 rfl rfl hW10.lh q15 fun a11 f w11 hf k11=> ?_))
 obtain⟨hF11,hb11⟩:=hf
 have hrl:=reach_len hK hRLp
 refine wp_seq (rg_wp (zy_r16 (go:=go) (b:=decide ((go:Int)∈reachT T RL)) (C0:=fun v=>Below w11.heap.size w11 v) k11 rfl rfl (withinZ hF11 (by omega) (go:Int)) fun a12 w12 hb12' k12=> ?_))
 have hb212:=bl_trans hb210 (bl_trans hb11 hb12')
 have hY12:ZRow w12 z.heap.size y p:=ARow.old (ARow.old hY10 hb11) hb12'
 have hr12:ZRow w12 u2.heap.size r (L.map fun x=>x.h.obj):=ARow.old (ARow.old (ARow.old hz7 hb10) hb11) hb12'
 have hyn:y.n=p.length:=hY12.1
 have hrn:r.n=L.length:=by have:=hr12.1;rwa [List.length_map] at this
 rw[hyn] at k12
 have hpos:decide ((0:Int)<(p.length:Int))=decide ((go:Int)∈reachT T RL):=by
  have:(0:Int)<(p.length:Int)↔(go:Int)∈reachT T RL:=by
   rw[show((go:Int)∈reachT T RL)↔p≠[] from hP.is.symm]
   cases p<;>simp
  simp only[this]
 have hpl:p.length<=1000:=by
  have h1:p.Nodup:=by
   rw[List.nodup_iff_pairwise_ne,List.pairwise_iff_getElem]
   intro a b ha hb hab e
   exact hP.once a b _ hab (List.getElem?_eq_getElem ha) (by rw[List.getElem?_eq_getElem hb,e])
  have:=nodup_len p (keysT T) h1 hP.inK
  have:=hK.far
  omega
 refine wp_seq (wp_seq (rg_wp (zy_r17 (yn:=p.length) (is:=decide ((go:Int)∈reachT T RL)) (b84:=false) k12 rfl rfl hpos (fun w=>neq_bool _ w) fun a13 k13=>wpc_off (k13.look 84 rfl) ?_)))
 have k13:Sl 152 a13 [(8,.pointer (some ⟨wp,0,none⟩)),(10,.slice r.d r.n r.c),(13,.int .i64 (go:Int)),(14,.slice y.d p.length y.c)]:=k13.to ⟨rfl,rfl,rfl,rfl,trivial⟩
 refine wp_seq (wp_seq (rg_wp (zy_r19 k13 fun a14 k14=> ?_)))
 refine wp_block ?_
 refine wp_loop (fun a' wr=> ∃j:Nat,j<=p.length/\Sl 152 a' [(17,.int .i64 (j:Int)),(8,.pointer (some ⟨wp,0,none⟩)),(10,.slice r.d r.n r.c),(13,.int .i64 (go:Int)),(14,.slice y.d p.length y.c)]/\Below w12.heap.size w12 wr) (fun a' _=>muTo p.length (slot a' 17))
  ⟨0,Nat.zero_le _,k14.to ⟨rfl,rfl,rfl,rfl,rfl,trivial⟩,Below.refl _ _⟩ ?_
 rintro a15 w15 ⟨j,hj,k15,hb15⟩
 rw[k15.look 17 rfl,muTo_int]
 unfold zyL1
 by_cases hjl:j<p.length
 ·refine wp_seq (wp_seq (rg_wp (zy_r20 (yn:=p.length) (b88:=true) k15 rfl rfl (decide_eq_true (by omega)) fun a16 k16=>wpn (k16.look 88 rfl) ?_)))
  have rdp: ∀v,Below w12.heap.size w12 v->∀{k:Nat} {x:Int},p[k]? =some x->∃g,y.d=some ⟨g,0,none⟩/\v.cell? ⟨g,0+k*1,none⟩=some (.int .i64 x):=fun v hv k x hx=>by
   obtain⟨g,h1,_,h3⟩:=ZRow.get (ARow.old hY12 hv) hx
   exact⟨g,h1,h3⟩
  obtain⟨x,hx⟩: ∃x,p[j]? =some x:=⟨p[j],List.getElem?_eq_getElem hjl⟩
  have hxK:=hP.inK x (List.mem_of_getElem? hx)
  have hxp:=hK.pos x hxK
  obtain⟨g,hyd,hc15⟩:=rdp w15 hb15 hx
  have rd: ∀v,Below w12.heap.size w12 v->∀{k:Nat} {x:Int},p[k]? =some x->v.cell? ⟨g,0+k*1,none⟩=some (.int .i64 x):=fun v hv k x hx=>by
   obtain⟨g',h1,h2⟩:=rdp v hv hx
   rw[hyd] at h1
   injection h1 with h1
   injection h1 with h1 _
   subst h1
   exact h2
  rw[hyd] at k16
  refine wp_seq (wp_block ?_)
  refine wp_seq (wp_seq (rg_wp (zy_r22 (x:=x) (b95:=false) k16 rfl rfl (fun w=>ix_int hjl w) (lds1 Tryz.underlying3 rfl hc15) (decide_eq_false (by omega)) fun a17 k17=>wpc_off (k17.look 95 rfl) ?_)))
  refine wp_seq (wp_seq (rg_wp (zy_r24 k17 fun a18 k18=> ?_)))
  refine wp_block ?_
  refine wp_loop (fun a' wr=> ∃k:Nat,k<=j/\Sl 152 a' [(18,.int .i64 (k:Int)),(17,.int .i64 (j:Int)),(8,.pointer (some ⟨wp,0,none⟩)),(10,.slice r.d r.n r.c),(13,.int .i64 (go:Int)),(14,.slice (some ⟨g,0,none⟩) p.length y.c)]/\Below w12.heap.size w12 wr) (fun a' _=>muTo j (slot a' 18))
   ⟨0,Nat.zero_le _,k18.to ⟨rfl,rfl,rfl,rfl,rfl,rfl,trivial⟩,hb15⟩ ?_
  rintro a19 w19 ⟨k,hk,k19,hb19⟩
  rw[k19.look 18 rfl,muTo_int]
  unfold zyL0
  by_cases hkl:k<j
  ·refine wp_seq (wp_seq (rg_wp (zy_r25 (b98:=true) k19 rfl rfl (decide_eq_true (by omega)) fun a20 k20=>wpn (k20.look 98 rfl) ?_)))
   obtain⟨t,ht⟩: ∃t,p[k]? =some t:=⟨p[k]'(by omega),List.getElem?_eq_getElem _⟩
   have hne:t≠x:=fun e=>hP.once k j t hkl ht (by rw[hx,e])
   refine wp_seq (wp_block ?_)
   refine wp_seq (rg_wp (zy_r27 (x:=t) (y:=x) (b109:=false) k20 rfl rfl rfl (fun w=>ix_int (by omega) w) (lds1 Tryz.underlying3 rfl (rd w19 hb19 ht)) (fun w=>ix_int hjl w) (lds1 Tryz.underlying3 rfl (rd w19 hb19 hx)) (decide_eq_false hne) fun a21 md k21=>wpc_off (k21.look 109 rfl) (block_norm ?_)))
   show Code.wp _ (r_zy 26) _ a21 _
   refine wpl (rg_wp (zy_r26 k21 rfl (by omega) fun a22 k22=>⟨⟨k+1,hkl,k22.to ⟨rfl,rfl,rfl,rfl,rfl,rfl,trivial⟩,bl_trans hb19 (below_drewN (Below.refl _ _) _)⟩, ?_⟩))
   rw[k22.look 18 rfl]
   show muTo j (.int .i64 ((k+1:Nat):Int))<_
   rw[muTo_int]
   omega
  refine wp_seq (wp_seq (rg_wp (zy_r25 (b98:=false) k19 rfl rfl (decide_eq_false (by omega)) fun a20 k20=>wpc_exit (k20.look 98 rfl) ?_)))
  refine then_exit' (then_exit' (in_block2 ?_))
  have hroot:(x∈L.map fun x=>x.h.obj)↔j=0:=by
   rw[obj_root hLok (by omega),<-hRL]
   exact hP.root j x hx
  have w29:=withinZ (ARow.old hr12 hb19) (by rw[List.length_map];omega) x
  have hdec:decide (x∈L.map fun x=>x.h.obj)=decide ((j:Int)=0):=by
   have:(x∈L.map fun x=>x.h.obj)↔(j:Int)=0:=by rw[hroot];omega
   simp only[this]
  rw[hdec] at w29
  refine wp_seq (rg_wp (zy_r29 (x:=x) (b:=decide ((j:Int)=0)) (C0:=fun v=>Below w19.heap.size w19 v) k20 rfl rfl rfl (fun w=>ix_int hjl w) (lds1 Tryz.underlying3 rfl (rd w19 hb19 hx)) w29 fun a21 w21 hb21 k21=> ?_))
  have hb21:=bl_trans hb19 hb21
  refine wp_seq (wp_seq (rg_wp (zy_r30 (b119:=false) k21 rfl rfl rfl (fun w=>neq_bool _ w) fun a22 k22=>wpc_off (k22.look 119 rfl) ?_)))
  have k22:Sl 152 a22 [(17,.int .i64 (j:Int)),(8,.pointer (some ⟨wp,0,none⟩)),(10,.slice r.d r.n r.c),(13,.int .i64 (go:Int)),(14,.slice (some ⟨g,0,none⟩) p.length y.c)]:=k22.to ⟨rfl,rfl,rfl,rfl,rfl,trivial⟩
  have next: ∀(a':Act) (v:World),Sl 152 a' [(17,.int .i64 (j:Int)),(8,.pointer (some ⟨wp,0,none⟩)),(10,.slice r.d r.n r.c),(13,.int .i64 (go:Int)),(14,.slice (some ⟨g,0,none⟩) p.length y.c)]->Below w12.heap.size w12 v->∀Qn:Exit->Act->World->Prop,(∀a'',((∃j:Nat,j<=p.length/\Sl 152 a'' [(17,.int .i64 (j:Int)),(8,.pointer (some ⟨wp,0,none⟩)),(10,.slice r.d r.n r.c),(13,.int .i64 (go:Int)),(14,.slice y.d p.length y.c)]/\Below w12.heap.size w12 v)/\muTo p.length (slot a'' 17)<p.length-j)->Qn .normal a'' v)->Code.wp Tryz.prog (r_zy 21) Qn a' v:=fun a' v h hb Qn hQn=>by
   refine wpl (rg_wp (zy_r21 h rfl (by omega) fun a'' h''=>hQn a'' ⟨⟨j+1,hjl, ?_,hb⟩, ?_⟩))
   ·rw[hyd]
    exact h''.to ⟨rfl,rfl,rfl,rfl,rfl,trivial⟩
   ·rw[h''.look 17 rfl]
    show muTo p.length (.int .i64 ((j+1:Nat):Int))<_
    rw[muTo_int]
    omega
  by_cases hj0:0<j
  ·refine wp_seq (rg_wp (zy_r32 (b121:=true) k22 rfl (decide_eq_true (by omega)) fun a23 k23=>wp_cond_true (k23.look 121 rfl) ?_))
   obtain⟨t,ht⟩: ∃t,p[j-1]? =some t:=⟨p[j-1]'(by omega),List.getElem?_eq_getElem _⟩
   have htp:=hK.pos t (hP.inK t (List.mem_of_getElem? ht))
   have hled:x∈leadsI T t:=hP.led (j-1) x t ht (by rw[show j-1+1=j by omega];exact hx)
   obtain⟨C,hC⟩: ∃C:World->Prop,C=fun v=>Below w21.heap.size w21 v:=⟨_,rfl⟩
   have hCd:C (w21.drewN 1):=by rw[hC];exact below_drewN (Below.refl _ _) 1
   have hCi: ∀v,C v->Below w21.heap.size w21 v:=fun v hv=>by rw[hC] at hv;exact hv
   have hd21:=hCi _ hCd
   have hb221:=bl_trans hb212 hb21
   have ql:=xLeads (hW2.old (bl_trans hb221 hd21)) (hown.old (bl_trans hb2 (bl_trans hb221 hd21))) (n:=t) (by omega)
   rw[<-hT] at ql
   have hll:(leadsI T t).length<=10000:=lead_len (by rw[hT];exact hok.tok)
   refine wp_seq (rg_wp (zy_r33 (C:=C) (x:=t) (y:=x) (b:=true) (gh:=gh) (C0:=fun q v=>ZRow v (w21.drewN 1).heap.size q (leadsI T t)/\C v) (C1:=fun v=>C v) k23 rfl rfl rfl hCd (fun v hv=>(hW2.old (bl_trans hb221 (hCi v hv))).lh) (by omega) (fun w=>by rw[show((j:Int)-1)=((j-1:Nat):Int) by omega];exact ix_int (by omega) w) (fun v hv=>lds1 Tryz.underlying3 rfl (rd v (bl_trans hb21 (hCi v hv)) ht)) (fun w=>ix_int hjl w) (fun v hv=>lds1 Tryz.underlying3 rfl (rd v (bl_trans hb21 (hCi v hv)) hx)) (ql.mono fun e w' ⟨q,p1,p2,p3⟩=>⟨q,p1,p2,by rw[hC];exact bl_trans hd21 p3⟩) (fun q v hv=>hv.2) (fun q v hv=> ?_) fun a24 q v v2 hv hv2 k24=> ?_))
   ·have:=withinZ hv.1 (by omega) x
    rw[decide_eq_true hled] at this
    exact this.mono fun e w' hh=>⟨hh.1,by rw[hC];exact bl_trans (hCi v hv.2) hh.2⟩
   ·refine wp_seq (rg_wp (zy_r34 k24 rfl fun a25 k25=>wpc_off (k25.look 138 rfl) (block_norm ?_)))
    exact next a25 v2 (k25.to ⟨rfl,rfl,rfl,rfl,rfl,trivial⟩) (bl_trans hb21 (hCi v2 hv2)) _ fun a'' h=>h
  ·refine wp_seq (rg_wp (zy_r32 (b121:=false) k22 rfl (decide_eq_false (by omega)) fun a23 k23=>wpc_off (k23.look 121 rfl) (block_norm ?_)))
   exact next a23 w21 (k23.to ⟨rfl,rfl,rfl,rfl,rfl,trivial⟩) hb21 _ fun a'' h=>h
 refine wp_seq (wp_seq (rg_wp (zy_r20 (yn:=p.length) (b88:=false) k15 rfl rfl (decide_eq_false (by omega)) fun a16 k16=>wpc_exit (k16.look 88 rfl) ?_)))
 refine then_exit' (then_exit' (in_block2 ?_))
 have hbe:=bl_trans hb2 (bl_trans hb212 hb15)
 by_cases h0:p=[]
 ·have hl0:p.length=0:=by rw[h0];rfl
  refine wp_seq (rg_wp (zy_r36_t (yn:=p.length) k16 rfl (decide_eq_true (by omega)) fun a17 k17=>wp_ret ?_))
  exact ret1 rfl k17 rfl ⟨rfl,hbe⟩
 ·have hlp:0<p.length:=List.length_pos_iff.2 h0
  have hlast:=hP.last h0
  rw[List.getLast?_eq_getElem?] at hlast
  obtain⟨g,hyd,_,hcl⟩:=ZRow.get (ARow.old hY12 hb15) hlast
  rw[hyd] at k16
  refine wp_seq (rg_wp (zy_r36_f (yn:=p.length) (x:=(go:Int)) (b150:=true) k16 rfl rfl (decide_eq_false (by omega)) (by omega) (fun w=>by rw[show((p.length:Int)-1)=((p.length-1:Nat):Int) by omega];exact ix_int (by omega) w) (lds1 Tryz.underlying3 rfl hcl) (decide_eq_true rfl) fun a17 k17=>wp_ret ?_))
  exact ret1 rfl k17 rfl ⟨rfl,hbe⟩
end Go.Proofs.YtbjegfpfmnleeaaGreatDoor
