/-
   Written by an AI agent.
-/
import Derived.Test.YtbjegfpfmnleeaaGreatDoorPk35
import Derived.Test.YtbjegfpfmnleeaaGreatDoorPk01
namespace Go.Proofs.YtbjegfpfmnleeaaGreatDoor
open Go.RowKit Go.Maps
set_option maxRecDepth 100000
structure IntsIn (w:World) (pa:Option Addr) (l:List Int):Prop where
 row:PathAt w (fun b=>b<w.heap.size) pa l
 num: ∀x,x∈l->okInt x
theorem IntsIn.below{w w':World}{pa:Option Addr}{l:List Int}(h:IntsIn w pa l)(hb:Below w.heap.size w w'):PathAt w' (fun b=>b<w.heap.size) pa l:=h.row.keep (fun b hl _=>hb.block b hl) (fun _ h _=>h)
theorem reach_len{T:Tm}(hK:KOk (keysT T)){R:List Int}(hp:R.Pairwise (· <= ·)):(reachT T R).length<=1000:=by
 have:=gone_n hK hp
 have:=hK.far
 omega
set_option maxHeartbeats 8000000 in
theorem collectMore_any{w:World}(hown:OwnAt w)(hw0:0<w.heap.size){xs:List I4}{pa:Option Addr}(hA:Acts4 w pa xs)(pc:Nat){c1 c2:List Int}{qa ra:Option Addr}(h1i:IntsIn w qa c1)(h2i:IntsIn w ra c2)(qc rc:Nat):
  Calls Tryz.prog 4 #[.slice pa xs.length pc,.slice qa c1.length qc,.slice ra c2.length rc] w fun e w'=>e=.returned (.bool true)/\Below w.heap.size w w':=by
 refine calls_ev (vs:=[.slice pa xs.length pc,.slice qa c1.length qc,.slice ra c2.length rc]) 217 Tryz.func4 zx_body (by kernel_rfl) (by simp) fun a0 h0=> ?_
 unfold zxBody
 refine wp_seq (rg_wp (zx_r0 h0 fun a1 k1=> ?_))
 refine wp_seq (rg_wp (zx_r1 (b:=true) (C0:=fun z=>Below w.heap.size w z) k1 (lawKnown_any hown hw0) fun a2 u1 hb1 k2=> ?_))
 have hz1:=hb1.size
 refine wp_seq (rg_wp (zx_r2 (C0:=fun wp u=>(∃gh O sd sk,Wd u1.heap.size u wp gh O (worldS xs) sd sk)/\Below u1.heap.size u1 u) k2 rfl (world_any (hown.old hb1) (by omega) (hA.below hb1) pc) fun a3 wp u2 hu k3=> ?_))
 obtain⟨⟨gh,O,sd,sk,hW2⟩,hb12⟩:=hu
 have hb2:Below w.heap.size w u2:=bl_trans hb1 hb12
 obtain⟨B,hB⟩: ∃B,B=u1.heap.size:=⟨_,rfl⟩
 rw[<-hB] at hW2
 obtain⟨σ,hσ⟩: ∃σ,σ=worldS xs:=⟨_,rfl⟩
 rw[<-hσ] at hW2
 have hok:=hW2.ok
 have hlimO: ∀b,O b->b<u2.heap.size:=fun b hb=>(hW2.hs.lim b hb).2
 refine wp_seq (wp_seq (rg_wp (zx_r3_t (b37:=false) k3 rfl rfl (fun w=>rfl) fun a4 k4=>wpc_off (k4.look 38 rfl) ?_)))
 refine wp_seq (rg_wp (zx_r5 k4 fun a5 k5=> ?_))
 refine wp_seq (wp_seq (rg_wp (zx_r6 k5 fun a6 k6=> ?_)))
 refine wp_block ?_
 refine wp_loop (fun a' wr=> ∃(i:Nat) (s:S3),i<=c1.length/\i<=20/\Sl 217 a' [(10,.int .i64 (i:Int)),(8,.pointer (some ⟨wp,0,none⟩)),(9,.slice s.d s.n s.c),(1,.slice qa c1.length qc),(2,.slice ra c2.length rc)]/\RowN u2.heap.size wr s ((c1.take i).map (datS σ.X))/\Below u2.heap.size u2 wr) (fun a' _=>muTo c1.length (slot a' 10))
  ⟨0,⟨none,0,0⟩,Nat.zero_le _,Nat.zero_le _,k6.to ⟨rfl,rfl,rfl,rfl,rfl,trivial⟩,ARow.nil _ _ _ _,Below.refl _ _⟩ ?_
 rintro a7 w7 ⟨i,s,hi,hi20,k7,hr7,hb7⟩
 rw[k7.look 10 rfl,muTo_int]
 unfold zxL3
 have hb07:=bl_trans hb2 hb7
 by_cases hlt:i<c1.length/\i<20
 ·refine wp_seq (wp_seq (rg_wp (zx_r7_t (sn:=c1.length) (b45:=true) k7 rfl rfl (decide_eq_true (by omega)) (decide_eq_true (by omega)) fun a8 k8=>wpn (k8.look 46 rfl) ?_)))
  obtain⟨c,hc⟩: ∃c,c1[i]? =some c:=⟨c1[i]'hlt.1,List.getElem?_eq_getElem _⟩
  obtain⟨g,o,hqa,hcl⟩:=path_get (h1i.below hb07) hc
  rw[hqa] at k8
  have hlen:((c1.take i).map (datS σ.X)).length<=20:=by rw[List.length_map,List.length_take];omega
  have hz7:=hb7.size
  refine wp_seq (wp_block ?_)
  refine wpl (rg_wp (zx_r9 (c:=c) (d:=(datS σ.X c).dt) (dm:=dm0) (C0:=fun z=>Below w7.heap.size w7 z) (C1:=fun _ s' z=>RowN u2.heap.size z s' ((c1.take (i+1)).map (datS σ.X))/\Below u2.heap.size u2 z) k8 rfl rfl rfl rfl (fun w=>ix_int hlt.1 w) (lds1 Tryz.underlying3 rfl hcl) (lawDatum_any (hW2.old hb7) (h1i.num c (List.mem_of_getElem? hc))) (fun v hv=> ?_) fun a9 v s' v2 hv hs' k9=> ?_))
  ·have hzv:=hv.size
   obtain⟨s',w',r1,r2,r3⟩:=app_row (ARow.old hr7 hv) (by omega) (by omega) (datS σ.X c)
   refine fun ty=>⟨s',w',r1 ty, ?_, ?_⟩
   ·rw[List.take_add_one,hc]
    simp only[Option.toList_some,List.map_append,List.map_cons,List.map_nil]
    exact r2
   ·exact(bl_trans hb7 hv).trans (r3.bel (fun g hg=>(ARow.block hr7 hg).1) (by omega))
  ·refine block_norm ?_
   show Code.wp _ (r_zx 8) _ a9 v2
   refine wpl (rg_wp (zx_r8 k9 rfl (by omega) fun a10 k10=>⟨⟨i+1,s',hlt.1,hlt.2, ?_,hs'.1,hs'.2⟩, ?_⟩))
   ·rw[hqa]
    exact k10.to ⟨rfl,rfl,rfl,rfl,rfl,trivial⟩
   ·rw[k10.look 10 rfl]
    show muTo c1.length (.int .i64 ((i+1:Nat):Int))<_
    rw[muTo_int]
    omega
 have hend:(c1.take i).map (datS σ.X)=datL σ.X c1:=by
  unfold datL
  rcases Nat.lt_or_ge i c1.length with h | h
  ·obtain rfl:i=20:=by omega
   rfl
  ·rw[List.take_of_length_le h,List.take_of_length_le (by omega)]
 rw[hend] at hr7
 have e7: ∀Qn:Exit->Act->World->Prop,(∀a8,Sl 217 a8 [(8,.pointer (some ⟨wp,0,none⟩)),(9,.slice s.d s.n s.c),(2,.slice ra c2.length rc),(46,.bool false)]->Qn .normal a8 w7)->(r_zx 7).wp Tryz.prog Qn a7 w7:=fun Qn hQn=>by
  by_cases h1:i<c1.length
  ·exact wpl (rg_wp (zx_r7_t (sn:=c1.length) (b45:=false) k7 rfl rfl (decide_eq_true (by omega)) (decide_eq_false (by omega)) fun a8 k8=>hQn a8 (k8.to ⟨rfl,rfl,rfl,rfl,trivial⟩)))
  ·exact wpl (rg_wp (zx_r7_f (sn:=c1.length) k7 rfl rfl (decide_eq_false (by omega)) fun a8 k8=>hQn a8 (k8.to ⟨rfl,rfl,rfl,rfl,trivial⟩)))
 refine wp_seq (wp_seq (e7 _ fun a8 k8=>wpc_exit (k8.look 46 rfl) ?_))
 refine then_exit' (then_exit' (in_block2 ?_))
 clear e7 hend hlt k7 k6 k5 k4 k3 k2 k1 h0
 obtain⟨L,hL⟩: ∃L,L=datL σ.X c1:=⟨_,rfl⟩
 rw[<-hL] at hr7
 have hLok: ∀x,x∈L->x.ok:=by rw[hL];exact datL_ok hok c1
 have hLl:L.length<=20:=by rw[hL];exact datL_len _ _
 have hW7:=hW2.old hb7
 have hK:=hW2.kok
 obtain⟨T,hT⟩: ∃T,T=σ.T:=⟨_,rfl⟩
 rw[<-hT] at hK
 obtain⟨RL,hRL⟩: ∃RL,RL=rootsX L:=⟨_,rfl⟩
 have hRLp:RL.Pairwise (· <= ·):=by rw[hRL];exact rootsX_le _
 have hsn:s.n=L.length:=hr7.1
 have q10:=xReached hW7 (hown.old hb07) hLok (by omega) (RowN.row hr7).1 s.c
 rw[<-hT,<-hRL] at q10
 rw[hsn] at k8
 refine wp_seq (rg_wp (zx_r10 (ln:=L.length) (C0:=fun q z=>ZRow z w7.heap.size q (reachT T RL)/\Below w7.heap.size w7 z) k8 rfl rfl hW7.lh q10 fun a9 f w8 hf k9=> ?_))
 obtain⟨hF8,hb8⟩:=hf
 have hr8:=ARow.old hr7 hb8
 obtain⟨t0,w9,r9,hr9,hb9⟩:=app_all (w:=w8) hr8 (by omega)
 rw[hsn] at r9
 refine wp_seq (rg_wp (zx_r11 (ld:=s.d) (ln:=L.length) (lc:=s.c) (C0:=fun _ t z=>t=t0/\z=w9) k9 rfl (fun ty=>⟨t0,w9,r9 ty,rfl,rfl⟩) fun a10 t z9 hz9 k10=> ?_))
 obtain⟨rfl,rfl⟩:=hz9
 have hb29:Below u2.heap.size u2 z9:=bl_trans hb7 (bl_trans hb8 hb9)
 have hz29:=hb29.size
 have hz8:=hb8.size
 have hz9:=hb9.size
 have hz7:=hb7.size
 refine wp_seq (wp_seq (rg_wp (zx_r12 k10 fun a11 k11=> ?_)))
 refine wp_block ?_
 refine wp_loop (fun a' wr=> ∃(j:Nat) (t:S3),j<=c2.length/\j<=20/\Sl 217 a' [(13,.int .i64 (j:Int)),(8,.pointer (some ⟨wp,0,none⟩)),(9,.slice s.d L.length s.c),(11,.slice f.d f.n f.c),(12,.slice t.d t.n t.c),(2,.slice ra c2.length rc)]/\RowN w8.heap.size wr t (L++(c2.take j).map (datS σ.X))/\Below w8.heap.size w8 wr) (fun a' _=>muTo c2.length (slot a' 13))
  ⟨0,t,Nat.zero_le _,Nat.zero_le _,k11.to ⟨rfl,rfl,rfl,rfl,rfl,rfl,trivial⟩,by rw[List.take_zero,List.map_nil,List.append_nil];exact hr9,hb9⟩ ?_
 rintro a12 w12 ⟨j,t2,hj,hj20,k12,hr12,hb12'⟩
 rw[k12.look 13 rfl,muTo_int]
 unfold zxL2
 have hb212:Below u2.heap.size u2 w12:=bl_trans (bl_trans hb7 hb8) hb12'
 have hb012:=bl_trans hb2 hb212
 by_cases hlt2:j<c2.length/\j<20
 ·refine wp_seq (wp_seq (rg_wp (zx_r13_t (tn:=c2.length) (b73:=true) k12 rfl rfl (decide_eq_true (by omega)) (decide_eq_true (by omega)) fun a13 k13=>wpn (k13.look 74 rfl) ?_)))
  obtain⟨c,hc⟩: ∃c,c2[j]? =some c:=⟨c2[j]'hlt2.1,List.getElem?_eq_getElem _⟩
  obtain⟨g,o,hra,hcl⟩:=path_get (h2i.below hb012) hc
  rw[hra] at k13
  have hlen:(L++(c2.take j).map (datS σ.X)).length<=40:=by rw[List.length_append,List.length_map,List.length_take];omega
  have hz12:=hb12'.size
  refine wp_seq (wp_block ?_)
  refine wpl (rg_wp (zx_r15 (c:=c) (d:=(datS σ.X c).dt) (dm:=dm0) (C0:=fun z=>Below w12.heap.size w12 z) (C1:=fun _ s' z=>RowN w8.heap.size z s' (L++(c2.take (j+1)).map (datS σ.X))/\Below w8.heap.size w8 z) k13 rfl rfl rfl rfl (fun w=>ix_int hlt2.1 w) (lds1 Tryz.underlying3 rfl hcl) (lawDatum_any (hW2.old hb212) (h2i.num c (List.mem_of_getElem? hc))) (fun v hv=> ?_) fun a14 v s' v2 hv hs' k14=> ?_))
  ·have hzv:=hv.size
   obtain⟨s',w',r1,r2,r3⟩:=app_row (ARow.old hr12 hv) (by omega) (by omega) (datS σ.X c)
   refine fun ty=>⟨s',w',r1 ty, ?_, ?_⟩
   ·rw[List.take_add_one,hc]
    simp only[Option.toList_some,List.map_append,List.map_cons,List.map_nil]
    rw[<-List.append_assoc]
    exact r2
   ·exact(bl_trans hb12' hv).trans (r3.bel (fun g hg=>(ARow.block hr12 hg).1) (by omega))
  ·refine block_norm ?_
   show Code.wp _ (r_zx 14) _ a14 v2
   refine wpl (rg_wp (zx_r14 k14 rfl (by omega) fun a15 k15=>⟨⟨j+1,s',hlt2.1,hlt2.2, ?_,hs'.1,hs'.2⟩, ?_⟩))
   ·rw[hra]
    exact k15.to ⟨rfl,rfl,rfl,rfl,rfl,rfl,trivial⟩
   ·rw[k15.look 13 rfl]
    show muTo c2.length (.int .i64 ((j+1:Nat):Int))<_
    rw[muTo_int]
    omega
 have hend2:(c2.take j).map (datS σ.X)=datL σ.X c2:=by
  unfold datL
  rcases Nat.lt_or_ge j c2.length with h | h
  ·obtain rfl:j=20:=by omega
   rfl
  ·rw[List.take_of_length_le h,List.take_of_length_le (by omega)]
 rw[hend2] at hr12
 have e12: ∀Qn:Exit->Act->World->Prop,(∀a8,Sl 217 a8 [(8,.pointer (some ⟨wp,0,none⟩)),(9,.slice s.d L.length s.c),(11,.slice f.d f.n f.c),(12,.slice t2.d t2.n t2.c),(74,.bool false)]->Qn .normal a8 w12)->(r_zx 13).wp Tryz.prog Qn a12 w12:=fun Qn hQn=>by
  by_cases h1:j<c2.length
  ·exact wpl (rg_wp (zx_r13_t (tn:=c2.length) (b73:=false) k12 rfl rfl (decide_eq_true (by omega)) (decide_eq_false (by omega)) fun a8 k8=>hQn a8 (k8.to ⟨rfl,rfl,rfl,rfl,rfl,trivial⟩)))
  ·exact wpl (rg_wp (zx_r13_f (tn:=c2.length) k12 rfl rfl (decide_eq_false (by omega)) fun a8 k8=>hQn a8 (k8.to ⟨rfl,rfl,rfl,rfl,rfl,trivial⟩)))
 refine wp_seq (wp_seq (e12 _ fun a13 k13=>wpc_exit (k13.look 74 rfl) ?_))
 refine then_exit' (then_exit' (in_block2 ?_))
 clear e12 hend2 hlt2 k12 k11 k10 k9 k8
 obtain⟨A,hAA⟩: ∃A,A=L++datL σ.X c2:=⟨_,rfl⟩
 rw[<-hAA] at hr12
 have hAok: ∀x,x∈A->x.ok:=fun x hx=>by
  rw[hAA] at hx
  rcases List.mem_append.1 hx with h | h
  ·exact hLok x h
  ·exact datL_ok hok c2 x h
 have hAl:A.length<=40:=by rw[hAA,List.length_append];have:=datL_len σ.X c2;omega
 obtain⟨RA,hRA⟩: ∃RA,RA=rootsX A:=⟨_,rfl⟩
 have hRAp:RA.Pairwise (· <= ·):=by rw[hRA];exact rootsX_le _
 have hsub: ∀r,r∈RL->r∈RA:=fun r hr=>by
  rw[hRL] at hr
  rw[hRA,hAA]
  unfold rootsX at hr ⊢
  rw[sortZ_mem] at hr ⊢
  rw[List.flatMap_append]
  exact List.mem_append_left _ hr
 have hW12:=hW2.old hb212
 have htn:t2.n=A.length:=hr12.1
 have q16:=xReached hW12 (hown.old hb012) hAok (by omega) (RowN.row hr12).1 t2.c
 rw[<-hT,<-hRA] at q16
 rw[htn] at k13
 have hF12:ZRow w12 w7.heap.size f (reachT T RL):=ARow.old hF8 hb12'
 have hr7':RowN u2.heap.size w12 s L:=ARow.old hr8 hb12'
 refine wp_seq (rg_wp (zx_r16 (un:=A.length) (C0:=fun q z=>ZRow z w12.heap.size q (reachT T RA)/\Below w12.heap.size w12 z) k13 rfl rfl hW12.lh q16 fun a14 m w14 hm k14=> ?_))
 obtain⟨hM14,hb14⟩:=hm
 have hb214:=bl_trans hb212 hb14
 have hW14:=hW2.old hb214
 have q17:=xThings hW14
 rw[<-hT] at q17
 refine wp_seq (rg_wp (zx_r17 (C0:=fun q z=>ZRow z w14.heap.size q (keysT T)/\Below w14.heap.size w14 z) k14 rfl hW14.lh q17 fun a15 q w15 hq k15=> ?_))
 obtain⟨hQ15,hb15⟩:=hq
 have hb215:=bl_trans hb214 hb15
 have hF15:ZRow w15 w7.heap.size f (reachT T RL):=ARow.old (ARow.old hF12 hb14) hb15
 have hM15:ZRow w15 w12.heap.size m (reachT T RA):=ARow.old hM14 hb15
 have hr15:RowN u2.heap.size w15 s L:=ARow.old (ARow.old hr7' hb14) hb15
 have hA15:RowN w8.heap.size w15 t2 A:=ARow.old (ARow.old hr12 hb14) hb15
 have hfl:=reach_len hK hRLp
 have hml:=reach_len hK hRAp
 have hkl:=hK.far
 have hfn:f.n=(reachT T RL).length:=hF15.1
 rw[hfn] at k15
 have hLO:=leads_ok T
 have k15:Sl 217 a15 [(8,.pointer (some ⟨wp,0,none⟩)),(9,.slice s.d L.length s.c),(11,.slice f.d (reachT T RL).length f.c),(12,.slice t2.d A.length t2.c),(14,.slice m.d m.n m.c),(15,.slice q.d q.n q.c)]:=k15.to ⟨rfl,rfl,rfl,rfl,rfl,rfl,trivial⟩
 have hz12:=hb12'.size
 have hz14:=hb14.size
 have hz15:=hb15.size
 refine wp_seq (wp_seq (rg_wp (zx_r18 k15 fun a16 k16=> ?_)))
 refine wp_block ?_
 refine wp_loop (fun a' wr=> ∃k:Nat,k<=(reachT T RL).length/\Sl 217 a' [(16,.int .i64 (k:Int)),(8,.pointer (some ⟨wp,0,none⟩)),(9,.slice s.d L.length s.c),(11,.slice f.d (reachT T RL).length f.c),(12,.slice t2.d A.length t2.c),(14,.slice m.d m.n m.c),(15,.slice q.d q.n q.c)]/\Below w15.heap.size w15 wr) (fun a' _=>muTo (reachT T RL).length (slot a' 16))
  ⟨0,Nat.zero_le _,k16.to ⟨rfl,rfl,rfl,rfl,rfl,rfl,rfl,trivial⟩,Below.refl _ _⟩ ?_
 rintro a17 w17 ⟨k,hk,k17,hb17⟩
 rw[k17.look 16 rfl,muTo_int]
 unfold zxL1
 by_cases hkl2:k<(reachT T RL).length
 ·refine wp_seq (wp_seq (rg_wp (zx_r19 (fn:=(reachT T RL).length) (b100:=true) k17 rfl rfl (decide_eq_true (by omega)) fun a18 k18=>wpn (k18.look 100 rfl) ?_)))
  obtain⟨x,hx⟩: ∃x,(reachT T RL)[k]? =some x:=⟨(reachT T RL)[k],List.getElem?_eq_getElem hkl2⟩
  have hxm:=List.mem_of_getElem? hx
  have hxK:=reach_in hLO hRLp hxm
  have hxp:=hK.pos x hxK
  have rd: ∀z,Below w15.heap.size w15 z->∃g,f.d=some ⟨g,0,none⟩/\z.cell? ⟨g,0+k*1,none⟩=some (.int .i64 x):=fun z hz=>by
   obtain⟨g,h1,_,h3⟩:=ZRow.get (ARow.old hF15 hz) hx
   exact⟨g,h1,h3⟩
  obtain⟨g,hfd,hc17⟩:=rd w17 hb17
  have rd: ∀z,Below w15.heap.size w15 z->z.cell? ⟨g,0+k*1,none⟩=some (.int .i64 x):=fun z hz=>by
   obtain⟨g',h1,h2⟩:=rd z hz
   rw[hfd] at h1
   injection h1 with h1
   injection h1 with h1 _
   subst h1
   exact h2
  rw[hfd] at k18
  refine wp_seq (wp_block ?_)
  have w21:=withinZ (ARow.old hM15 hb17) (by omega) x
  rw[decide_eq_true (show x∈reachT T RA from reach_more hLO hRLp hRAp hsub hxm)] at w21
  refine wp_seq (rg_wp (zx_r21 (n:=x) (b:=true) (C0:=fun z=>Below w17.heap.size w17 z) k18 rfl rfl rfl (fun w=>ix_int hkl2 w) (lds1 Tryz.underlying3 rfl hc17) w21 fun a19 w19 hb19 k19=> ?_))
  have hb19:=bl_trans hb17 hb19
  have w22:=withinZ (ARow.old hQ15 hb19) (by omega) x
  rw[decide_eq_true hxK] at w22
  refine wp_seq (rg_wp (zx_r22 (n:=x) (b:=true) (C0:=fun z=>Below w19.heap.size w19 z) k19 rfl rfl rfl (fun w=>ix_int hkl2 w) (lds1 Tryz.underlying3 rfl (rd _ hb19)) w22 fun a20 w20 hb20 k20=> ?_))
  have hb20:=bl_trans hb19 hb20
  have k20:Sl 217 a20 [(16,.int .i64 (k:Int)),(8,.pointer (some ⟨wp,0,none⟩)),(9,.slice s.d L.length s.c),(11,.slice (some ⟨g,0,none⟩) (reachT T RL).length f.c),(12,.slice t2.d A.length t2.c),(14,.slice m.d m.n m.c),(15,.slice q.d q.n q.c),(17,.bool true),(18,.bool true)]:=k20.to ⟨rfl,rfl,rfl,rfl,rfl,rfl,rfl,rfl,rfl,trivial⟩
  have r23: ∀Qn:Exit->Act->World->Prop,(∀a21 md,Sl 217 a21 [(16,.int .i64 (k:Int)),(8,.pointer (some ⟨wp,0,none⟩)),(9,.slice s.d L.length s.c),(11,.slice (some ⟨g,0,none⟩) (reachT T RL).length f.c),(12,.slice t2.d A.length t2.c),(14,.slice m.d m.n m.c),(15,.slice q.d q.n q.c),(136,.bool false)]->Qn .normal a21 (w20.drewN md))->(r_zx 23).wp Tryz.prog Qn a20 w20:=fun Qn hQn=>by
   by_cases hk0:0<k
   ·obtain⟨y,hy⟩: ∃y,(reachT T RL)[k-1]? =some y:=⟨(reachT T RL)[k-1]'(by omega),List.getElem?_eq_getElem _⟩
    obtain⟨g',h1,_,h3⟩:=ZRow.get (ARow.old hF15 hb20) hy
    rw[hfd] at h1
    injection h1 with h1
    injection h1 with h1 _
    subst h1
    have hlt:y<x:=by
     obtain⟨p1,e1⟩:=List.getElem?_eq_some_iff.1 hy
     obtain⟨p2,e2⟩:=List.getElem?_eq_some_iff.1 hx
     have:=List.pairwise_iff_getElem.1 (reach_lt hLO hRLp) (k-1) k p1 p2 (by omega)
     rw[<-e1,<-e2]
     exact this
    exact wpl (rg_wp (zx_r23_ttt (x1:=x) (x2:=y) (b134:=false) k20 rfl rfl rfl rfl (decide_eq_true (by omega)) (fun w=>ix_int hkl2 w) (lds1 Tryz.underlying3 rfl (rd _ hb20)) (by omega) (fun w=>by rw[show((k:Int)-1)=((k-1:Nat):Int) by omega];exact ix_int (by omega) w) (lds1 Tryz.underlying3 rfl h3) (decide_eq_false (by omega)) fun a21 md k21=>hQn a21 md (k21.to ⟨rfl,rfl,rfl,rfl,rfl,rfl,rfl,rfl,trivial⟩)))
   ·exact wpl (rg_wp (zx_r23_ttf k20 rfl rfl rfl (decide_eq_false (by omega)) fun a21 md k21=>hQn a21 md (k21.to ⟨rfl,rfl,rfl,rfl,rfl,rfl,rfl,rfl,trivial⟩)))
  refine wp_seq (wp_seq (r23 _ fun a21 md k21=>wpc_off (k21.look 136 rfl) ?_))
  have hb21:Below w15.heap.size w15 (w20.drewN md):=bl_trans hb20 (below_drewN (Below.refl _ _) _)
  show Code.wp _ _ _ a21 (w20.drewN md)
  generalize w20.drewN md=w21' at hb21 ⊢
  have hb221:=bl_trans hb215 hb21
  obtain⟨C,hC⟩: ∃C:World->Prop,C=fun z=>Below w21'.heap.size w21' z:=⟨_,rfl⟩
  have hCd:C (w21'.drewN 1):=by rw[hC];exact below_drewN (Below.refl _ _) 1
  have hCi: ∀z,C z->Below w21'.heap.size w21' z:=fun z hz=>by rw[hC] at hz;exact hz
  have hd21:=hCi _ hCd
  have ql:=xLeads (hW2.old (bl_trans hb221 hd21)) (hown.old (bl_trans hb2 (bl_trans hb221 hd21))) (n:=x) (by omega)
  rw[<-hT] at ql
  refine wp_seq (rg_wp (zx_r25 (C:=C) (n:=x) (gh:=gh) (C0:=fun y z=>ZRow z w21'.heap.size y (leadsI T x)/\Below w21'.heap.size w21' z) k21 rfl rfl rfl hCd (fun z hz=>(hW2.old (bl_trans hb221 (hCi z hz))).lh) (fun w=>ix_int hkl2 w) (fun z hz=>lds1 Tryz.underlying3 rfl (rd z (bl_trans hb21 (hCi z hz)))) (ql.mono fun e w' ⟨y,p1,p2,p3⟩=>⟨y,p1,ZRow.low p2 hd21.size,bl_trans hd21 p3⟩) fun a22 y w22 hy k22=> ?_))
  obtain⟨hY,hb22⟩:=hy
  have hb22':=bl_trans hb21 hb22
  have hyl:(leadsI T x).length<=10000:=lead_len (by rw[hT];exact hok.tok)
  have hyn:y.n=(leadsI T x).length:=hY.1
  rw[hyn] at k22
  refine wp_seq (rg_wp (zx_r26 k22 fun a23 k23=> ?_))
  refine wp_block ?_
  refine wp_loop (fun a' wr=> ∃e:Nat,e<=(leadsI T x).length/\Sl 217 a' [(20,.int .i64 (e:Int)),(19,.slice y.d (leadsI T x).length y.c),(16,.int .i64 (k:Int)),(8,.pointer (some ⟨wp,0,none⟩)),(9,.slice s.d L.length s.c),(11,.slice (some ⟨g,0,none⟩) (reachT T RL).length f.c),(12,.slice t2.d A.length t2.c),(14,.slice m.d m.n m.c),(15,.slice q.d q.n q.c)]/\Below w22.heap.size w22 wr) (fun a' _=>muTo (leadsI T x).length (slot a' 20))
   ⟨0,Nat.zero_le _,k23.to ⟨rfl,rfl,rfl,rfl,rfl,rfl,rfl,rfl,rfl,trivial⟩,Below.refl _ _⟩ ?_
  rintro a24 w24 ⟨e,he,k24,hb24⟩
  rw[k24.look 20 rfl,muTo_int]
  unfold zxL0
  have hb24':=bl_trans hb22' hb24
  by_cases hel:e<(leadsI T x).length
  ·refine wp_seq (wp_seq (rg_wp (zx_r27 (vn:=(leadsI T x).length) (b149:=true) k24 rfl rfl (decide_eq_true (by omega)) fun a25 k25=>wpn (k25.look 149 rfl) ?_)))
   obtain⟨v,hv⟩: ∃v,(leadsI T x)[e]? =some v:=⟨(leadsI T x)[e],List.getElem?_eq_getElem hel⟩
   obtain⟨gy,hyd,_,hcy⟩:=ZRow.get (ARow.old hY hb24) hv
   have hvm:=List.mem_of_getElem? hv
   rw[hyd] at k25
   refine wp_seq (wp_block ?_)
   have hFz:=ARow.old hF15 hb24'
   have w29:=withinZ hFz (by omega) v
   rw[hfd,hfn] at w29
   refine wp_seq (rg_wp (zx_r29 (fd:=some ⟨g,0,none⟩) (n:=v) (b:=decide (v∈reachT T RL)) (C0:=fun z=>Below w24.heap.size w24 z) k25 rfl rfl rfl (fun w=>ix_int hel w) (lds1 Tryz.underlying3 rfl hcy) w29 fun a26 w26 hb26 k26=> ?_))
   obtain⟨gy',hyd',_,hcy'⟩:=ZRow.get (ARow.old (ARow.old hY hb24) hb26) hv
   rw[hyd] at hyd'
   injection hyd' with hyd'
   injection hyd' with hyd' _
   subst hyd'
   have w30:=withinZ (ARow.old (ARow.old hQ15 hb24') hb26) (by omega) v
   refine wp_seq (rg_wp (zx_r30 (n:=v) (b:=decide (v∈keysT T)) (C0:=fun z=>Below w26.heap.size w26 z) k26 rfl rfl rfl (fun w=>ix_int hel w) (lds1 Tryz.underlying3 rfl hcy') w30 fun a27 w27 hb27 k27=> ?_))
   have hb27':=bl_trans hb24 (bl_trans hb26 hb27)
   have r31: ∀Qn:Exit->Act->World->Prop,(∀a28,Sl 217 a28 [(20,.int .i64 (e:Int)),(19,.slice (some ⟨gy,0,none⟩) (leadsI T x).length y.c),(16,.int .i64 (k:Int)),(8,.pointer (some ⟨wp,0,none⟩)),(9,.slice s.d L.length s.c),(11,.slice (some ⟨g,0,none⟩) (reachT T RL).length f.c),(12,.slice t2.d A.length t2.c),(14,.slice m.d m.n m.c),(15,.slice q.d q.n q.c),(168,.bool false)]->Qn .normal a28 w27)->(r_zx 31).wp Tryz.prog Qn a27 w27:=fun Qn hQn=>by
    by_cases hvr:v∈reachT T RL
    ·rw[decide_eq_true hvr] at k27
     exact wpl (rg_wp (zx_r31_t k27 rfl fun a28 k28=>hQn a28 (k28.to ⟨rfl,rfl,rfl,rfl,rfl,rfl,rfl,rfl,rfl,rfl,trivial⟩)))
    ·have hvk:v∉keysT T:=fun hc=>hvr (show v∈reachT T RL from reach_closed hLO hRLp hxm hvm hc)
     rw[decide_eq_false hvr,decide_eq_false hvk] at k27
     exact wpl (rg_wp (zx_r31_f k27 rfl rfl fun a28 k28=>hQn a28 (k28.to ⟨rfl,rfl,rfl,rfl,rfl,rfl,rfl,rfl,rfl,rfl,trivial⟩)))
   refine wp_seq (r31 _ fun a28 k28=>wpc_off (k28.look 168 rfl) (block_norm ?_))
   show Code.wp _ (r_zx 28) _ a28 w27
   refine wpl (rg_wp (zx_r28 k28 rfl (by omega) fun a29 k29=>⟨⟨e+1,hel, ?_,hb27'⟩, ?_⟩))
   ·rw[hyd]
    exact k29.to ⟨rfl,rfl,rfl,rfl,rfl,rfl,rfl,rfl,rfl,trivial⟩
   ·rw[k29.look 20 rfl]
    show muTo (leadsI T x).length (.int .i64 ((e+1:Nat):Int))<_
    rw[muTo_int]
    omega
  ·refine wp_seq (wp_seq (rg_wp (zx_r27 (vn:=(leadsI T x).length) (b149:=false) k24 rfl rfl (decide_eq_false (by omega)) fun a25 k25=>wpc_exit (k25.look 149 rfl) ?_)))
   refine then_exit' (then_exit' (in_block2 (block_norm ?_)))
   show Code.wp _ (r_zx 20) _ a25 w24
   refine wpl (rg_wp (zx_r20 k25 rfl (by omega) fun a26 k26=>⟨⟨k+1,hkl2, ?_,hb24'⟩, ?_⟩))
   ·rw[hfd]
    exact k26.to ⟨rfl,rfl,rfl,rfl,rfl,rfl,rfl,trivial⟩
   ·rw[k26.look 16 rfl]
    show muTo (reachT T RL).length (.int .i64 ((k+1:Nat):Int))<_
    rw[muTo_int]
    omega
 refine wp_seq (wp_seq (rg_wp (zx_r19 (fn:=(reachT T RL).length) (b100:=false) k17 rfl rfl (decide_eq_false (by omega)) fun a18 k18=>wpc_exit (k18.look 100 rfl) ?_)))
 refine then_exit' (then_exit' (in_block2 ?_))
 have hb217:=bl_trans hb215 hb17
 have hb017:=bl_trans hb2 hb217
 have hW17:=hW2.old hb217
 have hA17:=ARow.old hA15 hb17
 have qs:=xSweep hW17 (hown.old hb017) hAok (by omega) (RowN.row hA17).1 t2.c
 rw[<-hRA,<-hT] at qs
 refine wp_seq (rg_wp (zx_r33 (un:=A.length) (n:=((goneI T RA (keysT T).length:Nat):Int)) (C0:=fun z=>(∃O',Wd B z wp gh O' {σ with T:=sweptT T RA} sd sk)/\Moved O w17 z/\Below B w17 z) k18 rfl rfl hW17.lh (qs.mono fun e w' ⟨p1,⟨O',p2,_⟩,p3,p4⟩=>⟨p1,⟨O',p2⟩,p3,p4⟩) fun a19 w19 hs k19=> ?_))
 obtain⟨⟨O9,hW19⟩,hM19,hB19⟩:=hs
 have hz17:=hb17.size
 have kp: ∀{Bq:Nat} {tt:TypeId} {sz n:Nat} {s':S3} {vs:List Value},ARow w17 Bq tt sz s' n vs->u2.heap.size<=Bq->ARow w19 Bq tt sz s' n vs:=fun h hq=>ARow.keep h fun g hg=>hM19.block g (ARow.block h hg).2 fun e=>by have:=hlimO g e;have:=(ARow.block h hg).1;omega
 have hF19:ZRow w19 w7.heap.size f (reachT T RL):=kp (ARow.old hF15 hb17) (by omega)
 have hM19':ZRow w19 w12.heap.size m (reachT T RA):=kp (ARow.old hM15 hb17) (by omega)
 have hr19:RowN u2.heap.size w19 s L:=kp (ARow.old hr15 hb17) (Nat.le_refl _)
 have hA19:RowN w8.heap.size w19 t2 A:=kp hA17 (by omega)
 have hwB:w.heap.size<=B:=by omega
 have hb019:Below w.heap.size w w19:=hb017.trans (hB19.mono hwB)
 have q34:=xThings hW19
 change Calls _ _ _ _ (fun e w'=> ∃q:S3,e=.returned (.slice q.d q.n q.c)/\(ZRow w' w19.heap.size q (keysT (sweptT T RA))/\Below w19.heap.size w19 w')) at q34
 rw[swept_keys hK hRAp] at q34
 refine wp_seq (rg_wp (zx_r34 (C0:=fun y z=>ZRow z w19.heap.size y (reachT T RA)/\Below w19.heap.size w19 z) k19 rfl hW19.lh q34 fun a20 y1 w20 hy1 k20=> ?_))
 obtain⟨hY1,hb20⟩:=hy1
 have hb020:=bl_trans hb019 hb20
 have hW20:=hW19.old hb20
 have hA20:=ARow.old hA19 hb20
 have q35:=xReached hW20 (hown.old hb020) hAok (by omega) (RowN.row hA20).1 t2.c
 rw[<-hRA] at q35
 change Calls _ _ _ _ (fun e w'=> ∃q:S3,e=.returned (.slice q.d q.n q.c)/\(ZRow w' w20.heap.size q (reachT (sweptT T RA) RA)/\Below w20.heap.size w20 w')) at q35
 rw[swept_reach hK hRAp hRAp fun r h=>h] at q35
 refine wp_seq (rg_wp (zx_r35 (un:=A.length) (C0:=fun y z=>ZRow z w20.heap.size y (reachT T RA)/\Below w20.heap.size w20 z) k20 rfl rfl hW20.lh q35 fun a21 y2 w21 hy2 k21=> ?_))
 obtain⟨hY2,hb21⟩:=hy2
 have q36:=alikeZ (ARow.old hY1 hb21) (ARow.old (ARow.old hM19' hb20) hb21) (by omega)
 rw[decide_eq_true rfl] at q36
 refine wp_seq (rg_wp (zx_r36 (b:=true) (C0:=fun z=>Below w21.heap.size w21 z) k21 rfl rfl q36 fun a22 w22 hb22 k22=> ?_))
 have q37:=alikeZ (ARow.old hY2 hb22) (ARow.old (ARow.old (ARow.old hM19' hb20) hb21) hb22) (by omega)
 rw[decide_eq_true rfl] at q37
 refine wp_seq (rg_wp (zx_r37 (b:=true) (C0:=fun z=>Below w22.heap.size w22 z) k22 rfl rfl q37 fun a23 w23 hb23 k23=> ?_))
 have hb23':Below w19.heap.size w19 w23:=bl_trans hb20 (bl_trans hb21 (bl_trans hb22 hb23))
 have hb023:=bl_trans hb019 hb23'
 have hW23:=hW19.old hb23'
 have hr23:=ARow.old hr19 hb23'
 have q38:=xReached hW23 (hown.old hb023) hLok (by omega) (RowN.row hr23).1 s.c
 rw[<-hRL] at q38
 change Calls _ _ _ _ (fun e w'=> ∃q:S3,e=.returned (.slice q.d q.n q.c)/\(ZRow w' w23.heap.size q (reachT (sweptT T RA) RL)/\Below w23.heap.size w23 w')) at q38
 rw[swept_reach hK hRAp hRLp hsub] at q38
 refine wp_seq (rg_wp (zx_r38 (ln:=L.length) (C0:=fun y z=>ZRow z w23.heap.size y (reachT T RL)/\Below w23.heap.size w23 z) k23 rfl rfl hW23.lh q38 fun a24 y3 w24 hy3 k24=> ?_))
 obtain⟨hY3,hb24⟩:=hy3
 have q39:=alikeZ hY3 (ARow.old (ARow.old hF19 hb23') hb24) (by omega)
 rw[decide_eq_true rfl,hfn] at q39
 refine wp_seq (rg_wp (zx_r39 (fn:=(reachT T RL).length) (b:=true) (C0:=fun z=>Below w24.heap.size w24 z) k24 rfl rfl q39 fun a25 w25 hb25 k25=> ?_))
 have hgn:=gone_n hK hRAp
 have hmn:m.n=(reachT T RA).length:=hM15.1
 have hqn:q.n=(keysT T).length:=hQ15.1
 refine wp_seq (rg_wp (zx_r40_ttt (n23:=((goneI T RA (keysT T).length:Nat):Int)) (b29:=true) k25 rfl rfl rfl rfl rfl rfl (by omega) (decide_eq_true (by rw[hmn,hqn];omega)) fun a26 k26=>wp_ret ?_))
 exact ret1 rfl k26 rfl ⟨rfl,bl_trans hb023 (bl_trans hb24 hb25)⟩
end Go.Proofs.YtbjegfpfmnleeaaGreatDoor

namespace Go.Proofs.YtbjegfpfmnleeaaGreatDoor
open Go.RowKit Go.ChangeShapes Go.WideShapes Go.ChangeAt
set_option maxRecDepth 100000
abbrev laid4:List (String×DataW Unit):=[("math/bits.deBruijn32tab",Rows.laid_math_bits_deBruijn32tab),("math/bits.deBruijn64tab",Rows.laid_math_bits_deBruijn64tab),("internal/strconv.uint64pow10",Rows.laid_internal_strconv_uint64pow10),("guise/value.own",Rows.laid_guise_value_own)]
theorem own_of_laid4{W:World}(h:laidMetH Tryz.prog laid4 W):OwnAt W:=by
 rw[MakeChecks.laidMetH_plain _ _ _ (by kernel_rfl)] at h
 obtain⟨ps,⟨g1,t1,cs1,f1,p1,q1,hg1,ht1,hv1,hd1,⟨g2,t2,cs2,f2,p2,q2,hg2,ht2,hv2,hd2,⟨g3,t3,cs3,f3,p3,q3,hg3,ht3,hv3,hd3,⟨g0,t0,cs0,f0,p0,q0,hg0,ht0,hv0,hd0,_,_⟩,_⟩,_⟩,_⟩,_,_⟩:=h
 obtain rfl:=Option.some.inj ((show Tryz.prog.globalNamed "guise/value.own"=some 0 by kernel_rfl).symm.trans hg0)
 obtain rfl:=Option.some.inj ((show(Tryz.prog.globals[0]?).map (·.type)=some 186 by kernel_rfl).symm.trans ht0)
 obtain⟨xs,m,rfl,hx,hlen,hn,hel⟩:=DataW.trod_array Tryz.underlying186 hd0
 rw[show Tryz.prog.cellsOf 186=8 by kernel_rfl] at hlen
 rw[cellsS] at hel
 have hx1:Rows.laid_guise_value_own=.agg (xs.map (·.1)):=(Prod.mk.inj hx).1
 have key: ∀(j:Nat) (s:ByteArray),j<8->ownL[j]? =some s->W.cell? ⟨0,j,none⟩=some (.string s):=by
  intro j s hj hs
  have hc:=World.var?_cell hg0 hv0 j
  have he:=hel j hj
  rw[Nat.mul_one] at he
  have hcl:cs0[j]? =some (cs0.toList[j]'(by omega)):=by
   rw[<-Array.getElem?_toList,List.getElem?_eq_getElem (by omega)]
  have hdt:(cs0.toList.drop j).take 1=[cs0.toList[j]'(by omega)]:=by
   rw[List.drop_eq_getElem_cons (by omega)];rfl
  rw[hdt,List.getElem?_eq_getElem (by omega)] at he
  obtain⟨s',e1,e2,_⟩:=DataW.trod_string Tryz.underlying9 he
  rw[hc,hcl]
  simp only[List.cons.injEq,and_true] at e1
  rw[e1]
  have hdat:(xs.map (·.1))[j]? =some (.lit (.string s'.data.toList)):=by
   rw[List.getElem?_map,List.getElem?_eq_getElem (by omega),e2];rfl
  have hl:(xs.map (·.1))[j]? =some (.lit (.string s.data.toList)):=by
   unfold Rows.laid_guise_value_own at hx1
   injection hx1 with hx1
   rw[<-hx1]
   have:j=0\/j=1\/j=2\/j=3\/j=4\/j=5\/j=6\/j=7:=by omega
   rcases this with rfl | rfl | rfl | rfl | rfl | rfl | rfl | rfl<;>
    (simp only[ownL,List.getElem?_cons_zero,List.getElem?_cons_succ,Option.some.injEq] at hs;subst hs;rfl)
  rw[hdat] at hl
  injection hl with hl
  injection hl with hl
  injection hl with hl
  have hss:s'.data=s.data:=by
   obtain⟨⟨a⟩⟩:=s'
   obtain⟨⟨b⟩⟩:=s
   simpa using hl
  have:s'=s:=by
   obtain⟨a⟩:=s'
   obtain⟨b⟩:=s
   simpa using hss
  rw[this]
 intro j s hs
 have hj:j<8:=(List.getElem?_eq_some_iff.1 hs).1
 exact key j s hj hs
theorem own_pos{W:World}(h:OwnAt W):0<W.heap.size:=cell_lt (h 0 _ rfl)
theorem door_met4(os:Os)(args:Array Value):laidMetH Tryz.prog laid4 ((World.doorLaid Tryz.prog 400 os).forCall (fun _ _=>0) ⟨#[],args,[]⟩).memory:=
 laidMetH_of_parts3 (fuel:=8) (laidMet_of_run' 8 (by kernel_rfl) (by kernel_rfl)) (by kernel_rfl) (by kernel_rfl)
section
variable {H:Type} {enc:TypeId×Value->H} {w:World}
theorem cellsA4:Tryz.prog.cellsOf 59=4:=by kernel_rfl
theorem act4_of{fuel:Nat}{cs:List Value}{x:DataW H×List MemPlace}(h:DataW.trod enc Tryz.prog w 0 (fun _=>true) true fuel 59 cs=some x): ∃a b c d:Int,cs=[.int .i64 a,.int .i64 b,.int .i64 c,.int .i64 d]/\okInt a/\okInt b/\okInt c/\okInt d:=by
 obtain⟨xs,n,rfl,rfl,hl,hlen,hg⟩:=DataW.trod_struct Tryz.underlying59 h
 rw[cellsA4] at hl
 match cs,hl with
 | [c0,c1,c2,c3],_=>
 match xs,hlen with
 | [x0,x1,x2,x3],_=>
 have g0:DataW.trod enc Tryz.prog w 0 (fun _=>true) true n 3 (List.take (Tryz.prog.cellsOf 3) [c0,c1,c2,c3])=some x0:=hg 0 _ rfl
 have g1:DataW.trod enc Tryz.prog w 0 (fun _=>true) true n 3 (List.take (Tryz.prog.cellsOf 3) [c1,c2,c3])=some x1:=hg 1 _ rfl
 have g2:DataW.trod enc Tryz.prog w 0 (fun _=>true) true n 3 (List.take (Tryz.prog.cellsOf 3) [c2,c3])=some x2:=hg 2 _ rfl
 have g3:DataW.trod enc Tryz.prog w 0 (fun _=>true) true n 3 (List.take (Tryz.prog.cellsOf 3) [c3])=some x3:=hg 3 _ rfl
 rw[cellsI] at g0 g1 g2 g3
 simp only[List.take] at g0 g1 g2 g3
 obtain⟨a,e0,_,w0⟩:=DataW.trod_int Tryz.underlying3 g0
 obtain⟨b,e1,_,w1⟩:=DataW.trod_int Tryz.underlying3 g1
 obtain⟨c,e2,_,w2⟩:=DataW.trod_int Tryz.underlying3 g2
 obtain⟨d,e3,_,w3⟩:=DataW.trod_int Tryz.underlying3 g3
 simp only[List.cons.injEq,and_true] at e0 e1 e2 e3
 exact⟨a,b,c,d,by rw[e0,e1,e2,e3],okInt_wf w0,okInt_wf w1,okInt_wf w2,okInt_wf w3⟩
theorem acts4_of{n:Nat}: ∀(els:List (DataW H×List MemPlace)) (b o:Nat),(∀i,i<els.length->(w.cells? 0 ⟨b,o+i*4,none⟩ 4).bind (DataW.trod enc Tryz.prog w 0 (fun _=>true) true n 59)=els[i]?)->
  ∃xs:List I4,xs.length=els.length/\∀(j:Nat) (x:I4),xs[j]? =some x->w.cell? ⟨b,o+j*4,none⟩=some (.int .i64 x.1)/\w.cell? ⟨b,o+j*4+1,none⟩=some (.int .i64 x.2.1)/\w.cell? ⟨b,o+j*4+2,none⟩=some (.int .i64 x.2.2.1)/\w.cell? ⟨b,o+j*4+3,none⟩=some (.int .i64 x.2.2.2)/\okInt x.1/\okInt x.2.1/\okInt x.2.2.1/\okInt x.2.2.2
 | [],_,_,_=>⟨[],rfl,fun j x h=>by simp at h⟩
 | y::els,b,o,hg=>by
  obtain⟨r,r1,r2⟩:=acts4_of els b (o+4) (fun i hi=>by
   have:=hg (i+1) (by simpa using hi)
   rw[show o+4+i*4=o+(i+1)*4 by omega]
   simpa using this)
  have h0:=hg 0 (by simp)
  simp only[Nat.zero_mul,Nat.add_zero,List.getElem?_cons_zero] at h0
  obtain⟨cs,hc,ht⟩:=Option.bind_eq_some_iff.1 h0
  obtain⟨p,q,s,v,rfl,o1,o2,o3,o4⟩:=act4_of ht
  have hcell:=cells_at hc
  refine⟨(p,q,s,v)::r,by simp[r1],fun j x hx=> ?_⟩
  cases j with
  | zero=>
   simp only[List.getElem?_cons_zero,Option.some.injEq] at hx
   subst hx
   have z0:=hcell 0 _ rfl
   have z1:=hcell 1 _ rfl
   have z2:=hcell 2 _ rfl
   have z3:=hcell 3 _ rfl
   simp only[Nat.zero_mul,Nat.add_zero] at z0 ⊢
   exact⟨z0,z1,z2,z3,o1,o2,o3,o4⟩
  | succ j=>
   have:=r2 j x (by simpa using hx)
   rw[show o+4+j*4=o+(j+1)*4 by omega] at this
   exact this
end
theorem acts4_arg{H:Type}{enc:TypeId×Value->H}{W:World}{base:Nat}{v:Value}{d:DataW H}{p:List MemPlace}(hv:Value.okWide Tryz.prog W .any base 22 v)
  (h:DataW.Trod enc Tryz.prog W 0 (fun _=>true) true 22 v d p):
  ∃(l:List I4) (pa:Option Addr) (pc:Nat),v=.slice pa l.length pc/\Acts4 W pa l:=by
 obtain⟨a,len,cap,rfl⟩:=okWide_slice Tryz.underlying22 hv
 obtain⟨fuel,hf⟩:=h
 rcases DataW.trod_slice Tryz.underlying22 hf with⟨e6,_⟩ | ⟨a',il,ic,elems,rest,n',en,e6,_,_,hle,hm,hel,hget,_,_⟩
 ·simp[Value.cells] at e6
  obtain⟨rfl,rfl,rfl⟩:=e6
  exact⟨[],none,0,rfl,fun j x h=>by simp at h⟩
 ·simp[Value.cells] at e6
  obtain⟨rfl,rfl,rfl⟩:=e6
  rcases Nat.eq_zero_or_pos len with h0 | h0
  ·exact⟨[],some a',cap,by rw[h0];rfl,fun j x h=>by simp at h⟩
  ·have hg0:=hget 0 h0
   rw[List.getElem?_eq_getElem (by omega),cellsA4] at hg0
   obtain⟨cs0,hc0,_⟩:=Option.bind_eq_some_iff.1 hg0
   obtain⟨b,o,ea⟩:=cells_spot hc0 (by decide)
   have ea':a'=⟨b,o,none⟩:=by
    simp only[Nat.zero_mul] at ea
    simpa[Addr.add] using ea
   subst ea'
   obtain⟨xs,r1,r2⟩:=acts4_of (n:=n') elems b o (fun i hi=>by
    have:=hget i (by omega)
    rw[cellsA4,add_at] at this
    exact this)
   have hxl:xs.length=len:=by omega
   refine⟨xs,some ⟨b,o,none⟩,cap,by rw[hxl],fun j x hx=> ?_⟩
   obtain⟨z0,z1,z2,z3,z4⟩:=r2 j x hx
   exact⟨b,o,rfl,cell_lt z0,z0,z1,z2,z3,z4⟩
theorem ints_in{W:World}{pa:Option Addr}{l:List Int}(h:PathAt W (fun _=>True) pa l)(hn: ∀(j:Nat) (x:Int),l[j]? =some x->okInt x):IntsIn W pa l:=
 ⟨h.keep (fun _ _ _=>rfl) (fun _ _ h=>h),fun x hx=>by
  obtain⟨j,hj⟩:=List.mem_iff_getElem?.1 hx
  exact hn j x hj⟩
end Go.Proofs.YtbjegfpfmnleeaaGreatDoor
