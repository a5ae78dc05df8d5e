/-
   Written by an AI agent.
-/
import Derived.Test.YtbjegfpfmnleeaaGreatDoorQw31
namespace Go.Proofs.YtbjegfpfmnleeaaGreatDoor
open Go.RowKit Go.Maps
set_option maxRecDepth 100000
def HR(u0:Nat)(B:Nat)(w v:World)(gh:Nat)(O:Nat->Prop)(n:Nat)(T':Tm):Prop:= ∃O',HS B v gh O' n T'/\Moved O w v/\(∀b,O b->O' b)/\(∀b,O' b->O b\/u0<=b)
theorem HR.of{B:Nat}{w u v:World}{gh:Nat}{O:Nat->Prop}{n:Nat}{T':Tm}(hb:Below w.heap.size w u)(h:HQ B u v gh O n T'):HR u.heap.size B w v gh O n T':=by
 obtain⟨O',h1,h2,h3,h4⟩:=h
 exact⟨O',h1,(Moved.of_below hb).trans (h2.more fun _ h=>.inl h),h3,h4⟩
theorem HR.set{u0 B:Nat}{w v:World}{gh:Nat}{O:Nat->Prop}{n:Nat}{T':Tm}(h:HR u0 B w v gh O n T'){g:Nat}(hg:w.heap.size<=g)(hg2:g<u0)(hl: ∀b,O b->b<w.heap.size)(o:Nat)(vs:List Value):HR u0 B w (v.setCells g o vs) gh O n T':=by
 obtain⟨O',h1,h2,h3,h4⟩:=h
 refine⟨O',h1.keep (by rw[setCells_size'];exact Nat.le_refl _) fun x hx=>setCells_other _ _ _ fun e=> ?_,h2.set (.inr hg) _ _,h3,h4⟩
 subst e
 rcases h4 _ hx with q | q
 ·have:=hl _ q
  omega
 ·omega
theorem HR.hq{u0 B:Nat}{w v:World}{gh:Nat}{O:Nat->Prop}{n:Nat}{T':Tm}(h:HR u0 B w v gh O n T')(hu:w.heap.size<=u0):HQ B w v gh O n T':=by
 obtain⟨O',h1,h2,h3,h4⟩:=h
 exact⟨O',h1,h2,h3,fun b hb=>(h4 b hb).imp_right fun q=>by omega⟩
theorem HR.old{u0 B:Nat}{w v v2:World}{gh:Nat}{O:Nat->Prop}{n:Nat}{T':Tm}(h:HR u0 B w v gh O n T')(hb:Below v.heap.size v v2):HR u0 B w v2 gh O n T':=by
 obtain⟨O',h1,h2,h3,h4⟩:=h
 exact⟨O',h1.old hb,h2.trans ((Moved.of_below hb).more fun b hb=>.inl hb),h3,h4⟩
theorem HR.then{u0 B:Nat}{w v v3:World}{gh:Nat}{O O1:Nat->Prop}{n:Nat}{T':Tm}(hM:Moved O w v)(o1: ∀b,O b->O1 b)(o2: ∀b,O1 b->O b\/u0<=b)(hu:u0<=v.heap.size)(hw:w.heap.size<=u0)(k:HQ B v v3 gh O1 n T'):HR u0 B w v3 gh O n T':=by
 obtain⟨O2,k1,k2,k3,k4⟩:=k
 exact⟨O2,k1,hM.trans (k2.more fun b hb=>(o2 b hb).imp_right fun q=>by omega),fun b hb=>k3 b (o1 b hb),fun b hb=>(k4 b hb).elim (o2 b) fun q=>.inr (by omega)⟩
def boxS(Ks:List Int)(a:Int):List Nat:=if 0<numS Ks a 4 then[numS Ks a 4] else[]
def makeS(σ:St)(k a b c:Int):Nat×Tm×Fd:=
 if k=1 then(σ.last+1,σ.T++[(σ.last+1,.obj (datS σ.X a) (datS σ.X b))],.ref 1 (σ.last+1))
 else if k=2 then(σ.last+1,σ.T++[(σ.last+1,.arr (datS σ.X a) (datS σ.X b))],.ref 2 (σ.last+1))
 else if k=3 then(σ.last+1,layT (σ.T++[(σ.last+1,.tab [])]) (.ref 3 (σ.last+1)) (datS σ.X b) (datS σ.X a),.ref 3 (σ.last+1))
 else if k=4 then(σ.last+1,σ.T++[(σ.last+1,.box (datS σ.X a))],.num ((σ.last+1:Nat):Int))
 else if k=5 then(if allBox σ.T (boxS σ.Ks a) then(σ.last+1,σ.T++[(σ.last+1,.fn (pickN c 9) (zBx (boxS σ.Ks a)) (datS σ.X b))],.ref 5 (σ.last+1)) else(σ.last,σ.T,.nil))
 else(σ.last,σ.T,.nil)
abbrev actT:TypeId:=59
abbrev actC(k a b c:Int):Array Value:=#[.int .i64 k,.int .i64 a,.int .i64 b,.int .i64 c]
section
variable {B:Nat} {w:World} {wp gh:Nat} {O:Nat->Prop} {σ:St} {sd sk:S3}
set_option maxHeartbeats 4000000 in
theorem make1_any(h:Wd B w wp gh O σ sd sk)(hown:OwnAt w)(hB0:0<B)(hE: ∀o E,tget σ.T o=some (.tab E)->E.length<=100){k a b c:Int}(ha:okInt a)(hb:okInt b)(hc:okInt c):
    Calls Tryz.prog 43 #[.pointer (some ⟨wp,0,none⟩),.agg (actC k a b c)] w fun e w'=>e=.returned (.agg ((makeS σ k a b c).2.2.dt.cs dm0))/\HQ B w w' gh O (makeS σ k a b c).1 (makeS σ k a b c).2.1:=by
  refine calls_ev (vs:=[.pointer (some ⟨wp,0,none⟩),.agg (actC k a b c)]) 115 Tryz.func43 zm_body (by kernel_rfl) (by simp) fun a0 h0=> ?_
  unfold zmBody
  have hfar:=h.ok.far
  have hlast:=h.ok.last
  have hdok:=fun c=>datS_ok h.ok.ok hfar c
  have hBw:=(h.lim (.inl rfl)).1
  have hwl:=h.blk.lt
  refine wp_seq (rg_wp (zm_r0 h0 rfl fun a1 h1=> ?_))
  have e1:(w.alloc (.cells (actC k a b c) actT)).heap.size=w.heap.size+1:=by simp
  rw[e1] at h1
  refine wp_seq (rg_wp (zm_r1 h1 (dat_store (d:=Fd.nil.dt) (m:=dm0) (Blk.new _ datT zA) (by show 0+11<=11;omega)) fun a2 h2=> ?_))
  have hA0:=Blk.new w actT (actC k a b c)
  have hZ0:=Blk.new (w.alloc (.cells (actC k a b c) actT)) datT zA
  rw[e1] at hZ0
  obtain⟨u1,hu1⟩: ∃u1,u1=(w.alloc (.cells (actC k a b c) actT)).alloc (.cells zA datT):=⟨_,rfl⟩
  have hA1:Blk u1 w.heap.size actT (actC k a b c):=by rw[hu1];exact hA0.alloc _
  have hZ1:Blk u1 (w.heap.size+1) datT zA:=by rw[hu1];exact hZ0
  have hb1:Below w.heap.size w u1:=by rw[hu1];exact bl_alloc (bl_alloc (Below.refl _ _) _) _
  have hzu:u1.heap.size=w.heap.size+2:=by rw[hu1];simp
  have hX:=over_x (w:=u1) Fd.nil.dt dm0
  change Sl 115 a2 _ at h2
  rw[<-hu1,hzu] at h2
  rw[hzu] at hX
  change Code.wp _ _ _ a2 ((((w.alloc (.cells (actC k a b c) actT)).alloc (.cells zA datT)).alloc (.cells zA datT)).setCells ((w.alloc (.cells (actC k a b c) actT)).alloc (.cells zA datT)).heap.size 0 (Fd.nil.dt.cs dm0).toList)
  rw[<-hu1,hzu]
  generalize (u1.alloc (.cells zA datT)).setCells (w.heap.size+2) 0 (Fd.nil.dt.cs dm0).toList=u at hX ⊢
  obtain⟨hD,hbu⟩:=hX
  rw[<-hzu] at hbu
  have hA:=hA1.below hbu hA1.lt
  have hZ:=hZ1.below hbu hZ1.lt
  have hbw:=bl_trans hb1 hbu
  have hDl:=hD.lt
  have hW:=h.old hbw
  have hlim: ∀b,O b->b<w.heap.size:=fun b hb=>(h.hs.lim b hb).2
  obtain⟨g3,hg3⟩: ∃g3,g3=w.heap.size:=⟨_,rfl⟩
  obtain⟨g4,hg4⟩: ∃g4,g4=w.heap.size+1:=⟨_,rfl⟩
  obtain⟨g5,hg5⟩: ∃g5,g5=w.heap.size+2:=⟨_,rfl⟩
  rw[<-hg3] at hA
  rw[<-hg4] at hZ
  rw[<-hg5] at hD hDl
  have h2:Sl 115 a2 [(5,.pointer (some ⟨g5,0,none⟩)),(3,.pointer (some ⟨g3,0,none⟩)),(4,.pointer (some ⟨g4,0,none⟩)),(0,.pointer (some ⟨wp,0,none⟩))]:=by rw[hg3,hg4,hg5];exact h2.to ⟨rfl,rfl,rfl,rfl,trivial⟩
  have hown2:=hown.old hbw
  obtain⟨bm,pt,own,hx⟩:=h.hs
  have hxu:=hx.old hbw
  obtain⟨L',hL'⟩: ∃L',L'=(makeS σ k a b c).1:=⟨_,rfl⟩
  obtain⟨T',hT'⟩: ∃T',T'=(makeS σ k a b c).2.1:=⟨_,rfl⟩
  obtain⟨x,hxd⟩: ∃x,x=(makeS σ k a b c).2.2:=⟨_,rfl⟩
  rw[<-hL',<-hT',<-hxd]
  obtain⟨C,hC⟩: ∃C:World->Prop,C=fun v=>Blk v wp wldT #[.pointer (some ⟨gh,0,none⟩),.slice sd.d sd.n sd.c,.slice sk.d sk.n sk.c]/\Blk v g3 actT (actC k a b c)/\Blk v g4 datT zA:=⟨_,rfl⟩
  have hCu:C u:=by rw[hC];exact⟨hW.blk,hA,hZ⟩
  have hCb: ∀v v2,C v->g5<v.heap.size->Below v.heap.size v v2->C v2:=fun v v2 hv hz hb=>by
    rw[hC] at hv ⊢
    exact⟨hv.1.below hb hv.1.lt,hv.2.1.below hb hv.2.1.lt,hv.2.2.below hb hv.2.2.lt⟩
  have hCm: ∀{O1:Nat->Prop} (v v2:World),C v->Moved O1 v v2->(∀b,O1 b->O b\/g5<b)->C v2:=fun{O1} v v2 hv hm ho=>by
    rw[hC] at hv ⊢
    refine⟨(hm.block _ hv.1.lt fun e=> ?_).trans hv.1,(hm.block _ hv.2.1.lt fun e=> ?_).trans hv.2.1,(hm.block _ hv.2.2.lt fun e=> ?_).trans hv.2.2⟩
    · rcases ho _ e with q | q
      · exact h.o1 q
      · omega
    · rcases ho _ e with q | q
      · have:=hlim _ q;omega
      · omega
    · rcases ho _ e with q | q
      · have:=hlim _ q;omega
      · omega
  have hCs: ∀(v:World) (vs:List Value),C v->C (v.setCells g5 0 vs):=fun v vs hv=>by
    rw[hC] at hv ⊢
    exact⟨Blk.farL (by omega) _ _ _ hv.1,Blk.farL (by omega) _ _ _ hv.2.1,Blk.farL (by omega) _ _ _ hv.2.2⟩
  have ch: ∀v,C v->Lds Tryz.prog 35 (.pointer (some ⟨wp,0,none⟩)) (.pointer (some ⟨gh,0,none⟩)) v:=fun v hv=>by rw[hC] at hv;exact one_load hv.1 Tryz.underlying35 rfl rfl
  have cA: ∀v,C v->Lds Tryz.prog 3 (.pointer (some ⟨g3,1,none⟩)) (.int .i64 a) v:=fun v hv=>by rw[hC] at hv;exact one_load hv.2.1 Tryz.underlying3 rfl rfl
  have cB: ∀v,C v->Lds Tryz.prog 3 (.pointer (some ⟨g3,2,none⟩)) (.int .i64 b) v:=fun v hv=>by rw[hC] at hv;exact one_load hv.2.1 Tryz.underlying3 rfl rfl
  have cC: ∀v,C v->Lds Tryz.prog 3 (.pointer (some ⟨g3,3,none⟩)) (.int .i64 c) v:=fun v hv=>by rw[hC] at hv;exact one_load hv.2.1 Tryz.underlying3 rfl rfl
  have hd1:Below u.heap.size u (u.drewN 1):=below_drewN (Below.refl _ _) 1
  have hdat: ∀v,Below u.heap.size u v->∀{c:Int},okInt c->Calls Tryz.prog 22 #[.pointer (some ⟨wp,0,none⟩),.int .i64 c] v fun e w'=>e=.returned (.agg ((datS σ.X c).dt.cs dm0))/\Below u.heap.size u w':=fun v hv {c} hc=>(lawDatum_any (hW.old hv) hc).mono fun e w' hh=>⟨hh.1,bl_trans hv hh.2⟩
  obtain⟨rest,hrest⟩: ∃rest:Act->World->Prop,rest=fun a' v=>Sl 115 a' [(5,.pointer (some ⟨g5,0,none⟩)),(4,.pointer (some ⟨g4,0,none⟩))]/\HR u.heap.size B w v gh O L' T'/\Blk v g5 datT (x.dt.cs dm0)/\C v:=⟨_,rfl⟩
  refine wp_seq (Code.wp_mono (Q:=fun e a' w'=>e=.normal/\rest a' w') ?_ ?_)
  · rintro e a7 v ⟨rfl,hr⟩
    rw[hrest] at hr
    obtain⟨h7,hR,hB5,hCv⟩:=hr
    show Code.wp _ _ _ a7 v
    have hZv:Blk v g4 datT zA:=by rw[hC] at hCv;exact hCv.2.2
    refine wp_seq (rg_wp (zm_r19 (d114:=x.dt) (m114:=dm0) h7 rfl rfl (dat_load hB5 rfl) (dat_store hZv (by show 0+11<=11;omega)) fun a8 h8=>wp_ret ?_))
    refine ret_c rfl h8 rfl (dat_load (fill_zA x.dt dm0 hZv) rfl) ⟨rfl,(hR.set (g:=g4) (by omega) (by omega) hlim _ _).hq (by omega)⟩
  have lst: ∀(v:World),HQ B u v gh O L' T'->C v->∃q,q=v.setCells g5 0 (x.dt.cs dm0).toList/\HR u.heap.size B w q gh O L' T'/\Blk q g5 datT (x.dt.cs dm0)/\C q:=fun v hQ hCv=>by
    have h5v:Blk v g5 datT zA:=by
      obtain⟨O',_,hm,_⟩:=hQ
      exact(hm.block _ hDl fun e=>by have:=hlim _ e;omega).trans hD
    exact⟨_,rfl,(HR.of hbw hQ).set (by omega) hDl hlim _ _,fill_zA x.dt dm0 h5v,hCs v _ hCv⟩
  have hM5: ∀(v:World),HQ B u v gh O L' T'->C v:=fun v hQ=>by
    obtain⟨O',_,hm,_⟩:=hQ
    exact hCm u v hCu hm fun b hb=>.inl hb
  refine wp_seq (rg_wp (zm_r2 (k:=k) h2 rfl (one_load hA Tryz.underlying3 rfl rfl) fun a3 h3=> ?_))
  refine wp_block ?_
  have h5st: ∀(v:World),HQ B u v gh O L' T'->So datT g5 0 (.agg (x.dt.cs dm0)) v (x.dt.cs dm0).toList:=fun v hQ=>by
    have h5v:Blk v g5 datT zA:=by
      obtain⟨O',_,hm,_⟩:=hQ
      exact(hm.block _ hDl fun e=>by have:=hlim _ e;omega).trans hD
    exact dat_store h5v (by show 0+11<=11;omega)
  by_cases k1:k=1
  · refine wp_seq (rg_wp (zm_r3 (b14:=true) h3 rfl (decide_eq_true k1) fun a4 h4=>wp_cond_true (h4.look 13 rfl) ?_))
    have e1:makeS σ k a b c=(σ.last+1,σ.T++[(σ.last+1,.obj (datS σ.X a) (datS σ.X b))],.ref 1 (σ.last+1)):=by unfold makeS;rw[if_pos k1]
    rw[e1] at hL' hT' hxd
    refine wpl (rg_wp (zm_r4 (C:=C) (x:=pr (datS σ.X a) (datS σ.X b)) (y:=x.dt) (my:=dm0) (v:=.nilIface)
      (C0:=fun q v=>(∃g,q=⟨none,0,some ⟨g,0,none⟩,2⟩/\RowX v (fun b=>b<v.heap.size) (some ⟨g,0,none⟩) [datS σ.X a,datS σ.X b])/\Below u.heap.size u v) (C1:=fun v=>HQ B u v gh O L' T')
      h4 rfl rfl rfl (hCb _ _ hCu hDl hd1) ch cA cB ((lawPair_any (hW.old hd1) ha hb).mono ?_) (fun q v hq=>hCb _ _ hCu hDl hq.2) (fun q v hq=> ?_) (fun q v hq v2 hv2=>hM5 v2 hv2) (fun q v hq v2 hv2=>h5st v2 hv2) (fun q v hq v2 hv2=>hCs _ _ (hM5 v2 hv2)) fun a5 q v v2 hq hv2 h5=> ?_))
    · rintro e w' ⟨q,r1,⟨g,r2,_,r3⟩,r4⟩
      exact⟨q,r1,⟨g,r2,r3⟩,bl_trans hd1 r4⟩
    · obtain⟨⟨g,rfl,hr⟩,hbv⟩:=hq
      refine(hObject_any (hxu.old hbv) (hown2.old hbv) (by omega) (hdok a) (hdok b) hr (Nat.le_refl _) (capOk.some (by omega)) (by have:=hbv.size;have:=hbw.size;omega)).mono ?_
      rintro e w' ⟨r1,r2⟩
      rw[hL',hT',hxd]
      exact⟨r1,HQ.pre hbv r2⟩
    · obtain⟨z,rfl,r1,r2,r3⟩:=lst v2 hv2 (hM5 v2 hv2)
      exact block_norm ⟨rfl,by rw[hrest];exact⟨h5.to ⟨rfl,rfl,trivial⟩,r1,r2,r3⟩⟩
  refine wp_seq (rg_wp (zm_r3 (b14:=false) h3 rfl (decide_eq_false k1) fun a4 h4=>wp_cond_false (h4.look 13 rfl) ?_))
  by_cases k2:k=2
  · refine wp_seq (rg_wp (zm_r5 (b30:=true) h4 rfl (decide_eq_true k2) fun a5 h5=>wp_cond_true (h5.look 29 rfl) ?_))
    have e1:makeS σ k a b c=(σ.last+1,σ.T++[(σ.last+1,.arr (datS σ.X a) (datS σ.X b))],.ref 2 (σ.last+1)):=by unfold makeS;rw[if_neg k1,if_pos k2]
    rw[e1] at hL' hT' hxd
    refine wpl (rg_wp (zm_r6 (C:=C) (x:=(datS σ.X a).dt) (mx:=dm0) (y:=(datS σ.X b).dt) (my:=dm0) (z:=x.dt) (mz:=dm0) (v:=.nilIface)
      (C0:=fun v=>Below u.heap.size u v) (C1:=fun v=>Below u.heap.size u v) (C2:=fun v=>HQ B u v gh O L' T')
      h5 rfl rfl rfl (hCb _ _ hCu hDl hd1) ch cA cB (hdat _ hd1 ha) (fun v hv=>hCb _ _ hCu hDl hv) (fun v hv=>hdat v hv hb) (fun v hv v2 hv2=>hCb _ _ hCu hDl hv2) (fun v hv v2 hv2=>hCb _ _ hCu hDl (bl_alloc hv2 _)) (fun v hv v2 hv2=> ?_) (fun v hv v2 hv2 v3 hv3=>hM5 v3 hv3) (fun v hv v2 hv2 v3 hv3=>h5st v3 hv3) (fun v hv v2 hv2 v3 hv3=>hCs _ _ (hM5 v3 hv3)) fun a6 v v2 v3 hv hv2 hv3 h6=> ?_))
    · have hba:Below u.heap.size u (v2.alloc (.cells (((datS σ.X a).dt.cs dm0).toList++((datS σ.X b).dt.cs dm0).toList).toArray datT)):=bl_alloc hv2 _
      have hR:RowX (v2.alloc (.cells (((datS σ.X a).dt.cs dm0).toList++((datS σ.X b).dt.cs dm0).toList).toArray datT)) (fun _=>True) (some ⟨v2.heap.size,0,none⟩) [datS σ.X a,datS σ.X b]:=.inr ⟨v2.heap.size,_,rfl,trivial,Blk.new _ _ _,by simp[Dt.cs,Hd.cells],fun j z hz=>by
        match j,hz with
        | 0, hz => obtain rfl : datS σ.X a = z := by simpa using hz
                   simp[Dt.cs,Hd.cells]
        | 1, hz => obtain rfl : datS σ.X b = z := by simpa using hz
                   simp[Dt.cs,Hd.cells]⟩
      refine(hList_any (hxu.old hba) (hown2.old hba) (by omega) (hdok a) (hdok b) hR (by have:=hba.size;have:=hbw.size;omega)).mono ?_
      rintro e w' ⟨r1,r2⟩
      rw[hL',hT',hxd]
      exact⟨r1,HQ.pre hba r2⟩
    · obtain⟨z,rfl,r1,r2,r3⟩:=lst v3 hv3 (hM5 v3 hv3)
      exact block_norm ⟨rfl,by rw[hrest];exact⟨h6.to ⟨rfl,rfl,trivial⟩,r1,r2,r3⟩⟩
  refine wp_seq (rg_wp (zm_r5 (b30:=false) h4 rfl (decide_eq_false k2) fun a5 h5=>wp_cond_false (h5.look 29 rfl) ?_))
  by_cases k3:k=3
  · refine wp_seq (rg_wp (zm_r7 (b49:=true) h5 rfl (decide_eq_true k3) fun a6 h6=>wp_cond_true (h6.look 48 rfl) ?_))
    have e1:makeS σ k a b c=(σ.last+1,layT (σ.T++[(σ.last+1,.tab [])]) (.ref 3 (σ.last+1)) (datS σ.X b) (datS σ.X a),.ref 3 (σ.last+1)):=by unfold makeS;rw[if_neg k1,if_neg k2,if_pos k3]
    rw[e1] at hL' hT' hxd
    have hxok:x.ok:=by rw[hxd];exact⟨by omega,by omega⟩
    have hQC: ∀{n:Nat} {T1:Tm} (v:World),HQ B u v gh O n T1->C v/\Blk v g5 datT zA:=fun v hQ=>by
      obtain⟨O',_,hm,_⟩:=hQ
      exact⟨hCm u v hCu hm fun b hb=>.inl hb,(hm.block _ hDl fun e=>by have:=hlim _ e;omega).trans hD⟩
    refine wp_seq (rg_wp (zm_r8 (y:=x.dt) (my:=dm0) (C0:=fun v=>HQ B u v gh O (σ.last+1) (σ.T++[(σ.last+1,.tab [])])) h6 rfl rfl (ch u hCu) ((hMap_any hxu (by omega) (by have:=hbw.size;omega)).mono fun e w' hh=>by rw[hxd];exact hh) (fun v hv=>dat_store (hQC v hv).2 (by show 0+11<=11;omega)) fun a7 v hv h7=> ?_))
    have hR:=(HR.of hbw hv).set (g:=g5) (by omega) hDl hlim 0 (x.dt.cs dm0).toList
    have hB5:Blk (v.setCells g5 0 (x.dt.cs dm0).toList) g5 datT (x.dt.cs dm0):=fill_zA x.dt dm0 (hQC v hv).2
    have hCv:=hCs v (x.dt.cs dm0).toList (hQC v hv).1
    have hzv:u.heap.size<=(v.setCells g5 0 (x.dt.cs dm0).toList).heap.size:=by rw[setCells_size'];obtain⟨_,_,hm,_⟩:=hv;exact hm.size
    change Code.wp _ _ _ a7 (v.setCells g5 0 (x.dt.cs dm0).toList)
    generalize v.setCells g5 0 (x.dt.cs dm0).toList=z at hR hB5 hCv hzv ⊢
    obtain⟨O1,s1,s2,s3,s4⟩:=hR
    have hrow: ∀{g:Nat},g<w.heap.size->¬O g->z.heap[g]? =w.heap[g]? :=fun hg ho=>s2.block _ hg ho
    have hdz: ∀(v:World),Below z.heap.size z v->∀{c:Int},okInt c->Calls Tryz.prog 22 #[.pointer (some ⟨wp,0,none⟩),.int .i64 c] v fun e w'=>e=.returned (.agg ((datS σ.X c).dt.cs dm0))/\Below z.heap.size z w':=fun v hv {c} hc=>by
      have hds:=lawDatum_read (σ:=σ) (sd:=sd) (sk:=sk) (gh:=gh) (w:=v) (wp:=wp) (B:=B) ((hrow hwl h.o1 |> fun e=>by rw[hC] at hCv;exact hCv.1.below hv hCv.1.lt)) (ARow.keep h.data fun g hg=>(hv.block g (by have:=(ARow.block h.data hg).2;have:=s2.size;omega)).trans (hrow (ARow.block h.data hg).2 (h.o2 g hg))) hfar hc
      exact hds.mono fun e w' hh=>⟨hh.1,bl_trans hv hh.2⟩
    have hdr:Below z.heap.size z (z.drewN 1):=below_drewN (Below.refl _ _) 1
    have hC5b: ∀v,Below z.heap.size z v->C v/\Blk v g5 datT (x.dt.cs dm0):=fun v hv=>⟨hCb z v hCv (by omega) hv,hB5.below hv hB5.lt⟩
    have hownz:OwnAt z:=OwnAt.moved hown s2 (fun e=>by have:=(hx.lim 0 e).1;omega) (by omega)
    refine wpl (rg_wp (zm_r9 (C:=fun v=>C v/\Blk v g5 datT (x.dt.cs dm0)) (d:=x.dt) (m:=dm0) (x:=(datS σ.X b).dt) (mx:=dm0) (y:=(datS σ.X a).dt) (my:=dm0)
      (C0:=fun v=>Below z.heap.size z v) (C1:=fun v=>Below z.heap.size z v) (C2:=fun _ v=>HR u.heap.size B w v gh O L' T'/\Blk v g5 datT (x.dt.cs dm0)/\C v)
      h7 rfl rfl rfl (hC5b _ hdr) (fun v hv=>ch v hv.1) (fun v hv=>dat_load hv.2 rfl) (fun v hv=>cB v hv.1) (fun v hv=>cA v hv.1) (hdz _ hdr hb) (fun v hv=>hC5b v hv) (fun v hv=>hdz v hv ha) (fun v hv v2 hv2=>hC5b v2 hv2) (fun v hv v2 hv2=> ?_) fun a8 v v2 er v3 hv hv2 hv3 h8=> ?_))
    · obtain⟨bm1,pt1,own1,hx1⟩:=s1.old hv2
      refine(hLay_any hx1 hB0 (hownz.old hv2) (fun o E ho=> ?_) hxok (hdok b) (hdok a)).mono ?_
      · have:tget (σ.T++[(σ.last+1,.tab [])]) o=some (.tab E):=ho
        unfold tget at this
        rw[List.find?_append] at this
        cases hf:σ.T.find? (fun t=>t.1==o) with
        | some t=>
          rw[hf] at this
          have h8:tget σ.T o=some (.tab E):=by unfold tget;rw[hf];exact this
          have:=hE o E h8
          omega
        | none=>
          rw[hf] at this
          by_cases ho2:(σ.last+1==o)=true
          · simp[ho2] at this
            subst this
            simp
          · simp[ho2] at this
      · rintro e w' ⟨⟨er,r1⟩,r2⟩
        have hR2:HR u.heap.size B w w' gh O L' T':=by
          rw[hL',hT',hxd] at*
          exact HR.then (s2.trans ((Moved.of_below hv2).more fun b hb=>.inl hb)) s3 s4 (by have:=hv2.size;omega) (by have:=hbw.size;omega) r2
        obtain⟨O2,t1,t2,t3,t4⟩:=r2
        refine⟨er,r1,hR2,(t2.block _ (by have:=hv2.size;omega) fun e=> ?_).trans (hB5.below hv2 hB5.lt),hCm v2 w' (hC5b v2 hv2).1 t2 fun b hb=>(s4 b hb).imp_right fun q=>by omega⟩
        rcases s4 _ e with q | q
        · have:=hlim _ q;omega
        · omega
    · exact block_norm ⟨rfl,by rw[hrest];exact⟨h8.to ⟨rfl,rfl,trivial⟩,hv3.1,hv3.2.1,hv3.2.2⟩⟩
  refine wp_seq (rg_wp (zm_r7 (b49:=false) h5 rfl (decide_eq_false k3) fun a6 h6=>wp_cond_false (h6.look 48 rfl) ?_))
  by_cases k4:k=4
  · refine wp_seq (rg_wp (zm_r10 (b70:=true) h6 rfl (decide_eq_true k4) fun a7 h7=>wp_cond_true (h7.look 69 rfl) ?_))
    have e1:makeS σ k a b c=(σ.last+1,σ.T++[(σ.last+1,.box (datS σ.X a))],.num ((σ.last+1:Nat):Int)):=by unfold makeS;rw[if_neg k1,if_neg k2,if_neg k3,if_pos k4]
    rw[e1] at hL' hT' hxd
    refine wp_seq (rg_wp (zm_r11 (C:=C) (x:=(datS σ.X a).dt) (mx:=dm0) (n:=σ.last+1) (v:=.nilIface) (C0:=fun v=>Below u.heap.size u v) (C1:=fun v=>HQ B u v gh O L' T')
      h7 rfl rfl (hCb _ _ hCu hDl hd1) ch cA (hdat _ hd1 ha) (fun v hv=>hCb _ _ hCu hDl hv) (fun v hv=> ?_) (fun v hv v2 hv2=>hM5 v2 hv2) fun a8 v v2 hv hv2 h8=> ?_))
    · refine(hBox_any (hxu.old hv) (hown2.old hv) (by omega) (hdok a) (by have:=hv.size;have:=hbw.size;omega)).mono ?_
      rintro e w' ⟨r1,r2⟩
      rw[hL',hT']
      exact⟨r1,HQ.pre hv r2⟩
    · refine wpl (rg_wp (zm_r12 (n6:=σ.last+1) (y:=x.dt) (my:=dm0) (C0:=fun v=>HQ B u v gh O L' T') h8 rfl rfl ((lawWhole_any (σ.last+1) v2).mono fun e w' hh=>⟨by rw[hxd];exact hh.1,hv2.post hh.2⟩) (fun v hv=>h5st v hv) fun a9 v3 hv3 h9=> ?_))
      obtain⟨z,rfl,r1,r2,r3⟩:=lst v3 hv3 (hM5 v3 hv3)
      exact block_norm ⟨rfl,by rw[hrest];exact⟨h9.to ⟨rfl,rfl,trivial⟩,r1,r2,r3⟩⟩
  refine wp_seq (rg_wp (zm_r10 (b70:=false) h6 rfl (decide_eq_false k4) fun a7 h7=>wp_cond_false (h7.look 69 rfl) ?_))
  by_cases k5:k=5
  · refine wp_seq (rg_wp (zm_r13 (b86:=true) h7 rfl (decide_eq_true k5) fun a8 h8=>wp_cond_true (h8.look 85 rfl) ?_))
    have e1:makeS σ k a b c=(if allBox σ.T (boxS σ.Ks a) then(σ.last+1,σ.T++[(σ.last+1,.fn (pickN c 9) (zBx (boxS σ.Ks a)) (datS σ.X b))],.ref 5 (σ.last+1)) else(σ.last,σ.T,.nil)):=by unfold makeS;rw[if_neg k1,if_neg k2,if_neg k3,if_neg k4,if_pos k5]
    rw[e1] at hL' hT' hxd
    refine wp_seq (rg_wp (zm_r14 h8 fun a9 h9=> ?_))
    refine wp_seq (rg_wp (zm_r15 (n:=numS σ.Ks a 4) (C0:=fun v=>Below u.heap.size u v) h9 rfl rfl (cA u hCu) (lawNumber_any hW ha) fun a10 v hv h10=> ?_))
    obtain⟨n,hn⟩: ∃n,n=numS σ.Ks a 4:=⟨_,rfl⟩
    rw[<-hn] at h10
    have hnl:n<=80:=by rw[hn];have:=numS_le σ.Ks a 4;have:=h.ok.len;omega
    obtain⟨bx,hbx⟩: ∃bx,bx=boxS σ.Ks a:=⟨_,rfl⟩
    have hbx':bx=if 0<n then[n] else[]:=by rw[hbx,hn];rfl
    rw[<-hbx] at hL' hT' hxd
    have tail: ∀(a11:Act) (s:S3) (v2:World),Below u.heap.size u v2->ZRow v2 u.heap.size s (zBx bx)->Sl 115 a11 [(8,.slice s.d s.n s.c),(5,.pointer (some ⟨g5,0,none⟩)),(3,.pointer (some ⟨g3,0,none⟩)),(4,.pointer (some ⟨g4,0,none⟩)),(0,.pointer (some ⟨wp,0,none⟩))]->∀Qn:Exit->Act->World->Prop,(∀a' v',rest a' v'->Qn .normal a' v')->Code.wp Tryz.prog (r_zm 18) Qn a11 v2:=fun a11 s v2 hv2 hZ h11 Qn hQn=>by
      have hsn:s.n=bx.length:=by have:=hZ.1;rw[this];unfold zBx;rw[List.length_map]
      rw[hsn] at h11
      have hdr:Below v2.heap.size v2 (v2.drewN 1):=below_drewN (Below.refl _ _) 1
      have hv3:=bl_trans hv2 hdr
      refine wpl (rg_wp (zm_r18 (C:=C) (p:=pickN c 9) (x:=(datS σ.X b).dt) (mx:=dm0) (y:=x.dt) (my:=dm0) (C0:=fun v=>v=v2.drewN 1) (C1:=fun v=>Below v2.heap.size v2 v) (C2:=fun _ v=>HQ B u v gh O L' T')
        h11 rfl rfl rfl rfl (hCb _ _ hCu hDl hv3) ch cC cB (lawPick_any hc (n:=9) (by omega) _) (fun v hv=>by rw[hv];exact hCb _ _ hCu hDl hv3) (fun v hv=> ?_) (fun v hv v4 hv4=>hCb _ _ hCu hDl (bl_trans hv2 hv4)) (fun v hv v4 hv4=>hCb _ _ hCu hDl (bl_alloc (bl_trans hv2 hv4) _)) (fun v hv v4 hv4=> ?_) (fun v hv v4 hv4 er v5 hv5=>hM5 v5 hv5) (fun v hv v4 hv4 er v5 hv5=>h5st v5 hv5) (fun v hv v4 hv4 er v5 hv5=>hCs _ _ (hM5 v5 hv5)) fun a12 v v4 er v5 hv hv4 hv5 h12=> ?_))
      · rw[hv]
        exact(lawDatum_any (hW.old hv3) hb).mono fun e w' hh=>⟨hh.1,bl_trans hdr hh.2⟩
      · have hv4':=bl_trans hv2 hv4
        have hba:Below u.heap.size u (v4.alloc (.cells ((datS σ.X b).dt.cs dm0) datT)):=bl_alloc hv4' _
        have hR:RowX (v4.alloc (.cells ((datS σ.X b).dt.cs dm0) datT)) (fun _=>True) (some ⟨v4.heap.size,0,none⟩) [datS σ.X b]:=.inr ⟨v4.heap.size,_,rfl,trivial,Blk.new _ _ _,by simp[Dt.cs,Hd.cells],fun j z hz=>by
          match j,hz with
          | 0, hz => obtain rfl : datS σ.X b = z := by simpa using hz
                     simp[Dt.cs,Hd.cells]⟩
        have hZ4:=(ZRow.path ((hZ.old hv4).old (bl_alloc (Below.refl _ _) (.cells ((datS σ.X b).dt.cs dm0) datT)))).1
        refine(hFunc_any (hxu.old hba) (hown2.old hba) (by omega) (hdok b) (pickN c 9) (bx:=bx) (by rw[hbx'];split<;>simp) (by rw[hbx'];intro m hm;split at hm<;>simp at hm;omega) hZ4 hR (by have:=hba.size;have:=hbw.size;omega) (pc:=s.c) (ic:=1)).mono ?_
        rintro e w' ⟨⟨er,r1⟩,r2⟩
        refine⟨er, ?_, ?_⟩
        · rw[r1,hxd]
          by_cases hall:allBox σ.T bx=true
          · rw[if_pos hall,if_pos hall]
          · rw[if_neg hall,if_neg hall]
        · rw[hL',hT']
          by_cases hall:allBox σ.T bx=true
          · simp only[if_pos hall] at r2 ⊢
            exact HQ.pre hba r2
          · simp only[if_neg hall] at r2 ⊢
            exact HQ.pre hba r2
      · obtain⟨z,rfl,r1,r2,r3⟩:=lst v5 hv5 (hM5 v5 hv5)
        exact hQn _ _ (by rw[hrest];exact⟨h12.to ⟨rfl,rfl,trivial⟩,r1,r2,r3⟩)
    by_cases hn0:0<n
    · refine wp_seq (wp_seq (rg_wp (zm_r16 (n9:=n) (b92:=true) h10 rfl (decide_eq_true (by omega)) fun a11 h11=>wp_cond_true (h11.look 92 rfl) ?_)))
      refine wpl (rg_wp (zm_r17 (n9:=n) (bd:=none) (bn:=0) (bc:=0) (C0:=fun s v2=>ZRow v2 u.heap.size s (zBx bx)/\Below u.heap.size u v2) h11 rfl rfl (fun ty=> ?_) fun a12 s v2 hs h12=> ?_))
      · obtain⟨s',v',r1,r2,r3,_⟩:=ZRow.app (ZRow.nil v v.heap.size) (by simp) (Nat.le_refl _) (n:Int) ty
        refine⟨s',v',r1, ?_, ?_⟩
        · rw[hbx',if_pos hn0]
          exact ZRow.low r2 hv.size
        · exact hv.trans ((r3.below (n:=v.heap.size) (Below.refl _ _) (fun x _ e=>by cases e) (Nat.le_refl _)).mono hv.size)
      · exact tail a12 s v2 hs.2 hs.1 (h12.to ⟨rfl,rfl,rfl,rfl,rfl,trivial⟩) _ fun a' v' hr=>block_norm ⟨rfl,hr⟩
    · refine wp_seq (wp_seq (rg_wp (zm_r16 (n9:=n) (b92:=false) h10 rfl (decide_eq_false (by omega)) fun a11 h11=>wpc_off (h11.look 92 rfl) ?_)))
      exact tail a11 ⟨none,0,0⟩ v hv (by rw[hbx',if_neg hn0];exact ZRow.nil _ _) (h11.to ⟨rfl,rfl,rfl,rfl,rfl,trivial⟩) _ fun a' v' hr=>block_norm ⟨rfl,hr⟩
  refine wp_seq (rg_wp (zm_r13 (b86:=false) h7 rfl (decide_eq_false k5) fun a8 h8=>wp_cond_false (h8.look 85 rfl) ?_))
  have e1:makeS σ k a b c=(σ.last,σ.T,.nil):=by unfold makeS;rw[if_neg k1,if_neg k2,if_neg k3,if_neg k4,if_neg k5]
  rw[e1] at hL' hT' hxd
  refine wp_skip (block_norm ⟨rfl, ?_⟩)
  rw[hrest]
  refine⟨h8.to ⟨rfl,rfl,trivial⟩, ?_,by rw[hxd];exact hD,hCu⟩
  rw[hL',hT']
  exact HR.of hbw (HQ.same ⟨bm,pt,own,hxu⟩ (Below.refl _ _))
end
end Go.Proofs.YtbjegfpfmnleeaaGreatDoor

namespace Go.Proofs.YtbjegfpfmnleeaaGreatDoor
set_option maxRecDepth 100000
def TQ(m:Nat)(T:Tm):Prop:= ∀i t,(i,t)∈T->t.ok/\∀E,t=.tab E->E.length<=m
theorem TQ.more{m n:Nat}{T:Tm}(h:TQ m T)(e:m<=n):TQ n T:=fun i t ht=>⟨(h i t ht).1,fun E hE=>Nat.le_trans ((h i t ht).2 E hE) e⟩
theorem TQ.put{m:Nat}{T:Tm}(h:TQ m T){o:Nat}{th:Th}(hth:th.ok/\∀E,th=.tab E->E.length<=m):TQ m (tset T o th):=fun i t ht=>by
 unfold tset at ht
 obtain⟨q,hq,e⟩:=List.mem_map.1 ht
 split at e
 ·injection e with _ e
  subst e
  exact hth
 ·subst e
  exact h i t hq
theorem TQ.app{m:Nat}{T:Tm}(h:TQ m T){n:Nat}{th:Th}(hth:th.ok/\∀E,th=.tab E->E.length<=m):TQ m (T++[(n,th)]):=fun i t ht=>by
 rcases List.mem_append.1 ht with ht | ht
 ·exact h i t ht
 ·have ht:(i,t)=(n,th):=by simpa using ht
  injection ht with _ ht
  subst ht
  exact hth
theorem TQ.del{m:Nat}{T:Tm}(h:TQ m T)(i:Nat):TQ m (tdel T i):=fun j t ht=>h j t (List.mem_filter.1 ht).1
theorem TQ.get{m:Nat}{T:Tm}(h:TQ m T){o:Nat}{t:Th}(ht:tget T o=some t):t.ok/\∀E,t=.tab E->E.length<=m:=h o t (tget_mem ht)
theorem no_tab{m:Nat}{t:Th}(h: ∀E,t≠.tab E): ∀E,t=.tab E->E.length<=m:=fun E e=>absurd e (h E)
theorem put_q{m:Nat}{T:Tm}(h:TQ m T){x y:Fd}(hy:y.ok):TQ m (putT T x y):=by
 unfold putT
 split
 ·split
  ·rename_i b hb
   exact h.put ⟨⟨hy,(h.get hb).1.2⟩,no_tab fun E e=>by cases e⟩
  ·exact h
 ·exact h
theorem set_q{m:Nat}{T:Tm}(h:TQ m T){n:Nat}{y:Fd}(hy:y.ok):TQ m (setTn T n y):=by
 unfold setTn
 split
 ·exact h.put ⟨hy,no_tab fun E e=>by cases e⟩
 ·exact h
theorem write_q{m:Nat}{T:Tm}(h:TQ m T){x c d:Fd}(hc:c.ok)(hd:d.ok):TQ m (writeT T x c d):=by
 unfold writeT
 split
 ·split
  ·exact h.put ⟨⟨hc,hd⟩,no_tab fun E e=>by cases e⟩
  ·exact h
 ·exact h
theorem tput_q{k v:Fd}(hv:v.ok): ∀(E E':List (Fd×Fd)),(∀p,p∈E->p.1.ok/\p.2.ok)->tput k v E=some E'->E'.length=E.length/\∀p,p∈E'->p.1.ok/\p.2.ok
 | [],_,_,e=>by cases e
 | p::r,E',h,e=>by
  unfold tput at e
  split at e
  ·injection e with e
   subst e
   exact⟨rfl,fun q hq=>by
    rcases List.mem_cons.1 hq with rfl | hq
    ·exact⟨(h p (by simp)).1,hv⟩
    ·exact h q (List.mem_cons_of_mem _ hq)⟩
  ·cases hr:tput k v r with
   | none=>rw[hr] at e;cases e
   | some r'=>
    rw[hr] at e
    injection e with e
    subst e
    obtain⟨h1,h2⟩:=tput_q hv r r' (fun q hq=>h q (List.mem_cons_of_mem _ hq)) hr
    exact⟨by simp[h1],fun q hq=>by
     rcases List.mem_cons.1 hq with rfl | hq
     ·exact h q (by simp)
     ·exact h2 q hq⟩
theorem layE_q{k v:Fd}(hk:k.ok)(hv:v.ok){E:List (Fd×Fd)}(h: ∀p,p∈E->p.1.ok/\p.2.ok):(layE E k v).length<=E.length+1/\∀p,p∈layE E k v->p.1.ok/\p.2.ok:=by
 unfold layE
 cases hr:tput k v E with
 | none=>
  exact⟨Nat.le_refl _,fun q hq=>by
   rcases List.mem_cons.1 hq with rfl | hq
   ·exact⟨hk,hv⟩
   ·exact h q hq⟩
 | some E'=>
  obtain⟨h1,h2⟩:=tput_q hv E E' h hr
  exact⟨by show E'.length<=_;omega,h2⟩
theorem lay_q{m:Nat}{T:Tm}(hm:m+1<=1000)(h:TQ m T){x k v:Fd}(hk:k.ok)(hv:v.ok):TQ (m+1) (layT T x k v):=by
 have h1:=h.more (Nat.le_succ m)
 unfold layT
 split
 ·split
  ·rename_i E hE
   obtain⟨⟨e1,e2⟩,e3⟩:=h.get hE
   obtain⟨l1,l2⟩:=layE_q hk hv (E:=E) e2
   have:=e3 E rfl
   split
   ·exact h1.put ⟨⟨by omega,l2⟩,fun E' e=>by injection e with e;subst e;omega⟩
   ·exact h1
  ·exact h1
 ·exact h1
theorem box_ok(Ks:List Int)(a:Int)(h:Ks.length<=80):(boxS Ks a).length<=1/\∀v,v∈zBx (boxS Ks a)-> -9223372036854775808<=v/\v<=9223372036854775807:=by
 have:=numS_le Ks a 4
 unfold boxS
 split
 ·exact⟨Nat.le_refl _,fun v hv=>by simp[zBx] at hv;omega⟩
 ·exact⟨Nat.zero_le _,fun v hv=>by simp[zBx] at hv⟩
theorem make_q{m:Nat}{σ:St}(hσ:StOk σ)(hm:m+1<=1000)(h:TQ m σ.T)(k a b c:Int):TQ (m+1) (makeS σ k a b c).2.1/\(makeS σ k a b c).2.2.ok/\(makeS σ k a b c).1<=σ.last+1:=by
 have hd:=fun c=>datS_ok hσ.ok hσ.far c
 have h1:=h.more (Nat.le_succ m)
 have hl:=hσ.last
 have hf:=hσ.far
 have hlen:=hσ.len
 have rk: ∀q,(Fd.ref q (σ.last+1)).ok:=fun q=>⟨by omega,by omega⟩
 unfold makeS
 split
 ·exact⟨h1.app ⟨⟨hd a,hd b⟩,no_tab fun E e=>by cases e⟩,rk 1,Nat.le_refl _⟩
 split
 ·exact⟨h1.app ⟨⟨hd a,hd b⟩,no_tab fun E e=>by cases e⟩,rk 2,Nat.le_refl _⟩
 split
 ·have h3:=lay_q (x:=Fd.ref 3 (σ.last+1)) hm (h.app (n:=σ.last+1) (th:=.tab []) ⟨⟨Nat.zero_le _,fun p hp=>by cases hp⟩,fun E e=>by injection e with e;subst e;exact Nat.zero_le _⟩) (hd b) (hd a)
  exact⟨h3,rk 3,Nat.le_refl _⟩
 split
 ·exact⟨h1.app ⟨hd a,no_tab fun E e=>by cases e⟩,ok_c _ (by omega),Nat.le_refl _⟩
 split
 ·split
  ·obtain⟨b1,b2⟩:=box_ok σ.Ks a (by omega)
   exact⟨h1.app ⟨⟨by unfold zBx;rw[List.length_map];omega,hd b,b2⟩,no_tab fun E e=>by cases e⟩,rk 5,Nat.le_refl _⟩
  ·exact⟨h1,trivial,Nat.le_succ _⟩
 ·exact⟨h1,trivial,Nat.le_succ _⟩
def actS(σ:St)(k a b c:Int):St:=
 if 1<=k/\k<=5 then⟨(makeS σ k a b c).1,(makeS σ k a b c).2.1,σ.X++[(makeS σ k a b c).2.2],σ.Ks++[k]⟩
 else if k=6/\0<numS σ.Ks a 2 then{σ with T:=putT σ.T (σ.X[numS σ.Ks a 2-1]?.getD .nil) (datS σ.X b)}
 else if k=7/\0<numS σ.Ks a 3 then{σ with T:=layT σ.T (σ.X[numS σ.Ks a 3-1]?.getD .nil) (datS σ.X c) (datS σ.X b)}
 else if k=8/\0<numS σ.Ks a 4 then{σ with T:=setTn σ.T (numS σ.Ks a 4) (datS σ.X b)}
 else if k=9/\0<numS σ.Ks a 1 then{σ with T:=writeT σ.T (σ.X[numS σ.Ks a 1-1]?.getD .nil) (datS σ.X b) (datS σ.X c)}
 else if k=10/\0<σ.X.length then{σ with T:=tdel σ.T (1+pickN a σ.X.length)}
 else σ
theorem StOk.sub{σ:St}(h:StOk σ){T':Tm}{m:Nat}(hT:TQ m T'):StOk {σ with T:=T'}:=⟨h.len,h.far,h.last,h.ok,fun i t ht=>(hT i t ht).1⟩
theorem act_q{m:Nat}{σ:St}(hσ:StOk σ)(hl:σ.X.length<80)(hm:m+1<=1000)(h:TQ m σ.T)(k a b c:Int):StOk (actS σ k a b c)/\TQ (m+1) (actS σ k a b c).T:=by
 have hd:=fun c=>datS_ok hσ.ok hσ.far c
 have h1:=h.more (Nat.le_succ m)
 unfold actS
 split
 ·obtain⟨m1,m2,m3⟩:=make_q hσ hm h k a b c
  refine⟨⟨by simp[hσ.len],by simp;omega, ?_,fun x hx=> ?_,fun i t ht=>(m1 i t ht).1⟩,m1⟩
  ·have:=hσ.last
   simp
   omega
  ·rcases List.mem_append.1 hx with hx | hx
   ·exact hσ.ok x hx
   ·rw[List.mem_singleton.1 hx]
    exact m2
 split
 ·have:=put_q h1 (x:=σ.X[numS σ.Ks a 2-1]?.getD .nil) (hd b)
  exact⟨hσ.sub this,this⟩
 split
 ·have:=lay_q hm h (x:=σ.X[numS σ.Ks a 3-1]?.getD .nil) (hd c) (hd b)
  exact⟨hσ.sub this,this⟩
 split
 ·have:=set_q h1 (n:=numS σ.Ks a 4) (hd b)
  exact⟨hσ.sub this,this⟩
 split
 ·have:=write_q h1 (x:=σ.X[numS σ.Ks a 1-1]?.getD .nil) (hd b) (hd c)
  exact⟨hσ.sub this,this⟩
 split
 ·have:=h1.del (1+pickN a σ.X.length)
  exact⟨hσ.sub this,this⟩
 ·exact⟨hσ,h1⟩
end Go.Proofs.YtbjegfpfmnleeaaGreatDoor
