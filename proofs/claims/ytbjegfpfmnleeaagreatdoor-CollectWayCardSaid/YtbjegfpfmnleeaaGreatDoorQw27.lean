/-
   Written by an AI agent.
-/
import Derived.Test.YtbjegfpfmnleeaaGreatDoorQw26
namespace Go.Proofs.YtbjegfpfmnleeaaGreatDoor
open Go.RowKit Go.Maps
set_option maxRecDepth 100000
variable {B:Nat} {w:World} {gh:Nat} {O:Nat->Prop} {last:Nat} {T:Tm} {bm:Nat} {pt:Nat->Nat} {own:Nat->Nat->Prop}
def layT(T:Tm)(x k v:Fd):Tm:=match x with
 | .ref 3 o=>match tget T o with
  | some (.tab E)=>if kB k.dt then tset T o (.tab (layE E k v)) else T
  | _=>T
 | _=>T
theorem may_map{x:Fd}(h:(decide (x.h.kind=6)&&fitsB T x)=true): ∃o E,x=.ref 3 o/\tget T o=some (.tab E):=by
 simp only[Bool.and_eq_true,decide_eq_true_eq] at h
 obtain⟨h1,h2⟩:=h
 cases x with
 | nil=>exact absurd h1 (by decide)
 | num n=>exact absurd h1 (by show ¬(2:Int)=6;decide)
 | ref k o=>
  rw[fd_kind] at h1
  have hk:k=3:=by
   by_cases e1:k=1
   ·rw[if_pos e1] at h1;omega
   ·rw[if_neg e1] at h1
    by_cases e2:k=2
    ·rw[if_pos e2] at h1;omega
    ·rw[if_neg e2] at h1
     by_cases e3:k=3
     ·exact e3
     ·rw[if_neg e3] at h1;omega
  subst hk
  rw[show fitsB T (.ref 3 o)=fitK 3 (tget T o) from rfl] at h2
  cases hg:tget T o with
  | none=>rw[hg] at h2;cases h2
  | some t=>
   rw[hg] at h2
   cases t with
   | tab E=>exact⟨o,E,rfl,hg⟩
   | obj a b=>simp[fitK] at h2
   | arr a b=>simp[fitK] at h2
   | box a=>simp[fitK] at h2
   | fn c bx b=>simp[fitK] at h2
theorem lay_no{x k v:Fd}(h:(decide (x.h.kind=6)&&fitsB T x)=false):layT T x k v=T:=by
 unfold layT
 split
 ·rename_i o
  split
  ·rename_i E hg
   rw[show fitsB T (.ref 3 o)=fitK 3 (tget T o) from rfl,hg] at h
   simp[fitK,fd_kind] at h
  ·rfl
 ·rfl
theorem may_ptr{x:Fd}(h:(decide (x.h.kind=9)&&fitsB T x)=true): ∃o a b,x=.ref 1 o/\tget T o=some (.obj a b):=by
 simp only[Bool.and_eq_true,decide_eq_true_eq] at h
 obtain⟨h1,h2⟩:=h
 cases x with
 | nil=>exact absurd h1 (by decide)
 | num n=>exact absurd h1 (by show ¬(2:Int)=9;decide)
 | ref k o=>
  rw[fd_kind] at h1
  have hk:k=1:=by
   by_cases e1:k=1
   ·exact e1
   ·rw[if_neg e1] at h1
    split at h1
    ·omega
    ·split at h1<;>omega
  subst hk
  rw[show fitsB T (.ref 1 o)=fitK 1 (tget T o) from rfl] at h2
  cases hg:tget T o with
  | none=>rw[hg] at h2;cases h2
  | some t=>
   rw[hg] at h2
   cases t with
   | obj a b=>exact⟨o,a,b,rfl,hg⟩
   | tab E=>simp[fitK] at h2
   | arr a b=>simp[fitK] at h2
   | box a=>simp[fitK] at h2
   | fn c bx b=>simp[fitK] at h2
def writeT(T:Tm)(x c d:Fd):Tm:=match x with
 | .ref 1 o=>match tget T o with
  | some (.obj _ _)=>tset T o (.obj c d)
  | _=>T
 | _=>T
theorem write_no{x c d:Fd}(h:(decide (x.h.kind=9)&&fitsB T x)=false):writeT T x c d=T:=by
 unfold writeT
 split
 ·rename_i o
  split
  ·rename_i a b hg
   rw[show fitsB T (.ref 1 o)=fitK 1 (tget T o) from rfl,hg] at h
   simp[fitK,fd_kind] at h
  ·rfl
 ·rfl
set_option maxHeartbeats 2000000 in
theorem hLay_any(h:HSx B w gh O last T bm pt own)(hB0:0<B)(hown:OwnAt w)(hE: ∀o E,tget T o=some (.tab E)->E.length<=100000){x k v:Fd}(hx:x.ok)(hk:k.ok)(hv:v.ok):
  Calls Tryz.prog 46 #[.pointer (some ⟨gh,0,none⟩),.agg (x.dt.cs dm0),.agg (k.dt.cs dm0),.agg (v.dt.cs dm0)] w fun e w'=>(∃v,e=.returned v)/\HQ B w w' gh O last (layT T x k v):=by
 refine calls_ev (vs:=[.pointer (some ⟨gh,0,none⟩),.agg (x.dt.cs dm0),.agg (k.dt.cs dm0),.agg (v.dt.cs dm0)]) 47 Tryz.func46 hc_body (by kernel_rfl) (by simp) fun a0 h0=> ?_
 unfold hcBody
 refine wp_seq (rg_wp (hc_r0 h0 rfl rfl rfl fun a1 h1=> ?_))
 have hA:=((Blk.new w datT (x.dt.cs dm0)).alloc (.cells (k.dt.cs dm0) datT)).alloc (.cells (v.dt.cs dm0) datT)
 have hK:=(Blk.new (w.alloc (.cells (x.dt.cs dm0) datT)) datT (k.dt.cs dm0)).alloc (.cells (v.dt.cs dm0) datT)
 have hVv:=Blk.new ((w.alloc (.cells (x.dt.cs dm0) datT)).alloc (.cells (k.dt.cs dm0) datT)) datT (v.dt.cs dm0)
 have hb1:Below w.heap.size w (((w.alloc (.cells (x.dt.cs dm0) datT)).alloc (.cells (k.dt.cs dm0) datT)).alloc (.cells (v.dt.cs dm0) datT)):=bl_alloc (bl_alloc (bl_alloc (Below.refl _ _) _) _) _
 have e1:(w.alloc (.cells (x.dt.cs dm0) datT)).heap.size=w.heap.size+1:=by simp
 have e2:((w.alloc (.cells (x.dt.cs dm0) datT)).alloc (.cells (k.dt.cs dm0) datT)).heap.size=w.heap.size+2:=by simp
 rw[e1,e2] at h1
 rw[e1] at hK
 rw[e2] at hVv
 change Code.wp _ _ _ a1 (((w.alloc (.cells (x.dt.cs dm0) datT)).alloc (.cells (k.dt.cs dm0) datT)).alloc (.cells (v.dt.cs dm0) datT))
 generalize ((w.alloc (.cells (x.dt.cs dm0) datT)).alloc (.cells (k.dt.cs dm0) datT)).alloc (.cells (v.dt.cs dm0) datT)=w1 at hA hK hVv hb1 ⊢
 have hzA:=hA.lt
 have hzK:=hK.lt
 have hzV:=hVv.lt
 have h1x:=h.old hb1
 have hmay:=hmay_any h1x (hown.old hb1) hx 6
 cases hq:(decide (x.h.kind=6)&&fitsB T x) with
 | false=>
  rw[hq] at hmay
  rw[lay_no hq]
  refine wp_seq (wp_seq (rg_wp (hc_r1f (C0:=fun u=>Below w1.heap.size w1 u) h1 rfl rfl (dat_load hA rfl) hmay fun a2 u hu h2=>wp_cond_true (h2.look 24 rfl) ?_)))
  refine wp_seq (rg_wp (hc_r2 (C0:=fun _ v=>Below u.heap.size u v) h2 (hwrong_any 1 u) fun a3 z v hv h3=>wp_ret ?_))
  exact then_ret (ret1 rfl h3 rfl ⟨⟨_,rfl⟩,HQ.same ⟨bm,pt,own,h⟩ (bl_trans (bl_trans hb1 hu) hv)⟩)
 | true=>
  rw[hq] at hmay
  obtain⟨o,E,rfl,hg⟩:=may_map hq
  have hR: ∀(y:Fd),y.ok->∀u,Below w1.heap.size w1 u->Calls Tryz.prog 65 #[.agg (y.dt.cs dm0)] u fun e w'=>e=.returned (.bool true)/\Below w1.heap.size w1 w':=fun y hy u hu=>by
   have:=vRight (fd_ok y hy) (fd_at y u fun _=>False) ((hown.old hb1).old hu)
   rw[fd_right y hy] at this
   exact this.mono fun e v hh=>⟨hh.1,bl_trans hu hh.2⟩
  refine wp_seq (wp_seq (rg_wp (hc_r1t (C0:=fun u=>Below w1.heap.size w1 u) (C1:=fun u=>Below w1.heap.size w1 u) (C2:=fun u=>Below w1.heap.size w1 u) h1 rfl rfl rfl rfl (dat_load hA rfl) hmay (fun u hu=>dat_load (hK.below hu hzK) rfl) (fun u hu=>hR k hk u hu) (fun u _ u2 hu=>dat_load (hVv.below hu hzV) rfl) (fun u _ u2 hu=>hR v hv u2 hu) fun a2 _ _ u _ _ hu h2=>wpc_off (h2.look 24 rfl) ?_)))
  have hbu:=bl_trans hb1 hu
  have hzu:=hu.size
  have hux:=h.old hbu
  have hAu:=hA.below hu hzA
  have has:=as_tab pt T o
  rw[hg] at has
  refine wp_seq (wp_seq (rg_wp (hc_r3 (o:=(o:Int)) (b:=true) (p:=some ⟨pt o,0,none⟩) h2 rfl rfl hux.hp.lm (one_load hAu Tryz.underlying3 rfl rfl) (hux.lookup (by have:=hx.2;omega)) has fun a3 mm h3=> ?_)))
  have hbd:Below u.heap.size u (u.drewN mm):=below_drewN (Below.refl _ _) mm
  change Code.wp _ _ _ a3 (u.drewN mm)
  generalize u.drewN mm=u1 at hbd ⊢
  have hb3:=bl_trans hbu hbd
  have hz3:=hbd.size
  have hx3:=h.old hb3
  have hK3:=(hK.below hu hzK).below hbd (by omega)
  have hV3:=(hVv.below hu hzV).below hbd (by omega)
  refine wp_seq (rg_wp (hc_r4 h3 rfl fun a4 h4=>wp_cond_true (h4.look 38 rfl) ?_))
  have hm:=tget_mem hg
  have hd:Below u1.heap.size u1 (u1.drewN 1):=below_drewN (Below.refl _ _) 1
  have hx4:=hx3.old hd
  obtain⟨hth,hpo⟩:=hx4.th o _ hm
  obtain⟨mb,R,D,Om,t1,t2,t3,t4⟩:=hth
  have hlenR:R.length=E.length:=by
   have:=congrArg List.length t4
   simpa using this
  have hEl:=hE o E hg
  have hlim4:=hx4.lim
  have hin: ∀b,Om b->O b/\b≠pt o:=fun b hb=>⟨(h.sub o b (t3 b (.inr hb)).1).1,(t3 b (.inr hb)).2⟩
  have hOm0: ¬Om 0:=fun e=>by have:=(h.lim 0 (hin 0 e).1).1;omega
  have hnew: ∀b,w.heap.size<=b->¬Om b:=fun b hb e=>by have:=(h.lim b (hin b e).1).2;omega
  have t1':Blk u1 (pt o) tabT #[.pointer (some ⟨mb,0,none⟩)]:=t1
  refine wp_seq (rg_wp (hc_r5 (g9:=pt o) (mb:=mb) (C:=fun z=>z.heap[pt o]? =u1.heap[pt o]? /\z.heap[w.heap.size+1]? =u1.heap[w.heap.size+1]? /\z.heap[w.heap.size+2]? =u1.heap[w.heap.size+2]?)
   (C0:=fun _ z=>(kB k.dt=false/\Below u1.heap.size u1 z)\/(kB k.dt=true/\∃R',PutNew R k.dt v.dt R'/\PutOk (u1.drewN 1) z mb R' D Om)) h4 rfl rfl rfl ⟨rfl,rfl,rfl⟩ (fun z hz=>one_load (t:=tabT) (cs:=#[.pointer (some ⟨mb,0,none⟩)]) (hz.1.trans t1') Tryz.underlying117 rfl rfl) (fun z hz=>dat_load (hz.2.1.trans hK3) rfl) (fun z hz=>dat_load (hz.2.2.trans hV3) rfl)
   ((kput_any t2 hOm0 (by omega) (fd_ok k hk) (fd_ok v hv) (fd_at k _ fun _=>False) (fd_at v _ fun _=>False) (fun _ e=>e.elim) (fun _ e=>e.elim) ((hown.old hb3).old hd)).mono fun e z hh=> ?_) (fun er z hz=> ?_) fun a5 er z hz h5=>wp_ret ?_))
  ·unfold PutR at hh
   rw[fd_right k hk,fd_right v hv,if_neg (by decide)] at hh
   cases hkb:kB k.dt with
   | false=>
    rw[hkb,if_pos rfl] at hh
    obtain⟨q1,q2,q3,_⟩:=hh
    exact⟨q2,q3,.inl ⟨rfl,bl_trans hd q1⟩⟩
   | true=>
    rw[hkb,if_neg (by decide)] at hh
    exact⟨.nilIface,hh.1,.inr ⟨rfl,hh.2⟩⟩
  ·rcases hz with⟨_,hz⟩ | ⟨_,R',_,D',O',q1,q2,q3,q4⟩
   ·exact⟨hz.block _ t1'.lt,hz.block _ (by omega),hz.block _ (by omega)⟩
   ·exact⟨q2.block _ t1'.lt (fun e=>(hin _ e).2 rfl),q2.block _ (show w.heap.size+1<u1.heap.size by omega) (hnew _ (by omega)),q2.block _ (show w.heap.size+2<u1.heap.size by omega) (hnew _ (by omega))⟩
  ·refine then_ret (ret1 rfl h5 rfl ⟨⟨_,rfl⟩, ?_⟩)
   have e0:layT T (.ref 3 o) k v=if kB k.dt then tset T o (.tab (layE E k v)) else T:=by unfold layT;simp only[hg]
   rw[e0]
   rcases hz with⟨hkb,hz⟩ | ⟨hkb,R',hP,D',O',q1,q2,q3,q4⟩
   ·rw[hkb]
    exact HQ.same ⟨bm,pt,own,h⟩ (bl_trans hb3 hz)
   ·rw[hkb]
    have hlim':=MapAt.dlim q1
    have hMo:Moved (own o) (u1.drewN 1) z:=q2.more fun b hb=>(t3 b (.inr hb)).1
    obtain⟨kn,kk⟩:=MapAt.keys t2
    have hkv:=put_kv (k:=k) (v:=v) t4 kn (fun e he heq=>by
     obtain⟨k1,k2,k3⟩:=kk e he
     rw[k3,show hV e.key=hV k.dt from hashV_eq k1.h (fd_hok k hk) k1.k trivial k2 (fd_right k hk) heq]
     simp) hP
    have hQ:=hx4.upd hm hMo (th:=.tab (layE E k v)) rfl ⟨mb,R',D',O',(q2.block _ t1.lt (fun e=>(hin _ e).2 rfl)).trans t1,q1,fun b hb=> ?_,hkv⟩
    ·exact HQ.pre (bl_trans hb3 hd) hQ
    ·have h9:=hlim' b hb
     have h8:=t1.lt
     rcases hb with hb | hb
     ·rcases q3.2 b hb with h7 | h7
      ·exact⟨.inl (t3 b (.inl h7)).1,(t3 b (.inl h7)).2⟩
      ·exact⟨.inr ⟨h7,h9⟩,by omega⟩
     ·rcases q4.2 b hb with h7 | h7
      ·exact⟨.inl (t3 b (.inr h7)).1,(t3 b (.inr h7)).2⟩
      ·exact⟨.inr ⟨h7,h9⟩,by omega⟩
theorem ptr_eql(g o:Nat)(w:World):(binOp .eql 125 (.pointer (some ⟨g,o,none⟩)) (.pointer none)).run Tryz.prog w=.ok (.bool false) w:=by kernel_rfl
theorem hpointed_any(h:HSx B w gh O last T bm pt own){o:Nat}(ho:o<=2147483647){a b:Fd}(ht:tget T o=some (.obj a b)){m:Dm}(hb:Blk w (pt o) objT ((pr a b).cs m)):
  Calls Tryz.prog 72 #[.pointer (some ⟨gh,0,none⟩),.agg ((Fd.ref 1 o).dt.cs dm0)] w fun e w'=>e=.returned (.tuple #[.pointer (some ⟨pt o,0,none⟩),.pointer (some ⟨pt o,0,none⟩)])/\Below w.heap.size w w':=by
 refine calls_ev (vs:=[.pointer (some ⟨gh,0,none⟩),.agg ((Fd.ref 1 o).dt.cs dm0)]) 31 Tryz.func72 hq_body (by kernel_rfl) (by simp) fun a0 h0=> ?_
 unfold hqBody
 refine wp_seq (rg_wp (hq_r0 h0 rfl fun a1 h1=> ?_))
 have hA:=Blk.new w datT ((Fd.ref 1 o).dt.cs dm0)
 have hb1:Below w.heap.size w (w.alloc (.cells ((Fd.ref 1 o).dt.cs dm0) datT)):=bl_alloc (Below.refl _ _) _
 change Code.wp _ _ _ a1 (w.alloc (.cells ((Fd.ref 1 o).dt.cs dm0) datT))
 generalize w.alloc (.cells ((Fd.ref 1 o).dt.cs dm0) datT)=w1 at hA hb1 ⊢
 have h1x:=h.old hb1
 have has:=as_obj pt T o
 rw[ht] at has
 refine wp_seq (wp_seq (rg_wp (hq_r1 (o:=(o:Int)) (b:=true) (p:=some ⟨pt o,0,none⟩) h1 rfl rfl h1x.hp.lm (one_load hA Tryz.underlying3 rfl rfl) (h1x.lookup (by omega)) has fun a2 mm h2=> ?_)))
 have hbd:Below w1.heap.size w1 (w1.drewN mm):=below_drewN (Below.refl _ _) mm
 change Code.wp _ _ _ a2 (w1.drewN mm)
 generalize w1.drewN mm=w2 at hbd ⊢
 have hA2:=hA.below hbd hA.lt
 have hb2:=bl_trans hb1 hbd
 have hob:=hb.below hb2 hb.lt
 refine wp_seq (rg_wp (hq_r2 h2 rfl fun a3 h3=>wp_cond_true (h3.look 20 rfl) ?_))
 refine wp_seq (rg_wp (hq_r3 (pn:=0) (p29:=some ⟨pt o,0,none⟩) h3 rfl rfl (one_load hA2 Tryz.underlying24 rfl rfl) (one_load hA2 Tryz.underlying9 rfl rfl) (fun mm=>(hpart_any (w:=w2.drewN mm) (ty:=⟨#[84]⟩) (nm:=⟨#[84]⟩) (hob.below (below_drewN (Below.refl _ _) mm) hob.lt) rfl none 0).mono fun e w' hh=>⟨by rw[hh.1,if_pos rfl],mm,hh.2⟩) fun a4 m4 h4=>wp_ret ?_))
 exact then_ret (ret2 rfl h4 rfl rfl ⟨rfl,below_drewN hb2 m4⟩)
set_option maxHeartbeats 2000000 in
theorem hWrite_any(h:HSx B w gh O last T bm pt own)(hown:OwnAt w){x c d:Fd}(hx:x.ok)(hc:c.ok)(hd:d.ok){S:Nat->Prop}{ia:Option Addr}{ic:Nat}(hr:RowX w S ia [c,d])(hic:2<=ic)(hcap:capOk ia ic):
  Calls Tryz.prog 48 #[.pointer (some ⟨gh,0,none⟩),.agg (x.dt.cs dm0),.agg ((pr c d).cs ⟨none,0,ia,ic⟩)] w fun e w'=>(∃v,e=.returned v)/\HQ B w w' gh O last (writeT T x c d):=by
 refine calls_ev (vs:=[.pointer (some ⟨gh,0,none⟩),.agg (x.dt.cs dm0),.agg ((pr c d).cs ⟨none,0,ia,ic⟩)]) 70 Tryz.func48 hW_body (by kernel_rfl) (by simp) fun a0 h0=> ?_
 unfold hWBody
 obtain⟨m,hm⟩: ∃m:Dm,m=⟨none,0,ia,ic⟩:=⟨_,rfl⟩
 rw[<-hm] at h0
 refine wp_seq (rg_wp (hW_r0 h0 rfl rfl fun a1 h1=> ?_))
 have hA:=(Blk.new w datT (x.dt.cs dm0)).alloc (.cells ((pr c d).cs m) datT)
 have hD:=Blk.new (w.alloc (.cells (x.dt.cs dm0) datT)) datT ((pr c d).cs m)
 have hb1:Below w.heap.size w ((w.alloc (.cells (x.dt.cs dm0) datT)).alloc (.cells ((pr c d).cs m) datT)):=bl_alloc (bl_alloc (Below.refl _ _) _) _
 have e1:(w.alloc (.cells (x.dt.cs dm0) datT)).heap.size=w.heap.size+1:=by simp
 rw[e1] at h1 hD
 change Code.wp _ _ _ a1 ((w.alloc (.cells (x.dt.cs dm0) datT)).alloc (.cells ((pr c d).cs m) datT))
 generalize (w.alloc (.cells (x.dt.cs dm0) datT)).alloc (.cells ((pr c d).cs m) datT)=w1 at hA hD hb1 ⊢
 have hzA:=hA.lt
 have hzD:=hD.lt
 have h1x:=h.old hb1
 have hmay:=hmay_any h1x (hown.old hb1) hx 9
 cases hq:(decide (x.h.kind=9)&&fitsB T x) with
 | false=>
  rw[hq] at hmay
  rw[write_no hq]
  refine wp_seq (wp_seq (rg_wp (hW_r1f (C0:=fun u=>Below w1.heap.size w1 u) h1 rfl rfl (dat_load hA rfl) hmay fun a2 u hu h2=>wp_cond_true (h2.look 18 rfl) ?_)))
  refine wp_seq (rg_wp (hW_r2 (C0:=fun _ v=>Below u.heap.size u v) h2 (hwrong_any 1 u) fun a3 z v hv h3=>wp_ret ?_))
  exact then_ret (ret1 rfl h3 rfl ⟨⟨_,rfl⟩,HQ.same ⟨bm,pt,own,h⟩ (bl_trans (bl_trans hb1 hu) hv)⟩)
 | true=>
  rw[hq] at hmay
  obtain⟨o,a,b,rfl,hg⟩:=may_ptr hq
  have hrow: ∀u,Below w.heap.size w u->RowX u (fun x=>x<w.heap.size) ia [c,d]:=fun u hu=>hr.keep (fun x _ hl=>hu.block x hl) (fun x _ hl=>hl)
  refine wp_seq (wp_seq (rg_wp (hW_r1t (C0:=fun u=>Below w1.heap.size w1 u) (C1:=fun u=>Below w1.heap.size w1 u) h1 rfl rfl rfl (dat_load hA rfl) hmay (fun u hu=>dat_load (hD.below hu hzD) rfl) (fun u hu=> ?_) fun a2 _ u _ hu h2=>wpc_off (h2.look 18 rfl) ?_)))
  ·have:=vRight (pr_ok c d hc hd) (pr_at (hrow u (bl_trans hb1 hu)) hic hcap) ((hown.old hb1).old hu)
   rw[pr_right c d hc hd,<-hm] at this
   exact this.mono fun e v hh=>⟨hh.1,bl_trans hu hh.2⟩
  have hbu:=bl_trans hb1 hu
  have hzu:=hu.size
  have hux:=h.old hbu
  have hAu:=hA.below hu hzA
  have hDu:=hD.below hu hzD
  have hmem:=tget_mem hg
  obtain⟨hth,hpo⟩:=hux.th o _ hmem
  obtain⟨ja,jc,t1,t2,t3,t4⟩:=hth
  refine wp_seq (rg_wp (hW_r3 (g7:=pt o) (g8:=pt o) (C0:=fun v=>Below u.heap.size u v) h2 rfl rfl (dat_load hAu rfl) (hpointed_any hux (by have:=hx.2;omega) hg t1) fun a3 v hv h3=> ?_))
  have hbv:=bl_trans hbu hv
  have hzv:=hv.size
  have t1v:=t1.below hv t1.lt
  have t2v:RowX v (own o) ja [a,b]:=t2.keep (fun x _ hl=>hv.block x hl) (fun _ h _=>h)
  have hAv:=hAu.below hv (by omega)
  have hDv:=hDu.below hv (by omega)
  refine wp_seq (wp_block ?_)
  refine wp_seq (rg_wp (hW_r4 (b28:=false) h3 rfl (ptr_eql _ _) fun a4 h4=>wp_cond_false (h4.look 26 rfl) ?_))
  refine wp_seq (rg_wp (hW_r6_f (k:=8) (s1:=⟨#[84]⟩) (s2:=⟨#[84]⟩) (b39:=false) h4 rfl rfl (one_load hDv Tryz.underlying3 rfl rfl) (by decide) (one_load hDv Tryz.underlying9 rfl rfl) (one_load hAv Tryz.underlying9 rfl rfl) (by decide) fun a5 h5=>wpc_off (h5.look 30 rfl) (block_norm ?_)))
  have hbd:Below v.heap.size v (v.drewN 1):=below_drewN (Below.refl _ _) 1
  refine wp_seq (wp_seq (rg_wp (hW_r8 (o:=pr a b) (mo:=⟨none,0,ja,jc⟩) (d:=pr c d) (m:=m) (z1:=3) (z2:=3) (z3:=3) (C:=fun z=>Below v.heap.size v z) h5 rfl rfl rfl (fun z hz=>dat_load (t1v.below hz t1v.lt) rfl) (fun z hz=> ?_) (fun z hz=>dat_load (t1v.below hz t1v.lt) rfl) (fun z hz=> ?_) (by omega) (fun z hz=>dat_load (hDv.below hz hDv.lt) rfl) (fun z hz=> ?_) (by omega) hbd fun a6 z hz h6=> ?_)))
  ·exact(size_pr a b ja jc z (t2v.keep (fun x _ hl=>hz.block x hl) (fun _ h _=>h))).mono fun e z2 hh=>⟨hh.1,bl_trans hz hh.2⟩
  ·exact(size_pr a b ja jc z (t2v.keep (fun x _ hl=>hz.block x hl) (fun _ h _=>h))).mono fun e z2 hh=>⟨hh.1,bl_trans hz hh.2⟩
  ·rw[hm]
   exact(size_pr c d ia ic z (hrow z (bl_trans hbv hz))).mono fun e z2 hh=>⟨hh.1,bl_trans hz hh.2⟩
  have hbz:=bl_trans hbv hz
  have hzz:=hz.size
  refine wp_seq (rg_wp (hW_r9 (b62:=false) h6 rfl (by decide) fun a7 h7=>wpc_off (h7.look 62 rfl) ?_))
  have hDz:=hDv.below hz hDv.lt
  have hxz:=h.old hbz
  obtain⟨hth,_⟩:=hxz.th o _ hmem
  obtain⟨ka,kc,s1,_⟩:=hth
  refine wp_seq (rg_wp (hW_r11 (d:=pr c d) (m:=m) (g7:=pt o) (C0:=fun q y=>(∃s:S3,q=⟨none,0,s.d,s.c⟩/\RowN z.heap.size y s [c,d])/\Below z.heap.size z y) h7 rfl rfl (dat_load hDz rfl) ?_ (fun q y hq=>dat_store (s1.below hq.2 s1.lt) (by show 0+11<=11;omega)) fun a8 q y hq h8=> ?_))
  ·have:=twin_pr c d ia ic z (hrow z hbz)
   rw[<-hm] at this
   refine this.mono ?_
   rintro e y ⟨s,r1,r2,r3⟩
   exact⟨⟨none,0,s.d,s.c⟩,r1,⟨s,rfl,r2⟩,r3⟩
  obtain⟨⟨s,rfl,hs⟩,hy⟩:=hq
  obtain⟨q1,q2,q3,q4⟩:=RowN.row hs
  have hxy:=hxz.old hy
  refine wp_seq (rg_wp (hW_r12 h8 fun a9 h9=>wp_ret ?_))
  refine ret1 rfl h9 rfl ⟨⟨_,rfl⟩, ?_⟩
  have e0:writeT T (.ref 1 o) c d=tset T o (.obj c d):=by unfold writeT;simp only[hg]
  rw[e0]
  have hMs:Moved (own o) z (y.setCells (pt o) 0 ((pr c d).cs ⟨none,0,s.d,s.c⟩).toList):=(Moved.of_below hy).set (.inl hpo) _ _
  have hss:(y.setCells (pt o) 0 ((pr c d).cs ⟨none,0,s.d,s.c⟩).toList).heap.size=y.heap.size:=setCells_size' _ _ _ _
  have hpz:=s1.lt
  have hQ:=hxz.upd hmem hMs (th:=.obj c d) rfl ⟨s.d,s.c,fill_full (pr c d) ⟨none,0,s.d,s.c⟩ (s1.below hy s1.lt) rfl,q1.keep (fun x hx hl=>setCells_other _ _ _ (by omega)) (fun x hx _=>.inr ⟨hx.1,by rw[hss];exact hx.2⟩),q3,q4⟩
  exact HQ.pre hbz hQ
end Go.Proofs.YtbjegfpfmnleeaaGreatDoor
