/-
   Written by an AI agent.
-/
import Derived.Test.YtbjegfpfmnleeaaGreatDoorQw25
import Derived.Test.YtbjegfpfmnleeaaGreatDoorQw10
namespace Go.Proofs.YtbjegfpfmnleeaaGreatDoor
open Go.RowKit Go.Maps
set_option maxRecDepth 100000
variable {B:Nat} {w:World} {gh:Nat} {O:Nat->Prop} {last:Nat} {T:Tm} {bm:Nat} {pt:Nat->Nat} {own:Nat->Nat->Prop}
def MkV(B:Nat)(w:World)(gh:Nat)(O:Nat->Prop)(last:Nat)(T:Tm)(x:Fd)(e:Ending)(w':World):Prop:=(∃v,e=.returned (.tuple #[.agg (x.dt.cs dm0),v]))/\HQ B w w' gh O last T
def allBox(T:Tm)(bx:List Nat):Bool:=bx.all fun n=>isBox (tget T n)
def zBx(bx:List Nat):List Int:=bx.map fun(n:Nat)=>(n:Int)
theorem ix_int{q o n c:Nat}{j:Nat}(hj:j<n)(w:World):(Instr.indexAt 24 (.slice (some ⟨q,o,none⟩) n c) (.int .i64 (j:Int))).run Tryz.prog w=.ok (.pointer (some ⟨q,o+j*1,none⟩)) w:=
 ix_at2 (o:=o) (sz:=1) j Tryz.underlying24 (by kernel_rfl) hj w
set_option maxHeartbeats 1000000 in
theorem hFunc_any(h:HSx B w gh O last T bm pt own)(hown:OwnAt w)(hl:last<1000){b:Fd}(hb:b.ok)(c:Nat){bx:List Nat}(hbl:bx.length<=100)(hbn: ∀n,n∈bx->n<=1000000){S S':Nat->Prop}{pa:Option Addr}{pc:Nat}(hp:PathAt w S pa (zBx bx)){ia:Option Addr}{ic:Nat}(hr:RowX w S' ia [b])(hB:B<=w.heap.size):
  Calls Tryz.prog 63 #[.pointer (some ⟨gh,0,none⟩),.int .i64 (c:Int),.slice pa bx.length pc,.slice ia 1 ic] w
   (MkV B w gh O (if allBox T bx then last+1 else last) (if allBox T bx then T++[(last+1,.fn c (zBx bx) b)] else T) (if allBox T bx then .ref 5 (last+1) else .nil)):=by
 refine calls_ev (vs:=[.pointer (some ⟨gh,0,none⟩),.int .i64 (c:Int),.slice pa bx.length pc,.slice ia 1 ic]) 57 Tryz.func63 hu_body (by kernel_rfl) (by simp) fun a0 h0=> ?_
 unfold huBody
 refine wp_seq (rg_wp (hu_r0 h0 fun a1 h1=> ?_))
 have hZ:=Blk.new w datT zA
 have hb1:Below w.heap.size w (w.alloc (.cells zA datT)):=bl_alloc (Below.refl _ _) _
 change Code.wp _ _ _ a1 (w.alloc (.cells zA datT))
 generalize w.alloc (.cells zA datT)=w1 at hZ hb1 ⊢
 have hzZ:=hZ.lt
 have hz1:=hb1.size
 refine wp_seq (wp_seq (rg_wp (hu_r1 h1 rfl fun a2 h2=> ?_)))
 refine wp_block ?_
 refine wp_loop (fun a' wr=> ∃i:Nat,i<=bx.length/\Sl 57 a' [(16,.int .i64 (i:Int)),(15,.int .i64 (bx.length:Int)),(14,.slice pa bx.length pc),(0,.pointer (some ⟨gh,0,none⟩)),(1,.int .i64 (c:Int)),(2,.slice pa bx.length pc),(3,.slice ia 1 ic),(8,.pointer (some ⟨w.heap.size,0,none⟩)),(9,.nilIface)]/\Below w1.heap.size w1 wr/\allBox T (bx.take i)=true) (fun a' _=>muTo bx.length (slot a' 16))
  ⟨0,Nat.zero_le _,h2.to ⟨rfl,rfl,rfl,rfl,rfl,rfl,rfl,rfl,rfl,trivial⟩,Below.refl _ _,rfl⟩ ?_
 rintro a3 w3 ⟨i,hi,h3,hb3,hall⟩
 rw[h3.look 16 rfl,muTo_int]
 unfold huL0
 have hz3:=hb3.size
 have hbw:=bl_trans hb1 hb3
 have hx3:=h.old hbw
 have hZ3:=hZ.below hb3 hzZ
 by_cases hlt:i<bx.length
 ·refine wp_seq (rg_wp (hu_r2 h3 rfl rfl (decide_eq_true (by omega)) fun a4 h4=> ?_))
  refine wp_seq (wpn (h4.look 17 rfl) ?_)
  obtain⟨n,hn⟩: ∃n,bx[i]? =some n:=⟨bx[i],by simp[hlt]⟩
  have hno:=hbn n (List.mem_of_getElem? hn)
  have hp3:PathAt w3 (fun x=>x<w.heap.size) pa (zBx bx):=hp.keep (fun x _ hl=>hbw.block x hl) (fun x _ hl=>hl)
  obtain⟨q,o,rfl,_,hc⟩:=hp3.get (j:=i) (x:=(n:Int)) (by simp[zBx,hn])
  refine wp_seq (wp_block ?_)
  refine wp_seq (rg_wp (hu_r3 (o:=(n:Int)) h4 rfl rfl (fun w=>ix_int hlt w) (lds1 Tryz.underlying3 rfl (by rw[Nat.mul_one];exact hc)) fun a5 h5=> ?_))
  refine wp_seq (rg_wp (hu_r4 h5 rfl rfl hx3.hp.lm (hx3.lookup (by omega)) (as_box pt T n) fun a6 h6=> ?_))
  have htk:bx.take (i+1)=bx.take i++[n]:=by rw[List.take_add_one,hn];rfl
  by_cases hk:isBox (tget T n)=true
  ·rw[hk] at h6
   refine wp_seq (rg_wp (hu_r5 h6 rfl fun a7 h7=>wpc_off (h7.look 31 rfl) (block_norm ?_)))
   show Code.wp _ (r_hu 7) _ a7 w3
   refine wpl (rg_wp (hu_r7 h7 rfl (by omega) fun a8 h8=>⟨⟨i+1,hlt, ?_,hb3, ?_⟩, ?_⟩))
   ·exact h8.to ⟨rfl,rfl,rfl,rfl,rfl,rfl,rfl,rfl,rfl,trivial⟩
   ·rw[htk]
    unfold allBox at hall ⊢
    rw[List.all_append,hall]
    simp[hk]
   ·rw[h8.look 16 rfl]
    show muTo bx.length (.int .i64 ((i+1:Nat):Int))<_
    rw[muTo_int]
    omega
  ·have hk':isBox (tget T n)=false:=by simpa using hk
   rw[hk'] at h6
   have hno:allBox T bx=false:=by
    unfold allBox
    rw[List.all_eq_false]
    exact⟨n,List.mem_of_getElem? hn,by simp[hk']⟩
   refine wp_seq (rg_wp (hu_r5 h6 rfl fun a7 h7=>wp_cond_true (h7.look 31 rfl) ?_))
   refine wp_seq (rg_wp (hu_r6 (C0:=fun _ u=>Below w3.heap.size w3 u) h7 rfl (hwrong_any 1 w3) (fun y u hu=>dat_store (d:=Fd.nil.dt) (m:=dm0) (hZ3.below hu (by omega)) (by show 0+11<=11;omega)) fun a8 y u hu h8=>wp_ret ?_))
   repeat (first | with_reducible refine then_ret ?_ | with_reducible refine block_ret ?_)
   have hZ4:=fill_zA Fd.nil.dt dm0 (hZ3.below hu (by omega))
   have hZ5:Lds Tryz.prog datT (.pointer (some ⟨w.heap.size,0,none⟩)) (.agg (Fd.nil.dt.cs dm0)) _:=dat_load hZ4 rfl
   refine ret_ct rfl h8 rfl rfl hZ5 ?_
   rw[hno]
   exact⟨⟨_,rfl⟩,HQ.same ⟨bm,pt,own,h⟩ (below_setCells (Fd.nil.dt.cs dm0).toList 0 u (bl_trans hbw hu) (Nat.le_refl _))⟩
 ·refine wp_seq (rg_wp (hu_r2 h3 rfl rfl (decide_eq_false (by omega)) fun a4 h4=> ?_))
  refine wp_seq (wpc_exit (h4.look 17 rfl) ?_)
  refine then_exit' (then_exit' (in_block2 ?_))
  obtain rfl:i=bx.length:=by omega
  rw[List.take_length] at hall
  have hr3:RowX w3 (fun x=>x<w.heap.size) ia [b]:=hr.keep (fun x _ hl=>hbw.block x hl) (fun x _ hl=>hl)
  refine wp_seq (wp_seq (rg_wp (hu_r8_f (sn:=1) (C0:=fun u=>Below w3.heap.size w3 u) h4 rfl rfl (decide_eq_false (by omega)) (hall_any [b] (by simp[hb]) (by simp) ia ic hr3 (hown.old hbw)) fun a5 u hu h5=>wpc_off (h5.look 41 rfl) ?_)))
  have hzu:=hu.size
  have hbu:=bl_trans hbw hu
  have hZu:=hZ3.below hu (by omega)
  have hpu:PathAt u (fun x=>x<w.heap.size) pa (zBx bx):=hp.keep (fun x _ hl=>hbu.block x hl) (fun x _ hl=>hl)
  have hru:RowX u (fun x=>x<w.heap.size) ia [b]:=hr.keep (fun x _ hl=>hbu.block x hl) (fun x _ hl=>hl)
  have hcl:=zclone_any hpu pc (by simp[zBx];omega)
  rw[show(zBx bx).length=bx.length by simp[zBx]] at hcl
  refine wp_seq (rg_wp (hu_r10 (sn:=1) (C0:=fun p v=>ZRow v u.heap.size p (zBx bx)/\Below u.heap.size u v) (C1:=fun v1 q v=>RowN v1.heap.size v q [b]/\Below v1.heap.size v1 v)
   (C2:=fun y v=>y=((Fd.ref 5 (last+1)).dt,dm0)/\HQ B u v gh O (last+1) (T++[(last+1,.fn c (zBx bx) b)])/\Moved O u v) h5 rfl rfl rfl rfl rfl hcl (fun p v hp=> ?_) (fun p v hp q v2 hq=> ?_) (fun p v hp q v2 hq y v3 hy=>dat_store ((hy.2.2.block _ (by omega) fun e=>by have:=(h.lim _ e).2;omega).trans hZu) (by show 0+11<=11;omega)) fun a6 p v q v2 y v3 hp hq hy h6=>wp_ret ?_))
  ·refine(twins_x [b] (by simp) ia ic v (hru.keep (fun x _ hl=>hp.2.block x hl) (fun x hx _=>hx))).mono ?_
   rintro e v2 ⟨s,r1,r2,_,r3⟩
   exact⟨s,r1,r2,r3⟩
  ·obtain⟨hZp,hbv⟩:=hp
   obtain⟨hs,hbv2⟩:=hq
   obtain⟨q1,q2,q3,q4⟩:=RowN.row hs
   obtain⟨p1,p2,p3,p4⟩:=ZRow.path hZp
   rw[show(zBx bx).length=bx.length by simp[zBx]] at p2 p3
   have hzv:=hbv.size
   have hzv2:=hbv2.size
   have hba:=bl_alloc (Below.refl v2.heap.size v2) (.cells #[.int .i64 (c:Int),.slice p.d p.n p.c,.slice q.d q.n q.c] fnT)
   have hN:NewT B (v2.alloc (.cells #[.int .i64 (c:Int),.slice p.d p.n p.c,.slice q.d q.n q.c] fnT)) O (fun x=>u.heap.size<=x/\x<v2.heap.size+1) v2.heap.size (.fn c (zBx bx) b):=
    ⟨fun x hx=>⟨by omega,by simp;exact hx.2,fun e=>by have:=(h.lim _ e).2;omega⟩,⟨by omega,Nat.lt_succ_self _⟩,p.d,p.c,q.d,q.c,by
     rw[show(zBx bx).length=bx.length by simp[zBx],p2,q2]
     exact Blk.new _ _ _,p1.keep (fun x hx hl=>(hba.block x (by omega)).trans (hbv2.block x hl)) (fun x hx hl=>⟨hx.1,by omega⟩),by rw[show(zBx bx).length=bx.length by simp[zBx]];exact p3,p4,q1.keep (fun x _ hl=>hba.block x hl) (fun x hx hl=>⟨by omega,by omega⟩),q3,q4⟩
   have hx:=h.old (bl_trans hbu (bl_trans hbv (bl_alloc hbv2 (.cells #[.int .i64 (c:Int),.slice p.d p.n p.c,.slice q.d q.n q.c] fnT))))
   refine(hleadsS hx hl hN ⟨hdX 7 ⟨#[102,117,110,99]⟩ 0 0 0,.nil⟩ dm0).mono ?_
   rintro e v3 ⟨r1,r2,r3⟩
   have hb2:=bl_trans hbv (bl_alloc hbv2 (.cells #[.int .i64 (c:Int),.slice p.d p.n p.c,.slice q.d q.n q.c] fnT))
   exact⟨((Fd.ref 5 (last+1)).dt,dm0),r1,rfl,HQ.made hb2 r2 r3 (fun x hx=>hx.1),(Moved.of_below hb2).trans (r3.more fun _ h=>.inl h)⟩
  ·obtain⟨rfl,hQ,hM⟩:=hy
   have hZ4:Blk v3 w.heap.size datT zA:=(hM.block _ (by omega) fun e=>by have:=(h.lim _ e).2;omega).trans hZu
   have hZ5:Lds Tryz.prog datT (.pointer (some ⟨w.heap.size,0,none⟩)) (.agg ((Fd.ref 5 (last+1)).dt.cs dm0)) _:=dat_load (fill_zA (Fd.ref 5 (last+1)).dt dm0 hZ4) rfl
   refine ret_ct rfl h6 rfl rfl hZ5 ?_
   rw[hall]
   exact⟨⟨_,rfl⟩,HQ.fin hbu hQ (by omega) (by omega) (fun b hb=>(h.lim b hb).2) _ _⟩
end Go.Proofs.YtbjegfpfmnleeaaGreatDoor

namespace Go.Proofs.YtbjegfpfmnleeaaGreatDoor
open Go.RowKit Go.Maps
set_option maxRecDepth 100000
variable {B:Nat} {w:World} {gh:Nat} {O:Nat->Prop} {last:Nat} {T:Tm} {bm:Nat} {pt:Nat->Nat} {own:Nat->Nat->Prop}
theorem fold_get: ∀(vs:List Value) (cs:Array Value) (o j:Nat),(vs.foldl (fun(p:Array Value×Nat) v=>(p.1.setIfInBounds p.2 v,p.2+1)) (cs,o)).1[j]? =if o<=j/\j<o+vs.length/\j<cs.size then vs[j-o]? else cs[j]?
 | [],cs,o,j=>by
  rw[if_neg (by simp;omega)]
  rfl
 | v::r,cs,o,j=>by
  rw[List.foldl_cons,fold_get r _ (o+1) j]
  simp only[Array.size_setIfInBounds,List.length_cons]
  by_cases h1:o+1<=j/\j<o+1+r.length/\j<cs.size
  ·rw[if_pos h1,if_pos (by omega)]
   have:j-o=(j-(o+1))+1:=by omega
   rw[this,List.getElem?_cons_succ]
  ·rw[if_neg h1]
   by_cases h2:j=o
   ·subst h2
    by_cases h3:j<cs.size
    ·rw[if_pos (by omega),Nat.sub_self,Array.getElem?_setIfInBounds_self_of_lt h3]
     rfl
    ·rw[if_neg (by omega),Array.getElem?_eq_none (by simp;omega),Array.getElem?_eq_none (by omega)]
   ·rw[Array.getElem?_setIfInBounds_ne (Ne.symm h2),if_neg (by omega)]
theorem fold_full{vs:List Value}{cs:Array Value}(h:vs.length=cs.size):(vs.foldl (fun(p:Array Value×Nat) v=>(p.1.setIfInBounds p.2 v,p.2+1)) (cs,0)).1=vs.toArray:=by
 apply Array.ext_getElem?
 intro j
 rw[fold_get]
 by_cases hj:j<cs.size
 ·rw[if_pos (by omega)]
  simp
 ·rw[if_neg (by omega),Array.getElem?_eq_none (by omega),Array.getElem?_eq_none (by simp;omega)]
theorem take_get{l:List Value}{o n:Nat}{vs:List Value}(hv:vs.length=n)(h: ∀j,j<n->l[o+j]? =vs[j]?):(l.drop o).take n=vs:=by
 apply List.ext_getElem?
 intro j
 by_cases hj:j<n
 ·rw[List.getElem?_take_of_lt hj,List.getElem?_drop,h j hj]
 ·rw[List.getElem?_take_eq_none (by omega),List.getElem?_eq_none (by omega)]
theorem x_len(x:Fd):(x.dt.cs dm0).toList.length=11:=by simp[Dt.cs,Hd.cells]
theorem cells_same{cs:Array Value}{vs:List Value}{o:Nat}(hv:vs.length=11)(ho:o+11<=cs.size):((vs.foldl (fun(p:Array Value×Nat) v=>(p.1.setIfInBounds p.2 v,p.2+1)) (cs,o)).1.toList.drop o).take 11=vs:=
 take_get hv fun k hk=>by
  rw[Array.getElem?_toList,fold_get,hv,if_pos (by omega),Nat.add_sub_cancel_left]
theorem cells_far{cs:Array Value}{vs us:List Value}{o q:Nat}(hv:vs.length=11)(hu:us.length=11)(hne:o+11<=q\/q+11<=o)(h:(cs.toList.drop q).take 11=us):((vs.foldl (fun(p:Array Value×Nat) v=>(p.1.setIfInBounds p.2 v,p.2+1)) (cs,o)).1.toList.drop q).take 11=us:=
 take_get hu fun k hk=>by
  have h2:((cs.toList.drop q).take 11)[k]? =us[k]? :=by rw[h]
  rw[List.getElem?_take_of_lt hk,List.getElem?_drop,Array.getElem?_toList] at h2
  rw[Array.getElem?_toList,fold_get,hv,if_neg (by omega),h2]
theorem RowX.set{q:Nat}{cs:Array Value}{xs:List Fd}(hB:Blk w q datT cs)(hl:xs.length*11<=cs.size)(hx: ∀j x,xs[j]? =some x->(cs.toList.drop (j*11)).take 11=(x.dt.cs dm0).toList){i:Nat}(hi:i<xs.length)(y:Fd){S:Nat->Prop}(hS:S q):RowX (w.setCells q (i*11) (y.dt.cs dm0).toList) S (some ⟨q,0,none⟩) (xs.set i y):=by
 obtain⟨vy,hvy⟩: ∃vy,vy=(y.dt.cs dm0).toList:=⟨_,rfl⟩
 have hly:vy.length=11:=by rw[hvy];exact x_len y
 rw[<-hvy]
 have hB':=Blk.setL vy (i*11) _ _ hB
 have him:=Nat.mul_le_mul_right 11 (show i+1<=xs.length from hi)
 refine .inr ⟨q,_,rfl,hS,hB',by rw[List.length_set,foldSet_size];exact hl,fun j x hj=> ?_⟩
 by_cases hij:i=j
 ·subst hij
  rw[List.getElem?_set_self hi] at hj
  injection hj with hj
  subst hj
  rw[<-hvy]
  exact cells_same hly (by omega)
 ·rw[List.getElem?_set_ne hij] at hj
  refine cells_far hly (x_len x) ?_ (hx j x hj)
  rcases Nat.lt_or_ge i j with h | h
  ·have:=Nat.mul_le_mul_right 11 (show i+1<=j from h)
   omega
  ·have:=Nat.mul_le_mul_right 11 (show j+1<=i by omega)
   omega
theorem sl_three{q c:Nat}(hc:2<=c)(w:World):(Instr.sliceAt 23 (.slice (some ⟨q,0,none⟩) 2 c) (some (.int .i64 0)) (some (.int .i64 2)) (some (.int .i64 2))).run Tryz.prog w=.ok (.slice (some ⟨q,0,none⟩) 2 2) w:=by
 obtain⟨i,hi1,hi2⟩:=Option.map_eq_some_iff.1 datInf
 have ht:Tryz.prog.underlying 23=some (.slice (Tryz.prog.elem 23)):=by kernel_rfl
 have he:Tryz.prog.elem 23=datT:=by kernel_rfl
 rw[run_sliceAt_slice _ _ _ _ _ _ ht,run_slice_lhm _ _ _ _ _ ht _ _ _ _ _ _ (by omega) (by omega) (by omega) (by omega)]
 simp[sizeOf,typeInfo,he,hi1,Result.andThen,sliced,add_j]
theorem hpiece_any(h:HSx B w gh O last T bm pt own){o:Nat}(ho:o<=2147483647){a b:Fd}(ht:tget T o=some (.arr a b)){ia:Option Addr}{ic:Nat}(hb:Blk w (pt o) arrT #[.slice ia 2 ic])(hr: ∃q,ia=some ⟨q,0,none⟩)(hc:2<=ic):
  Calls Tryz.prog 69 #[.pointer (some ⟨gh,0,none⟩),.agg ((Fd.ref 2 o).dt.cs dm0)] w fun e w'=>e=.returned (.slice ia 2 2)/\Below w.heap.size w w':=by
 refine calls_ev (vs:=[.pointer (some ⟨gh,0,none⟩),.agg ((Fd.ref 2 o).dt.cs dm0)]) 41 Tryz.func69 hx_body (by kernel_rfl) (by simp) fun a0 h0=> ?_
 unfold hxBody
 refine wp_seq (rg_wp (hx_r0 h0 rfl fun a1 h1=> ?_))
 have hA:=Blk.new w datT ((Fd.ref 2 o).dt.cs dm0)
 have hb1:Below w.heap.size w (w.alloc (.cells ((Fd.ref 2 o).dt.cs dm0) datT)):=bl_alloc (Below.refl _ _) _
 change Code.wp _ _ _ a1 (w.alloc (.cells ((Fd.ref 2 o).dt.cs dm0) datT))
 generalize w.alloc (.cells ((Fd.ref 2 o).dt.cs dm0) datT)=w1 at hA hb1 ⊢
 have h1x:=h.old hb1
 have has:=as_arr pt T o
 rw[ht] at has
 refine wp_seq (rg_wp (hx_r1 (o:=(o:Int)) (b:=true) (p:=some ⟨pt o,0,none⟩) h1 rfl rfl h1x.hp.lm (one_load hA Tryz.underlying3 rfl rfl) (h1x.lookup (by omega)) has fun a2 mm h2=> ?_))
 have hbd:Below w1.heap.size w1 (w1.drewN mm):=below_drewN (Below.refl _ _) mm
 change Code.wp _ _ _ a2 (w1.drewN mm)
 generalize w1.drewN mm=w2 at hbd ⊢
 have hA2:=hA.below hbd hA.lt
 have hb2:=bl_trans hb1 hbd
 refine wp_seq (wp_seq (rg_wp (hx_r2 h2 rfl fun a3 h3=>wpc_off (h3.look 22 rfl) ?_)))
 refine wp_seq (rg_wp (hx_r4 (fr:=0) (cp:=2) h3 rfl (one_load hA2 Tryz.underlying3 rfl rfl) (one_load hA2 Tryz.underlying3 rfl rfl) (by omega) fun a4 m4 h4=> ?_))
 have hbd4:Below w2.heap.size w2 (w2.drewN m4):=below_drewN (Below.refl _ _) m4
 change Code.wp _ _ _ a4 (w2.drewN m4)
 generalize w2.drewN m4=w4 at hbd4 ⊢
 have hb4:=bl_trans hb2 hbd4
 obtain⟨q,rfl⟩:=hr
 refine wp_seq (rg_wp (hx_r5 (an:=2) (xn:=2) (xc:=2) h4 rfl rfl rfl (one_load (hb.below hb4 hb.lt) Tryz.underlying23 rfl rfl) (fun w=>sl_three hc w) fun a5 h5=>wp_ret ?_))
 exact ret1 rfl h5 rfl ⟨rfl,hb4⟩
def putT(T:Tm)(x y:Fd):Tm:=match x with
 | .ref 2 o=>match tget T o with
  | some (.arr _ b)=>tset T o (.arr y b)
  | _=>T
 | _=>T
theorem may_list{x:Fd}(h:(decide (x.h.kind=5)&&fitsB T x)=true)(hx:x.ok): ∃o a b,x=.ref 2 o/\tget T o=some (.arr a b):=by
 simp only[Bool.and_eq_true,decide_eq_true_eq] at h
 obtain⟨h1,h2⟩:=h
 cases x with
 | nil=>exact absurd h1 (by decide)
 | num n=>exact absurd h1 (by show ¬(2:Int)=5;decide)
 | ref k o=>
  rw[fd_kind] at h1
  have hk:k=2:=by
   by_cases e1:k=1
   ·rw[if_pos e1] at h1;omega
   ·rw[if_neg e1] at h1
    by_cases e2:k=2
    ·exact e2
    ·rw[if_neg e2] at h1
     split at h1<;>omega
  subst hk
  rw[show fitsB T (.ref 2 o)=fitK 2 (tget T o) from rfl] at h2
  cases hg:tget T o with
  | none=>rw[hg] at h2;cases h2
  | some t=>
   rw[hg] at h2
   cases t with
   | arr a b=>exact⟨o,a,b,rfl,hg⟩
   | obj a b=>simp[fitK] at h2
   | tab E=>simp[fitK] at h2
   | box a=>simp[fitK] at h2
   | fn c bx b=>simp[fitK] at h2
theorem put_no{x y:Fd}(h:(decide (x.h.kind=5)&&fitsB T x)=false):putT T x y=T:=by
 unfold putT
 split
 ·rename_i o
  split
  ·rename_i a b hg
   rw[show fitsB T (.ref 2 o)=fitK 2 (tget T o) from rfl,hg] at h
   simp[fitK,fd_kind] at h
  ·rfl
 ·rfl
set_option maxHeartbeats 1000000 in
theorem hPut_any(h:HSx B w gh O last T bm pt own)(hown:OwnAt w){x y:Fd}(hx:x.ok)(hy:y.ok):
  Calls Tryz.prog 45 #[.pointer (some ⟨gh,0,none⟩),.agg (x.dt.cs dm0),.int .i64 0,.agg (y.dt.cs dm0)] w fun e w'=>(∃v,e=.returned v)/\HQ B w w' gh O last (putT T x y):=by
 refine calls_ev (vs:=[.pointer (some ⟨gh,0,none⟩),.agg (x.dt.cs dm0),.int .i64 0,.agg (y.dt.cs dm0)]) 40 Tryz.func45 he_body (by kernel_rfl) (by simp) fun a0 h0=> ?_
 unfold heBody
 refine wp_seq (rg_wp (he_r0 h0 rfl rfl fun a1 h1=> ?_))
 have hA:=(Blk.new w datT (x.dt.cs dm0)).alloc (.cells (y.dt.cs dm0) datT)
 have hY:=Blk.new (w.alloc (.cells (x.dt.cs dm0) datT)) datT (y.dt.cs dm0)
 have hb1:Below w.heap.size w ((w.alloc (.cells (x.dt.cs dm0) datT)).alloc (.cells (y.dt.cs dm0) datT)):=bl_alloc (bl_alloc (Below.refl _ _) _) _
 have e1:(w.alloc (.cells (x.dt.cs dm0) datT)).heap.size=w.heap.size+1:=by simp
 rw[e1] at h1 hY
 change Code.wp _ _ _ a1 ((w.alloc (.cells (x.dt.cs dm0) datT)).alloc (.cells (y.dt.cs dm0) datT))
 generalize (w.alloc (.cells (x.dt.cs dm0) datT)).alloc (.cells (y.dt.cs dm0) datT)=w1 at hA hY hb1 ⊢
 have hzA:=hA.lt
 have hzY:=hY.lt
 have h1x:=h.old hb1
 have hmay:=hmay_any h1x (hown.old hb1) hx 5
 cases hq:(decide (x.h.kind=5)&&fitsB T x) with
 | false=>
  rw[hq] at hmay
  rw[put_no hq]
  refine wp_seq (wp_seq (rg_wp (he_r1f (C0:=fun u=>Below w1.heap.size w1 u) h1 rfl rfl (dat_load hA rfl) hmay fun a2 u hu h2=>wp_cond_true (h2.look 17 rfl) ?_)))
  refine wp_seq (rg_wp (he_r2 (C0:=fun _ v=>Below u.heap.size u v) h2 (hwrong_any 1 u) fun a3 z v hv h3=>wp_ret ?_))
  exact then_ret (ret1 rfl h3 rfl ⟨⟨_,rfl⟩,HQ.same ⟨bm,pt,own,h⟩ (bl_trans (bl_trans hb1 hu) hv)⟩)
 | true=>
  rw[hq] at hmay
  obtain⟨o,a,b,rfl,hg⟩:=may_list hq hx
  have hR: ∀u,Below w1.heap.size w1 u->Calls Tryz.prog 65 #[.agg (y.dt.cs dm0)] u fun e w'=>e=.returned (.bool true)/\Below u.heap.size u w':=fun u hu=>by
   have:=vRight (fd_ok y hy) (fd_at y u fun _=>False) ((hown.old hb1).old hu)
   rw[fd_right y hy] at this
   exact this
  refine wp_seq (wp_seq (rg_wp (he_r1t (C0:=fun u=>Below w1.heap.size w1 u) (C1:=fun u=>Below w1.heap.size w1 u) h1 rfl rfl rfl (dat_load hA rfl) hmay (fun u hu=>dat_load (hY.below hu hzY) rfl) (fun u hu=>(hR u hu).mono fun e v hh=>⟨hh.1,bl_trans hu hh.2⟩) fun a2 u v hu hv h2=>wpc_off (h2.look 17 rfl) ?_)))
  have hbv:=bl_trans hb1 hv
  have hzv:=hv.size
  have hAv:=hA.below hv hzA
  have hYv:=hY.below hv hzY
  refine wp_seq (wp_seq (rg_wp (he_r3_f (ln:=2) (b26:=false) h2 rfl rfl (by decide) (one_load hAv Tryz.underlying3 rfl rfl) (by decide) fun a3 h3=>wpc_off (h3.look 27 rfl) ?_)))
  have hvx:=h.old hbv
  have hm:=tget_mem hg
  obtain⟨hth,hpo⟩:=hvx.th o _ hm
  obtain⟨ia,ic,t1,t2,t3,t4⟩:=hth
  obtain⟨q,cs,rfl,hqo,hqb,hql,hqx⟩: ∃q cs,ia=some ⟨q,0,none⟩/\own o q/\Blk v q datT cs/\[a,b].length*11<=cs.size/\∀j x,[a,b][j]? =some x->(cs.toList.drop (j*11)).take 11=(x.dt.cs dm0).toList:=by
   rcases t2 with e | e
   ·cases e
   ·exact e
  have hd:Below v.heap.size v (v.drewN 1):=below_drewN (Below.refl _ _) 1
  have hdx:=hvx.old hd
  refine wp_seq (rg_wp (he_r5 (xn:=2) (xc:=2) (ix:=0) (g39:=q) (o39:=0) (C:=fun u=>Below v.heap.size v u) (C0:=fun u=>Below v.heap.size v u) (C1:=fun m u=>m=dm0/\Below v.heap.size v u) h3 rfl rfl rfl rfl hd (fun u hu=>dat_load (hAv.below hu (by omega)) rfl) (fun u hu=>dat_load (hYv.below hu (by omega)) rfl)
   ((hpiece_any hdx hx.2 hg (t1.below hd t1.lt) ⟨q,rfl⟩ t3).mono fun e u hh=>⟨hh.1,bl_trans hd hh.2⟩) (fun u hu=>hu) (fun u hu=>(twin_x y u).mono fun e u2 hh=>⟨dm0,hh.1,rfl,bl_trans hu hh.2⟩) (fun u hu m u2 hm=>hm.2) (fun w=>ix_row (j:=0) (by omega) w) (fun u hu m u2 hm=> ?_) fun a4 u m u2 hu hm h4=> ?_))
  ·obtain⟨rfl,hm2⟩:=hm
   exact dat_store (hqb.below hm2 hqb.lt) (by show 0+11<=cs.size;simp only[List.length_cons,List.length_nil] at hql;omega)
  ·obtain⟨rfl,hm2⟩:=hm
   have hx2:=hvx.old hm2
   have hzm:=hm2.size
   have hlq:=hqb.lt
   have hl2:=(h.lim q (h.sub o q hqo).1).2
   have hset:RowX (u2.setCells q 0 (y.dt.cs dm0).toList) (own o) (some ⟨q,0,none⟩) [y,b]:=RowX.set (w:=u2) (xs:=[a,b]) (i:=0) (hqb.below hm2 hlq) hql hqx (by simp) y hqo
   have hMs:Moved (own o) u2 (u2.setCells q 0 (y.dt.cs dm0).toList):=(Moved.of_below (Below.refl _ _)).set (.inl hqo) _ _
   have hpq:pt o≠q:=fun e=>by
    have h1:=t1
    have h2:=hqb
    rw[e] at h1
    unfold Blk at h1 h2
    rw[h1] at h2
    injection h2 with h2
    injection h2 with _ h2
    exact absurd h2 (by decide)
   refine wp_seq (rg_wp (he_r6 h4 fun a5 h5=>wp_ret ?_))
   refine ret1 rfl h5 rfl ⟨⟨_,rfl⟩, ?_⟩
   have hQ:=hx2.upd hm hMs (th:=.arr y b) rfl ⟨_,ic,(setCells_other _ _ _ hpq).trans (t1.below hm2 t1.lt),hset.keep (fun _ _ _=>rfl) (fun b hb _=>.inl hb),t3,t4⟩
   have e:putT T (.ref 2 o) y=tset T o (.arr y b):=by unfold putT;simp only[hg]
   rw[e]
   exact HQ.pre (bl_trans hbv hm2) hQ
end Go.Proofs.YtbjegfpfmnleeaaGreatDoor

namespace Go.Proofs.YtbjegfpfmnleeaaGreatDoor
open Go.RowKit Go.Maps
set_option maxRecDepth 100000
variable {B:Nat} {w:World} {gh:Nat} {O:Nat->Prop} {last:Nat} {T:Tm} {bm:Nat} {pt:Nat->Nat} {own:Nat->Nat->Prop}
theorem fill_full{g:Nat}{t:TypeId}{cs:Array Value}(d:Dt)(m:Dm)(h:Blk w g t cs)(hc:cs.size=11):Blk (w.setCells g 0 (d.cs m).toList) g t (d.cs m):=by
 have:=Blk.setL (d.cs m).toList 0 _ _ h
 rw[fold_full (by rw[hc];rfl)] at this
 exact this
def setTn(T:Tm)(n:Nat)(y:Fd):Tm:=match tget T n with
 | some (.box _)=>tset T n (.box y)
 | _=>T
theorem hSet_any(h:HSx B w gh O last T bm pt own)(hown:OwnAt w){n:Nat}(hn:n<=1000000){y:Fd}(hy:y.ok):
  Calls Tryz.prog 47 #[.pointer (some ⟨gh,0,none⟩),.int .i64 (n:Int),.agg (y.dt.cs dm0)] w fun e w'=>(∃b,e=.returned (.bool b))/\HQ B w w' gh O last (setTn T n y):=by
 refine calls_ev (vs:=[.pointer (some ⟨gh,0,none⟩),.int .i64 (n:Int),.agg (y.dt.cs dm0)]) 31 Tryz.func47 hs_body (by kernel_rfl) (by simp) fun a0 h0=> ?_
 unfold hsBody
 refine wp_seq (rg_wp (hs_r0 h0 rfl fun a1 h1=> ?_))
 have hA:=Blk.new w datT (y.dt.cs dm0)
 have hb1:Below w.heap.size w (w.alloc (.cells (y.dt.cs dm0) datT)):=bl_alloc (Below.refl _ _) _
 change Code.wp _ _ _ a1 (w.alloc (.cells (y.dt.cs dm0) datT))
 generalize w.alloc (.cells (y.dt.cs dm0) datT)=w1 at hA hb1 ⊢
 have hzA:=hA.lt
 have h1x:=h.old hb1
 refine wp_seq (rg_wp (hs_r1 h1 rfl rfl h1x.hp.lm (h1x.lookup (by omega)) (as_box pt T n) fun a2 h2=> ?_))
 by_cases hk:isBox (tget T n)=true
 ·obtain⟨a,hg⟩: ∃a,tget T n=some (.box a):=by
   cases hg:tget T n with
   | none=>rw[hg] at hk;cases hk
   | some t=>cases t with
    | box a=>exact⟨a,rfl⟩
    | obj a b=>rw[hg] at hk;cases hk
    | arr a b=>rw[hg] at hk;cases hk
    | tab E=>rw[hg] at hk;cases hk
    | fn c bx b=>rw[hg] at hk;cases hk
  rw[hg] at h2
  have hR:=vRight (fd_ok y hy) (fd_at y w1 fun _=>False) (hown.old hb1)
  rw[fd_right y hy] at hR
  refine wp_seq (wp_seq (rg_wp (hs_r2_t (C0:=fun u=>Below w1.heap.size w1 u) h2 rfl rfl (dat_load hA rfl) hR fun a3 u hu h3=>wpc_off (h3.look 25 rfl) ?_)))
  have hbu:=bl_trans hb1 hu
  have hxu:=h.old hbu
  have hm:=tget_mem hg
  obtain⟨hth,hpo⟩:=hxu.th n _ hm
  change Blk u (pt n) boxT (a.dt.cs dm0) at hth
  refine wp_seq (rg_wp (hs_r4 (d:=y.dt) (m:=dm0) (g7:=pt n) (C0:=fun m v=>m=dm0/\Below u.heap.size u v) h3 rfl rfl (dat_load (hA.below hu hzA) rfl) ((twin_x y u).mono fun e v hh=>⟨dm0,hh.1,rfl,hh.2⟩) (fun m v hm=> ?_) fun a4 m v hv h4=> ?_))
  ·obtain⟨rfl,hm2⟩:=hm
   exact dat_store (hth.below hm2 hth.lt) (by show 0+11<=11;omega)
  ·obtain⟨rfl,hv2⟩:=hv
   have hx2:=hxu.old hv2
   refine wp_seq (rg_wp (hs_r5 h4 fun a5 h5=>wp_ret ?_))
   refine ret1 rfl h5 rfl ⟨⟨_,rfl⟩, ?_⟩
   have hMs:Moved (own n) v (v.setCells (pt n) 0 (y.dt.cs dm0).toList):=(Moved.of_below (Below.refl _ _)).set (.inl hpo) _ _
   have hQ:=hx2.upd hm hMs (th:=.box y) rfl (fill_full y.dt dm0 (hth.below hv2 hth.lt) rfl)
   have e:setTn T n y=tset T n (.box y):=by unfold setTn;simp only[hg]
   rw[e]
   exact HQ.pre (bl_trans hbu hv2) hQ
 ·have hk':isBox (tget T n)=false:=by simpa using hk
  rw[hk'] at h2
  refine wp_seq (wp_seq (rg_wp (hs_r2_f h2 rfl fun a3 h3=>wp_cond_true (h3.look 25 rfl) ?_)))
  refine wp_seq (rg_wp (hs_r3 h3 fun a4 h4=>wp_ret ?_))
  have e:setTn T n y=T:=by
   unfold setTn
   cases hg:tget T n with
   | none=>rfl
   | some t=>cases t with
    | box a=>rw[hg] at hk;exact absurd rfl hk
    | obj a b=>rfl
    | arr a b=>rfl
    | tab E=>rfl
    | fn c bx b=>rfl
  rw[e]
  exact then_ret (ret1 rfl h4 rfl ⟨⟨_,rfl⟩,HQ.same ⟨bm,pt,own,h⟩ hb1⟩)
theorem hFreeS(h:HSx B w gh O last T bm pt own){n:Nat}(hn:n<=1000000):
  Calls Tryz.prog 36 #[.pointer (some ⟨gh,0,none⟩),.int .i64 (n:Int)] w fun e w'=>e=.returned (.bool (tget T n).isSome)/\HQ B w w' gh O last (tdel T n):=by
 refine(hfree_any h.hp (k:=(n:Int)) (by omega)).mono ?_
 rintro e w' ⟨h1,h2,h3⟩
 rw[im_get] at h1
 refine⟨by rw[h1,Option.isSome_map],O,h.less h2 h3,h3.more fun b hb=>by rw[hb];exact h.base.2,fun _ h=>h,fun _ h=>.inl h⟩
def eqF(a b:Fd):Bool:=eqO a.dt b.dt
def tput(k v:Fd):List (Fd×Fd)->Option (List (Fd×Fd))
 | []=>none
 | p::r=>if eqF p.1 k then some ((p.1,v)::r) else(tput k v r).map (p:: ·)
def layE(E:List (Fd×Fd))(k v:Fd):List (Fd×Fd):=(tput k v E).getD ((k,v)::E)
theorem svE_same{g:Nat}{v:Dt}{R:List En}(h: ∀e,e∈R->e.g≠g):R.map (svE g v)=R:=by
 have:R.map (svE g v)=R.map id:=List.map_congr_left fun e he=>by unfold svE;rw[if_neg (h e he)];rfl
 rw[this,List.map_id]
theorem put_rel{k v:Fd}: ∀(R:List En) (E:List (Fd×Fd)),R.map kvE=E.map kvF->(R.map (·.g)).Nodup->(∀e,e∈R->eqO e.key k.dt=true->(e.hash==hV k.dt)=true)->
  (match fE R k.dt with | some x=> ∃E',tput k v E=some E'/\(R.map (svE x.g v.dt)).map kvE=E'.map kvF | none=>tput k v E=none)
 | [],[],_,_,_=>rfl
 | [],_::_,h,_,_=>by simp at h
 | _::_,[],h,_,_=>by simp at h
 | e::R,p::E,h,hn,hh=>by
  simp only[List.map_cons,List.cons.injEq] at h
  obtain⟨h1,h2⟩:=h
  rw[List.map_cons,List.nodup_cons] at hn
  have ek:e.key=p.1.dt:=congrArg Prod.fst h1
  have ev:e.val=p.2.dt:=congrArg Prod.snd h1
  have hp:(e.hash==hV k.dt&&eqO e.key k.dt)=eqF p.1 k:=by
   unfold eqF
   rw[<-ek]
   cases hq:eqO e.key k.dt with
   | false=>simp
   | true=>rw[hh e (by simp) hq];rfl
  unfold fE
  rw[List.find?_cons,hp]
  cases hq:eqF p.1 k with
  | true=>
   refine⟨(p.1,v)::E,by simp[tput,hq], ?_⟩
   show(svE e.g v.dt e::R.map (svE e.g v.dt)).map kvE=_
   rw[svE_same fun x hx hg=>hn.1 (List.mem_map.2 ⟨x,hx,hg⟩),List.map_cons,List.map_cons,h2]
   congr 1
   unfold svE
   rw[if_pos rfl]
   show(e.key,v.dt)=(p.1.dt,v.dt)
   rw[ek]
  | false=>
   have ih:=put_rel (k:=k) (v:=v) R E h2 hn.2 fun x hx=>hh x (List.mem_cons_of_mem _ hx)
   unfold fE at ih
   simp only
   cases hf:R.find? (fun e=>e.hash==hV k.dt&&eqO e.key k.dt) with
   | none=>
    rw[hf] at ih
    simp only at ih ⊢
    simp[tput,hq,ih]
   | some x=>
    rw[hf] at ih
    simp only at ih ⊢
    obtain⟨E',i1,i2⟩:=ih
    refine⟨p::E',by simp[tput,hq,i1], ?_⟩
    have hx:=List.mem_of_find?_eq_some hf
    rw[List.map_cons,List.map_cons,List.map_cons,i2]
    congr 1
    unfold svE
    rw[if_neg (fun hg=>hn.1 (List.mem_map.2 ⟨x,hx,hg.symm⟩))]
    show(e.key,e.val)=(p.1.dt,p.2.dt)
    rw[ek,ev]
theorem put_kv{k v:Fd}{R R':List En}{E:List (Fd×Fd)}(h:R.map kvE=E.map kvF)(hn:(R.map (·.g)).Nodup)(hh: ∀e,e∈R->eqO e.key k.dt=true->(e.hash==hV k.dt)=true)(hP:PutNew R k.dt v.dt R'):R'.map kvE=(layE E k v).map kvF:=by
 have:=put_rel (k:=k) (v:=v) R E h hn hh
 unfold PutNew at hP
 unfold layE
 cases hf:fE R k.dt with
 | none=>
  rw[hf] at this hP
  simp only at this hP
  obtain⟨g,rfl⟩:=hP
  rw[this]
  simp only[Option.getD_none,List.map_cons,h]
  rfl
 | some x=>
  rw[hf] at this hP
  simp only at this hP
  obtain⟨E',i1,i2⟩:=this
  rw[i1,hP]
  exact i2
theorem MapAt.keys{m:Nat}{R:List En}{D O:Nat->Prop}(h:MapAt w m R D O):(R.map (·.g)).Nodup/\∀e,e∈R->e.key.ok/\rB e.key=true/\e.hash=hV e.key:=by
 obtain⟨hb,n,H,N,b,A,n0,n1,hR,h4,h5,h6,o1,o2,o3,o4⟩:=h
 exact⟨hR.nd,fun e he=>⟨(hR.ok e he).1,(h6.right e he).1,(h6.num e he).1⟩⟩
end Go.Proofs.YtbjegfpfmnleeaaGreatDoor
