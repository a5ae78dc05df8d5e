/-
   Written by an AI agent.
-/
import Derived.Test.YtbjegfpfmnleeaaGreatDoorPk24
namespace Go.Proofs.YtbjegfpfmnleeaaGreatDoor
open Go.RowKit Go.Maps
set_option maxRecDepth 100000
variable {B:Nat} {w:World} {gh:Nat} {O:Nat->Prop} {last:Nat} {T:Tm} {bm:Nat} {pt:Nat->Nat} {own:Nat->Nat->Prop}
def MkV(B:Nat)(w:World)(gh:Nat)(O:Nat->Prop)(last:Nat)(T:Tm)(x:Fd)(e:Ending)(w':World):Prop:=(∃v,e=.returned (.tuple #[.agg (x.dt.cs dm0),v]))/\HQ B w w' gh O last T
def S1(T:Tm)(bx:List Nat):Bool:=bx.all fun n=>Mg (I6 T n)
def zBx(bx:List Nat):List Int:=bx.map fun(n:Nat)=>(n:Int)
theorem D7{q o n c:Nat}{j:Nat}(hj:j<n)(w:World):(Instr.indexAt 24 (.slice (some ⟨q,o,none⟩) n c) (ii (j:Int))).run Tryz.prog w=.ok (.pointer (some ⟨q,o+j*1,none⟩)) w:=
 J2 (o:=o) (sz:=1) j Tryz.underlying24 Zk hj w
set_option maxHeartbeats 1000000 in
theorem Uz(h:HSx B w gh O last T bm pt own)(hown:OwnAt w)(hl:last<1000){b:Fd}(hb:b.ok)(c:Nat){bx:List Nat}(hbl:bx.length<=100)(hbn: ∀n,n∈bx->n<=1000000){S S':Nat->Prop}{pa:Option Addr}{pc:Nat}(hp:PathAt w S pa (zBx bx)){ia:Option Addr}{ic:Nat}(hr:RowX w S' ia [b])(hB:B<=w.heap.size):
  Calls Tryz.prog 63 #[pT gh,ii (c:Int),.slice pa bx.length pc,.slice ia 1 ic] w
   (MkV B w gh O (if S1 T bx then last+1 else last) (if S1 T bx then T++[(last+1,.fn c (zBx bx) b)] else T) (if S1 T bx then .ref 5 (last+1) else .nil)):=by
 refine B6 (vs:=[pT gh,ii (c:Int),.slice pa bx.length pc,.slice ia 1 ic]) 57 Tryz.func63 Bk4 Zk (by simp) fun a0 h0=> ?_
 unfold Av1
 refine Zs (Ea7 h0 fun a1 h1=> ?_)
 have hZ:=Blk.new w C7 zA
 have hb1:Below w.heap.size w (w.alloc (.cells zA C7)):=B2 (Below.refl _ _) _
 change Code.wp _ _ _ a1 (w.alloc (.cells zA C7))
 generalize w.alloc (.cells zA C7)=w1 at hZ hb1 ⊢
 have hzZ:=hZ.lt
 have hz1:=hb1.size
 refine wp_seq (Zs (Ea8 h1 rfl fun a2 h2=> ?_))
 refine wp_block ?_
 refine wp_loop (fun a' wr=> ∃i:Nat,i<=bx.length/\Sl 57 a' [(16,ii (i:Int)),(15,ii (bx.length:Int)),(14,.slice pa bx.length pc),(0,pT gh),(1,ii (c:Int)),(2,.slice pa bx.length pc),(3,.slice ia 1 ic),(8,pT w.heap.size),(9,.nilIface)]/\Below w1.heap.size w1 wr/\S1 T (bx.take i)=true) (fun a' _=>G1 bx.length (F9 a' 16))
  ⟨0,Nat.zero_le _,h2.to ⟨rfl,rfl,rfl,rfl,rfl,rfl,rfl,rfl,rfl,trivial⟩,Below.refl _ _,rfl⟩ ?_
 rintro a3 w3 ⟨i,hi,h3,hb3,hall⟩
 rw[h3.look 16 rfl,B4]
 unfold Es7
 have hz3:=hb3.size
 have hbw:=A7 hb1 hb3
 have hx3:=h.old hbw
 have hZ3:=hZ.below hb3 hzZ
 by_cases hlt:i<bx.length
 ·refine Zs (Ck1 h3 rfl rfl (decide_eq_true Zo) fun a4 h4=> ?_)
  refine wp_seq (wpn (h4.look 17 rfl) ?_)
  obtain⟨n,hn⟩: ∃n,bx[i]? =some n:=⟨bx[i],by simp[hlt]⟩
  have hno:=hbn n (List.mem_of_getElem? hn)
  have hp3:PathAt w3 (fun x=>x<w.heap.size) pa (zBx bx):=hp.keep (fun x _ hl=>hbw.block x hl) (fun x _ hl=>hl)
  obtain⟨q,o,rfl,_,hc⟩:=hp3.get (j:=i) (x:=(n:Int)) (by simp[zBx,hn])
  refine wp_seq (wp_block ?_)
  refine Zs (Ea9 (o:=(n:Int)) h4 rfl rfl (fun w=>D7 hlt w) (H9 Tryz.underlying3 rfl (by rw[Nat.mul_one];exact hc)) fun a5 h5=> ?_)
  refine Zs (Eb1 h5 rfl rfl hx3.hp.lm (hx3.lookup Zo) (Aw4 pt T n) fun a6 h6=> ?_)
  have htk:bx.take (i+1)=bx.take i++[n]:=by rw[List.take_add_one,hn];rfl
  by_cases hk:Mg (I6 T n)=true
  ·rw[hk] at h6
   refine Zs (Ck2 h6 rfl fun a7 h7=>B9 (h7.look 31 rfl) (B1 ?_))
   show Code.wp _ (Ek 7) _ a7 w3
   refine Zl (Eb0 h7 rfl Zo fun a8 h8=>⟨⟨i+1,hlt, ?_,hb3, ?_⟩, ?_⟩)
   ·exact h8.to ⟨rfl,rfl,rfl,rfl,rfl,rfl,rfl,rfl,rfl,trivial⟩
   ·rw[htk]
    unfold S1 at hall ⊢
    rw[List.all_append,hall]
    simp[hk]
   ·rw[h8.look 16 rfl]
    show G1 bx.length (ii ((i+1:Nat):Int))<_
    rw[B4]
    omega
  ·have hk':Mg (I6 T n)=false:=by simpa using hk
   rw[hk'] at h6
   have hno:S1 T bx=false:=by
    unfold S1
    rw[List.all_eq_false]
    exact⟨n,List.mem_of_getElem? hn,by simp[hk']⟩
   refine Zs (Ck2 h6 rfl fun a7 h7=>wp_cond_true (h7.look 31 rfl) ?_)
   refine Zs (Eb2 (C0:=fun _ u=>Below w3.heap.size w3 u) h7 rfl (U1 1 w3) (fun y u hu=>D1 (d:=Fd.nil.dt) (m:=dm0) (hZ3.below hu Zo) (by show 0+11<=11;omega)) fun a8 y u hu h8=>wp_ret ?_)
   repeat (first | with_reducible refine D2 ?_ | with_reducible refine F1 ?_)
   have hZ4:=K1 Fd.nil.dt dm0 (hZ3.below hu Zo)
   have hZ5:Lds Tryz.prog C7 (pT w.heap.size) (.agg (Fd.nil.dt.cs dm0)) _:=C6 hZ4 rfl
   refine Kd rfl h8 rfl rfl hZ5 ?_
   rw[hno]
   exact⟨⟨_,rfl⟩,HQ.same ⟨bm,pt,own,h⟩ (C8 (Fd.nil.dt.cs dm0).toList 0 u (A7 hbw hu) (Nat.le_refl _))⟩
 ·refine Zs (Ck1 h3 rfl rfl (decide_eq_false Zo) fun a4 h4=> ?_)
  refine wp_seq (C9 (h4.look 17 rfl) ?_)
  refine A8 (A8 (B8 ?_))
  obtain rfl:i=bx.length:=by omega
  rw[List.take_length] at hall
  have hr3:RowX w3 (fun x=>x<w.heap.size) ia [b]:=hr.keep (fun x _ hl=>hbw.block x hl) (fun x _ hl=>hl)
  refine wp_seq (Zs (Bk5 (sn:=1) (C0:=fun u=>Below w3.heap.size w3 u) h4 rfl rfl (decide_eq_false Zo) (Nu [b] (by simp[hb]) (by simp) ia ic hr3 (hown.old hbw)) fun a5 u hu h5=>B9 (h5.look 41 rfl) ?_))
  have hzu:=hu.size
  have hbu:=A7 hbw hu
  have hZu:=hZ3.below hu Zo
  have hpu:PathAt u (fun x=>x<w.heap.size) pa (zBx bx):=hp.keep (fun x _ hl=>hbu.block x hl) (fun x _ hl=>hl)
  have hru:RowX u (fun x=>x<w.heap.size) ia [b]:=hr.keep (fun x _ hl=>hbu.block x hl) (fun x _ hl=>hl)
  have hcl:=Ae hpu pc (by simp[zBx];omega)
  rw[show(zBx bx).length=bx.length by simp[zBx]] at hcl
  refine Zs (Ck3 (sn:=1) (C0:=fun p v=>ZRow v u.heap.size p (zBx bx)/\Below u.heap.size u v) (C1:=fun v1 q v=>RowN v1.heap.size v q [b]/\Below v1.heap.size v1 v)
   (C2:=fun y v=>y=((Fd.ref 5 (last+1)).dt,dm0)/\HQ B u v gh O (last+1) (T++[(last+1,.fn c (zBx bx) b)])/\Moved O u v) h5 rfl rfl rfl rfl rfl hcl (fun p v hp=> ?_) (fun p v hp q v2 hq=> ?_) (fun p v hp q v2 hq y v3 hy=>D1 ((hy.2.2.block _ Zo fun e=>by have:=(h.lim _ e).2;omega).trans hZu) (by show 0+11<=11;omega)) fun a6 p v q v2 y v3 hp hq hy h6=>wp_ret ?_)
  ·refine(Ur [b] (by simp) ia ic v (hru.keep (fun x _ hl=>hp.2.block x hl) (fun x hx _=>hx))).mono ?_
   rintro e v2 ⟨s,r1,r2,_,r3⟩
   exact⟨s,r1,r2,r3⟩
  ·obtain⟨hZp,hbv⟩:=hp
   obtain⟨hs,hbv2⟩:=hq
   obtain⟨q1,q2,q3,q4⟩:=RowN.row hs
   obtain⟨p1,p2,p3,p4⟩:=ZRow.path hZp
   rw[show(zBx bx).length=bx.length by simp[zBx]] at p2 p3
   have hzv:=hbv.size
   have hzv2:=hbv2.size
   have hba:=B2 (Below.refl v2.heap.size v2) (.cells #[ii (c:Int),.slice p.d p.n p.c,.slice q.d q.n q.c] fnT)
   have hN:NewT B (v2.alloc (.cells #[ii (c:Int),.slice p.d p.n p.c,.slice q.d q.n q.c] fnT)) O (fun x=>u.heap.size<=x/\x<v2.heap.size+1) v2.heap.size (.fn c (zBx bx) b):=
    ⟨fun x hx=>⟨Zo,by simp;exact hx.2,fun e=>by have:=(h.lim _ e).2;omega⟩,⟨Zo,Nat.lt_succ_self _⟩,p.d,p.c,q.d,q.c,by
     rw[show(zBx bx).length=bx.length by simp[zBx],p2,q2]
     exact Blk.new _ _ _,p1.keep (fun x hx hl=>(hba.block x Zo).trans (hbv2.block x hl)) (fun x hx hl=>⟨hx.1,Zo⟩),by rw[show(zBx bx).length=bx.length by simp[zBx]];exact p3,p4,q1.keep (fun x _ hl=>hba.block x hl) (fun x hx hl=>⟨Zo,Zo⟩),q3,q4⟩
   have hx:=h.old (A7 hbu (A7 hbv (B2 hbv2 (.cells #[ii (c:Int),.slice p.d p.n p.c,.slice q.d q.n q.c] fnT))))
   refine(Gp hx hl hN ⟨hdX 7 ⟨#[102,117,110,99]⟩ 0 0 0,.nil⟩ dm0).mono ?_
   rintro e v3 ⟨r1,r2,r3⟩
   have hb2:=A7 hbv (B2 hbv2 (.cells #[ii (c:Int),.slice p.d p.n p.c,.slice q.d q.n q.c] fnT))
   exact⟨((Fd.ref 5 (last+1)).dt,dm0),r1,rfl,HQ.made hb2 r2 r3 (fun x hx=>hx.1),(Moved.of_below hb2).trans (r3.more fun _ h=>.inl h)⟩
  ·obtain⟨rfl,hQ,hM⟩:=hy
   have hZ4:Blk v3 w.heap.size C7 zA:=(hM.block _ Zo fun e=>by have:=(h.lim _ e).2;omega).trans hZu
   have hZ5:Lds Tryz.prog C7 (pT w.heap.size) (.agg ((Fd.ref 5 (last+1)).dt.cs dm0)) _:=C6 (K1 (Fd.ref 5 (last+1)).dt dm0 hZ4) rfl
   refine Kd rfl h6 rfl rfl hZ5 ?_
   rw[hall]
   exact⟨⟨_,rfl⟩,HQ.fin hbu hQ Zo Zo (fun b hb=>(h.lim b hb).2) _ _⟩
variable {B:Nat} {w:World} {gh:Nat} {O:Nat->Prop} {last:Nat} {T:Tm} {bm:Nat} {pt:Nat->Nat} {own:Nat->Nat->Prop}
theorem X0: ∀(vs:List Value) (cs:Array Value) (o j:Nat),(vs.foldl (fun(p:Array Value×Nat) v=>(p.1.setIfInBounds p.2 v,p.2+1)) (cs,o)).1[j]? =if o<=j/\j<o+vs.length/\j<cs.size then vs[j-o]? else cs[j]?
 | [],cs,o,j=>by
  rw[if_neg (by simp;omega)]
  rfl
 | v::r,cs,o,j=>by
  rw[List.foldl_cons,X0 r _ (o+1) j]
  simp only[Array.size_setIfInBounds,List.length_cons]
  by_cases h1:o+1<=j/\j<o+1+r.length/\j<cs.size
  ·rw[if_pos h1,if_pos Zo]
   have:j-o=(j-(o+1))+1:=by omega
   rw[this,List.getElem?_cons_succ]
  ·rw[if_neg h1]
   by_cases h2:j=o
   ·subst h2
    by_cases h3:j<cs.size
    ·rw[if_pos Zo,Nat.sub_self,Array.getElem?_setIfInBounds_self_of_lt h3]
     rfl
    ·rw[if_neg Zo,Array.getElem?_eq_none (by simp;omega),Array.getElem?_eq_none Zo]
   ·rw[Array.getElem?_setIfInBounds_ne (Ne.symm h2),if_neg Zo]
theorem Va{vs:List Value}{cs:Array Value}(h:vs.length=cs.size):(vs.foldl (fun(p:Array Value×Nat) v=>(p.1.setIfInBounds p.2 v,p.2+1)) (cs,0)).1=vs.toArray:=by
 apply Array.ext_getElem?
 intro j
 rw[X0]
 by_cases hj:j<cs.size
 ·rw[if_pos Zo]
  simp
 ·rw[if_neg Zo,Array.getElem?_eq_none Zo,Array.getElem?_eq_none (by simp;omega)]
theorem X2{l:List Value}{o n:Nat}{vs:List Value}(hv:vs.length=n)(h: ∀j,j<n->l[o+j]? =vs[j]?):(l.drop o).take n=vs:=by
 apply List.ext_getElem?
 intro j
 by_cases hj:j<n
 ·rw[List.getElem?_take_of_lt hj,List.getElem?_drop,h j hj]
 ·rw[List.getElem?_take_eq_none Zo,List.getElem?_eq_none Zo]
theorem Cp9(x:Fd):(x.dt.cs dm0).toList.length=11:=by simp[Dt.cs,Hd.cells]
theorem Qo{cs:Array Value}{vs:List Value}{o:Nat}(hv:vs.length=11)(ho:o+11<=cs.size):((vs.foldl (fun(p:Array Value×Nat) v=>(p.1.setIfInBounds p.2 v,p.2+1)) (cs,o)).1.toList.drop o).take 11=vs:=
 X2 hv fun k hk=>by
  rw[Array.getElem?_toList,X0,hv,if_pos Zo,Nat.add_sub_cancel_left]
theorem Vb{cs:Array Value}{vs us:List Value}{o q:Nat}(hv:vs.length=11)(hu:us.length=11)(hne:o+11<=q\/q+11<=o)(h:(cs.toList.drop q).take 11=us):((vs.foldl (fun(p:Array Value×Nat) v=>(p.1.setIfInBounds p.2 v,p.2+1)) (cs,o)).1.toList.drop q).take 11=us:=
 X2 hu fun k hk=>by
  have h2:((cs.toList.drop q).take 11)[k]? =us[k]? :=by rw[h]
  rw[List.getElem?_take_of_lt hk,List.getElem?_drop,Array.getElem?_toList] at h2
  rw[Array.getElem?_toList,X0,hv,if_neg Zo,h2]
theorem RowX.set{q:Nat}{cs:Array Value}{xs:List Fd}(hB:Blk w q C7 cs)(hl:xs.length*11<=cs.size)(hx: ∀j x,xs[j]? =some x->(cs.toList.drop (j*11)).take 11=(x.dt.cs dm0).toList){i:Nat}(hi:i<xs.length)(y:Fd){S:Nat->Prop}(hS:S q):RowX (w.setCells q (i*11) (y.dt.cs dm0).toList) S (some ⟨q,0,none⟩) (xs.set i y):=by
 obtain⟨vy,hvy⟩: ∃vy,vy=(y.dt.cs dm0).toList:=⟨_,rfl⟩
 have hly:vy.length=11:=by rw[hvy];exact Cp9 y
 rw[<-hvy]
 have hB':=Blk.setL vy (i*11) _ _ hB
 have him:=Nat.mul_le_mul_right 11 (show i+1<=xs.length from hi)
 refine .inr ⟨q,_,rfl,hS,hB',by rw[List.length_set,K5];exact hl,fun j x hj=> ?_⟩
 by_cases hij:i=j
 ·subst hij
  rw[List.getElem?_set_self hi] at hj
  injection hj with hj
  subst hj
  rw[<-hvy]
  exact Qo hly Zo
 ·rw[List.getElem?_set_ne hij] at hj
  refine Vb hly (Cp9 x) ?_ (hx j x hj)
  rcases Nat.lt_or_ge i j with h | h
  ·have:=Nat.mul_le_mul_right 11 (show i+1<=j from h)
   omega
  ·have:=Nat.mul_le_mul_right 11 (show j+1<=i by omega)
   omega
theorem Ai5{q c:Nat}(hc:2<=c)(w:World):(Instr.sliceAt 23 (.slice (some ⟨q,0,none⟩) 2 c) (some (ii 0)) (some (ii 2)) (some (ii 2))).run Tryz.prog w=.ok (.slice (some ⟨q,0,none⟩) 2 2) w:=by
 obtain⟨i,hi1,hi2⟩:=Option.map_eq_some_iff.1 K4
 have ht:Tryz.prog.underlying 23=some (.slice (Tryz.prog.elem 23)):=by kernel_rfl
 have he:Tryz.prog.elem 23=C7:=by kernel_rfl
 rw[run_sliceAt_slice _ _ _ _ _ _ ht,run_slice_lhm _ _ _ _ _ ht _ _ _ _ _ _ Zo Zo Zo Zo]
 simp[sizeOf,typeInfo,he,hi1,Result.andThen,sliced,Ck]
theorem Qp(h:HSx B w gh O last T bm pt own){o:Nat}(ho:o<=2147483647){a b:Fd}(ht:I6 T o=some (.arr a b)){ia:Option Addr}{ic:Nat}(hb:Blk w (pt o) Co9 #[.slice ia 2 ic])(hr: ∃q,ia=some ⟨q,0,none⟩)(hc:2<=ic):
  Calls Tryz.prog 69 #[pT gh,.agg ((Fd.ref 2 o).dt.cs dm0)] w fun e w'=>e=.returned (.slice ia 2 2)/\Below w.heap.size w w':=by
 refine B6 (vs:=[pT gh,.agg ((Fd.ref 2 o).dt.cs dm0)]) 41 Tryz.func69 Bj2 Zk (by simp) fun a0 h0=> ?_
 unfold Au3
 refine Zs (Dy5 h0 rfl fun a1 h1=> ?_)
 have hA:=Blk.new w C7 ((Fd.ref 2 o).dt.cs dm0)
 have hb1:Below w.heap.size w (w.alloc (.cells ((Fd.ref 2 o).dt.cs dm0) C7)):=B2 (Below.refl _ _) _
 change Code.wp _ _ _ a1 (w.alloc (.cells ((Fd.ref 2 o).dt.cs dm0) C7))
 generalize w.alloc (.cells ((Fd.ref 2 o).dt.cs dm0) C7)=w1 at hA hb1 ⊢
 have h1x:=h.old hb1
 have has:=Fq pt T o
 rw[ht] at has
 refine Zs (Dy6 (o:=(o:Int)) (b:=true) (p:=some ⟨pt o,0,none⟩) h1 rfl rfl h1x.hp.lm (A9 hA Tryz.underlying3 rfl rfl) (h1x.lookup Zo) has fun a2 mm h2=> ?_)
 have hbd:Below w1.heap.size w1 (w1.drewN mm):=B3 (Below.refl _ _) mm
 change Code.wp _ _ _ a2 (w1.drewN mm)
 generalize w1.drewN mm=w2 at hbd ⊢
 have hA2:=hA.below hbd hA.lt
 have hb2:=A7 hb1 hbd
 refine wp_seq (Zs (Dy7 h2 rfl fun a3 h3=>B9 (h3.look 22 rfl) ?_))
 refine Zs (Dy8 (fr:=0) (cp:=2) h3 rfl (A9 hA2 Tryz.underlying3 rfl rfl) (A9 hA2 Tryz.underlying3 rfl rfl) Zo fun a4 m4 h4=> ?_)
 have hbd4:Below w2.heap.size w2 (w2.drewN m4):=B3 (Below.refl _ _) m4
 change Code.wp _ _ _ a4 (w2.drewN m4)
 generalize w2.drewN m4=w4 at hbd4 ⊢
 have hb4:=A7 hb2 hbd4
 obtain⟨q,rfl⟩:=hr
 refine Zs (Dy9 (an:=2) (xn:=2) (xc:=2) h4 rfl rfl rfl (A9 (hb.below hb4 hb.lt) Tryz.underlying23 rfl rfl) (fun w=>Ai5 hc w) fun a5 h5=>wp_ret ?_)
 exact G7 rfl h5 rfl ⟨rfl,hb4⟩
def Ad4(T:Tm)(x y:Fd):Tm:=match x with
 | .ref 2 o=>match I6 T o with
  | some (.arr _ b)=>Nr T o (.arr y b)
  | _=>T
 | _=>T
theorem Ai6{x:Fd}(h:(decide (x.h.kind=5)&&P3 T x)=true)(hx:x.ok): ∃o a b,x=.ref 2 o/\I6 T o=some (.arr a b):=by
 simp only[Bool.and_eq_true,decide_eq_true_eq] at h
 obtain⟨h1,h2⟩:=h
 cases x with
 | nil=>exact absurd h1 Zd
 | num n=>exact absurd h1 (by show ¬(2:Int)=5;decide)
 | ref k o=>
  rw[V2] at h1
  have hk:k=2:=by
   by_cases e1:k=1
   ·rw[if_pos e1] at h1;omega
   ·rw[if_neg e1] at h1
    by_cases e2:k=2
    ·exact e2
    ·rw[if_neg e2] at h1
     split at h1<;>omega
  subst hk
  rw[show P3 T (.ref 2 o)=Bb 2 (I6 T o) from rfl] at h2
  cases hg:I6 T o with
  | none=>rw[hg] at h2;cases h2
  | some t=>
   rw[hg] at h2
   cases t with
   | arr a b=>exact⟨o,a,b,rfl,hg⟩
   | obj a b=>simp[Bb] at h2
   | tab E=>simp[Bb] at h2
   | box a=>simp[Bb] at h2
   | fn c bx b=>simp[Bb] at h2
theorem Cq0{x y:Fd}(h:(decide (x.h.kind=5)&&P3 T x)=false):Ad4 T x y=T:=by
 unfold Ad4
 split
 ·rename_i o
  split
  ·rename_i a b hg
   rw[show P3 T (.ref 2 o)=Bb 2 (I6 T o) from rfl,hg] at h
   simp[Bb,V2] at h
  ·rfl
 ·rfl
set_option maxHeartbeats 1000000 in
theorem Ai7(h:HSx B w gh O last T bm pt own)(hown:OwnAt w){x y:Fd}(hx:x.ok)(hy:y.ok):
  Calls Tryz.prog 45 #[pT gh,.agg (x.dt.cs dm0),ii 0,.agg (y.dt.cs dm0)] w fun e w'=>(∃v,e=.returned v)/\HQ B w w' gh O last (Ad4 T x y):=by
 refine B6 (vs:=[pT gh,.agg (x.dt.cs dm0),ii 0,.agg (y.dt.cs dm0)]) 40 Tryz.func45 Bk7 Zk (by simp) fun a0 h0=> ?_
 unfold Av4
 refine Zs (Eb8 h0 rfl rfl fun a1 h1=> ?_)
 have hA:=(Blk.new w C7 (x.dt.cs dm0)).alloc (.cells (y.dt.cs dm0) C7)
 have hY:=Blk.new (w.alloc (.cells (x.dt.cs dm0) C7)) C7 (y.dt.cs dm0)
 have hb1:Below w.heap.size w ((w.alloc (.cells (x.dt.cs dm0) C7)).alloc (.cells (y.dt.cs dm0) C7)):=B2 (B2 (Below.refl _ _) _) _
 have e1:(w.alloc (.cells (x.dt.cs dm0) C7)).heap.size=w.heap.size+1:=by simp
 rw[e1] at h1 hY
 change Code.wp _ _ _ a1 ((w.alloc (.cells (x.dt.cs dm0) C7)).alloc (.cells (y.dt.cs dm0) C7))
 generalize (w.alloc (.cells (x.dt.cs dm0) C7)).alloc (.cells (y.dt.cs dm0) C7)=w1 at hA hY hb1 ⊢
 have hzA:=hA.lt
 have hzY:=hY.lt
 have h1x:=h.old hb1
 have hmay:=Gn h1x (hown.old hb1) hx 5
 cases hq:(decide (x.h.kind=5)&&P3 T x) with
 | false=>
  rw[hq] at hmay
  rw[Cq0 hq]
  refine wp_seq (Zs (Cl6 (C0:=fun u=>Below w1.heap.size w1 u) h1 rfl rfl (C6 hA rfl) hmay fun a2 u hu h2=>wp_cond_true (h2.look 17 rfl) ?_))
  refine Zs (Eb9 (C0:=fun _ v=>Below u.heap.size u v) h2 (U1 1 u) fun a3 z v hv h3=>wp_ret ?_)
  exact D2 (G7 rfl h3 rfl ⟨⟨_,rfl⟩,HQ.same ⟨bm,pt,own,h⟩ (A7 (A7 hb1 hu) hv)⟩)
 | true=>
  rw[hq] at hmay
  obtain⟨o,a,b,rfl,hg⟩:=Ai6 hq hx
  have hR: ∀u,Below w1.heap.size w1 u->Calls Tryz.prog 65 #[.agg (y.dt.cs dm0)] u fun e w'=>e=.returned (.bool true)/\Below u.heap.size u w':=fun u hu=>by
   have:=X6 (Jg y hy) (Gm y u fun _=>False) ((hown.old hb1).old hu)
   rw[N2 y hy] at this
   exact this
  refine wp_seq (Zs (Cl5 (C0:=fun u=>Below w1.heap.size w1 u) (C1:=fun u=>Below w1.heap.size w1 u) h1 rfl rfl rfl (C6 hA rfl) hmay (fun u hu=>C6 (hY.below hu hzY) rfl) (fun u hu=>(hR u hu).mono fun e v hh=>⟨hh.1,A7 hu hh.2⟩) fun a2 u v hu hv h2=>B9 (h2.look 17 rfl) ?_))
  have hbv:=A7 hb1 hv
  have hzv:=hv.size
  have hAv:=hA.below hv hzA
  have hYv:=hY.below hv hzY
  refine wp_seq (Zs (Bk8 (ln:=2) (b26:=false) h2 rfl rfl Zd (A9 hAv Tryz.underlying3 rfl rfl) Zd fun a3 h3=>B9 (h3.look 27 rfl) ?_))
  have hvx:=h.old hbv
  have hm:=L9 hg
  obtain⟨hth,hpo⟩:=hvx.th o _ hm
  obtain⟨ia,ic,t1,t2,t3,t4⟩:=hth
  obtain⟨q,cs,rfl,hqo,hqb,hql,hqx⟩: ∃q cs,ia=some ⟨q,0,none⟩/\own o q/\Blk v q C7 cs/\[a,b].length*11<=cs.size/\∀j x,[a,b][j]? =some x->(cs.toList.drop (j*11)).take 11=(x.dt.cs dm0).toList:=by
   rcases t2 with e | e
   ·cases e
   ·exact e
  have hd:Below v.heap.size v (v.drewN 1):=B3 (Below.refl _ _) 1
  have hdx:=hvx.old hd
  refine Zs (Ec0 (xn:=2) (xc:=2) (ix:=0) (g39:=q) (o39:=0) (C:=fun u=>Below v.heap.size v u) (C0:=fun u=>Below v.heap.size v u) (C1:=fun m u=>m=dm0/\Below v.heap.size v u) h3 rfl rfl rfl rfl hd (fun u hu=>C6 (hAv.below hu Zo) rfl) (fun u hu=>C6 (hYv.below hu Zo) rfl)
   ((Qp hdx hx.2 hg (t1.below hd t1.lt) ⟨q,rfl⟩ t3).mono fun e u hh=>⟨hh.1,A7 hd hh.2⟩) (fun u hu=>hu) (fun u hu=>(Jf y u).mono fun e u2 hh=>⟨dm0,hh.1,rfl,A7 hu hh.2⟩) (fun u hu m u2 hm=>hm.2) (fun w=>Q7 (j:=0) Zo w) (fun u hu m u2 hm=> ?_) fun a4 u m u2 hu hm h4=> ?_)
  ·obtain⟨rfl,hm2⟩:=hm
   exact D1 (hqb.below hm2 hqb.lt) (by show 0+11<=cs.size;simp only[List.length_cons,List.length_nil] at hql;omega)
  ·obtain⟨rfl,hm2⟩:=hm
   have hx2:=hvx.old hm2
   have hzm:=hm2.size
   have hlq:=hqb.lt
   have hl2:=(h.lim q (h.sub o q hqo).1).2
   have hset:RowX (u2.setCells q 0 (y.dt.cs dm0).toList) (own o) (some ⟨q,0,none⟩) [y,b]:=RowX.set (w:=u2) (xs:=[a,b]) (i:=0) (hqb.below hm2 hlq) hql hqx (by simp) y hqo
   have hMs:Moved (own o) u2 (u2.setCells q 0 (y.dt.cs dm0).toList):=(Moved.of_below (Below.refl _ _)).set (.inl hqo) _ _
   have hpq:pt o≠q:=fun e=>by
    have h1:=t1
    have h2:=hqb
    rw[e] at h1
    unfold Blk at h1 h2
    rw[h1] at h2
    injection h2 with h2
    injection h2 with _ h2
    exact absurd h2 Zd
   refine Zs (Ec1 h4 fun a5 h5=>wp_ret ?_)
   refine G7 rfl h5 rfl ⟨⟨_,rfl⟩, ?_⟩
   have hQ:=hx2.upd hm hMs (th:=.arr y b) rfl ⟨_,ic,(B5 _ _ _ hpq).trans (t1.below hm2 t1.lt),hset.keep (fun _ _ _=>rfl) (fun b hb _=>.inl hb),t3,t4⟩
   have e:Ad4 T (.ref 2 o) y=Nr T o (.arr y b):=by unfold Ad4;simp only[hg]
   rw[e]
   exact HQ.pre (A7 hbv hm2) hQ
variable {B:Nat} {w:World} {gh:Nat} {O:Nat->Prop} {last:Nat} {T:Tm} {bm:Nat} {pt:Nat->Nat} {own:Nat->Nat->Prop}
theorem Jj{g:Nat}{t:TypeId}{cs:Array Value}(d:Dt)(m:Dm)(h:Blk w g t cs)(hc:cs.size=11):Blk (w.setCells g 0 (d.cs m).toList) g t (d.cs m):=by
 have:=Blk.setL (d.cs m).toList 0 _ _ h
 rw[Va (by rw[hc];rfl)] at this
 exact this
def Es(T:Tm)(n:Nat)(y:Fd):Tm:=match I6 T n with
 | some (.box _)=>Nr T n (.box y)
 | _=>T
theorem Ai8(h:HSx B w gh O last T bm pt own)(hown:OwnAt w){n:Nat}(hn:n<=1000000){y:Fd}(hy:y.ok):
  Calls Tryz.prog 47 #[pT gh,ii (n:Int),.agg (y.dt.cs dm0)] w fun e w'=>(∃b,e=.returned (.bool b))/\HQ B w w' gh O last (Es T n y):=by
 refine B6 (vs:=[pT gh,ii (n:Int),.agg (y.dt.cs dm0)]) 31 Tryz.func47 Bk9 Zk (by simp) fun a0 h0=> ?_
 unfold Av5
 refine Zs (Ec2 h0 rfl fun a1 h1=> ?_)
 have hA:=Blk.new w C7 (y.dt.cs dm0)
 have hb1:Below w.heap.size w (w.alloc (.cells (y.dt.cs dm0) C7)):=B2 (Below.refl _ _) _
 change Code.wp _ _ _ a1 (w.alloc (.cells (y.dt.cs dm0) C7))
 generalize w.alloc (.cells (y.dt.cs dm0) C7)=w1 at hA hb1 ⊢
 have hzA:=hA.lt
 have h1x:=h.old hb1
 refine Zs (Ec3 h1 rfl rfl h1x.hp.lm (h1x.lookup Zo) (Aw4 pt T n) fun a2 h2=> ?_)
 by_cases hk:Mg (I6 T n)=true
 ·obtain⟨a,hg⟩: ∃a,I6 T n=some (.box a):=by
   cases hg:I6 T n with
   | none=>rw[hg] at hk;cases hk
   | some t=>cases t with
    | box a=>exact⟨a,rfl⟩
    | obj a b=>rw[hg] at hk;cases hk
    | arr a b=>rw[hg] at hk;cases hk
    | tab E=>rw[hg] at hk;cases hk
    | fn c bx b=>rw[hg] at hk;cases hk
  rw[hg] at h2
  have hR:=X6 (Jg y hy) (Gm y w1 fun _=>False) (hown.old hb1)
  rw[N2 y hy] at hR
  refine wp_seq (Zs (Bl0 (C0:=fun u=>Below w1.heap.size w1 u) h2 rfl rfl (C6 hA rfl) hR fun a3 u hu h3=>B9 (h3.look 25 rfl) ?_))
  have hbu:=A7 hb1 hu
  have hxu:=h.old hbu
  have hm:=L9 hg
  obtain⟨hth,hpo⟩:=hxu.th n _ hm
  change Blk u (pt n) Cp0 (a.dt.cs dm0) at hth
  refine Zs (Ec5 (d:=y.dt) (m:=dm0) (g7:=pt n) (C0:=fun m v=>m=dm0/\Below u.heap.size u v) h3 rfl rfl (C6 (hA.below hu hzA) rfl) ((Jf y u).mono fun e v hh=>⟨dm0,hh.1,rfl,hh.2⟩) (fun m v hm=> ?_) fun a4 m v hv h4=> ?_)
  ·obtain⟨rfl,hm2⟩:=hm
   exact D1 (hth.below hm2 hth.lt) (by show 0+11<=11;omega)
  ·obtain⟨rfl,hv2⟩:=hv
   have hx2:=hxu.old hv2
   refine Zs (Ec6 h4 fun a5 h5=>wp_ret ?_)
   refine G7 rfl h5 rfl ⟨⟨_,rfl⟩, ?_⟩
   have hMs:Moved (own n) v (v.setCells (pt n) 0 (y.dt.cs dm0).toList):=(Moved.of_below (Below.refl _ _)).set (.inl hpo) _ _
   have hQ:=hx2.upd hm hMs (th:=.box y) rfl (Jj y.dt dm0 (hth.below hv2 hth.lt) rfl)
   have e:Es T n y=Nr T n (.box y):=by unfold Es;simp only[hg]
   rw[e]
   exact HQ.pre (A7 hbu hv2) hQ
 ·have hk':Mg (I6 T n)=false:=by simpa using hk
  rw[hk'] at h2
  refine wp_seq (Zs (Bl1 h2 rfl fun a3 h3=>wp_cond_true (h3.look 25 rfl) ?_))
  refine Zs (Ec4 h3 fun a4 h4=>wp_ret ?_)
  have e:Es T n y=T:=by
   unfold Es
   cases hg:I6 T n with
   | none=>rfl
   | some t=>cases t with
    | box a=>rw[hg] at hk;exact absurd rfl hk
    | obj a b=>rfl
    | arr a b=>rfl
    | tab E=>rfl
    | fn c bx b=>rfl
  rw[e]
  exact D2 (G7 rfl h4 rfl ⟨⟨_,rfl⟩,HQ.same ⟨bm,pt,own,h⟩ hb1⟩)
theorem Aw7(h:HSx B w gh O last T bm pt own){n:Nat}(hn:n<=1000000):
  Calls Tryz.prog 36 #[pT gh,ii (n:Int)] w fun e w'=>e=.returned (.bool (I6 T n).isSome)/\HQ B w w' gh O last (Qm T n):=by
 refine(Tv h.hp (k:=(n:Int)) Zo).mono ?_
 rintro e w' ⟨h1,h2,h3⟩
 rw[Un] at h1
 refine⟨by rw[h1,Option.isSome_map],O,h.less h2 h3,h3.more fun b hb=>by rw[hb];exact h.base.2,fun _ h=>h,fun _ h=>.inl h⟩
def eqF(a b:Fd):Bool:=eqO a.dt b.dt
def Vc(k v:Fd):List (Fd×Fd)->Option (List (Fd×Fd))
 | []=>none
 | p::r=>if eqF p.1 k then some ((p.1,v)::r) else(Vc k v r).map (p:: ·)
def Aw8(E:List (Fd×Fd))(k v:Fd):List (Fd×Fd):=(Vc k v E).getD ((k,v)::E)
theorem Ai9{g:Nat}{v:Dt}{R:List En}(h: ∀e,e∈R->e.g≠g):R.map (svE g v)=R:=by
 have:R.map (svE g v)=R.map id:=List.map_congr_left fun e he=>by unfold svE;rw[if_neg (h e he)];rfl
 rw[this,List.map_id]
theorem Vd{k v:Fd}: ∀(R:List En) (E:List (Fd×Fd)),R.map kvE=E.map kvF->(R.map (·.g)).Nodup->(∀e,e∈R->eqO e.key k.dt=true->(e.hash==hV k.dt)=true)->
  (match fE R k.dt with | some x=> ∃E',Vc k v E=some E'/\(R.map (svE x.g v.dt)).map kvE=E'.map kvF | none=>Vc k v E=none)
 | [],[],_,_,_=>rfl
 | [],_::_,h,_,_=>by simp at h
 | _::_,[],h,_,_=>by simp at h
 | e::R,p::E,h,hn,hh=>by
  simp only[List.map_cons,List.cons.injEq] at h
  obtain⟨h1,h2⟩:=h
  rw[List.map_cons,List.nodup_cons] at hn
  have ek:e.key=p.1.dt:=congrArg Prod.fst h1
  have ev:e.val=p.2.dt:=congrArg Prod.snd h1
  have hp:(e.hash==hV k.dt&&eqO e.key k.dt)=eqF p.1 k:=by
   unfold eqF
   rw[<-ek]
   cases hq:eqO e.key k.dt with
   | false=>simp
   | true=>rw[hh e (by simp) hq];rfl
  unfold fE
  rw[List.find?_cons,hp]
  cases hq:eqF p.1 k with
  | true=>
   refine⟨(p.1,v)::E,by simp[Vc,hq], ?_⟩
   show(svE e.g v.dt e::R.map (svE e.g v.dt)).map kvE=_
   rw[Ai9 fun x hx hg=>hn.1 (List.mem_map.2 ⟨x,hx,hg⟩),List.map_cons,List.map_cons,h2]
   congr 1
   unfold svE
   rw[if_pos rfl]
   show(e.key,v.dt)=(p.1.dt,v.dt)
   rw[ek]
  | false=>
   have ih:=Vd (k:=k) (v:=v) R E h2 hn.2 fun x hx=>hh x (List.mem_cons_of_mem _ hx)
   unfold fE at ih
   simp only
   cases hf:R.find? (fun e=>e.hash==hV k.dt&&eqO e.key k.dt) with
   | none=>
    rw[hf] at ih
    simp only at ih ⊢
    simp[Vc,hq,ih]
   | some x=>
    rw[hf] at ih
    simp only at ih ⊢
    obtain⟨E',i1,i2⟩:=ih
    refine⟨p::E',by simp[Vc,hq,i1], ?_⟩
    have hx:=List.mem_of_find?_eq_some hf
    rw[List.map_cons,List.map_cons,List.map_cons,i2]
    congr 1
    unfold svE
    rw[if_neg (fun hg=>hn.1 (List.mem_map.2 ⟨x,hx,hg.symm⟩))]
    show(e.key,e.val)=(p.1.dt,p.2.dt)
    rw[ek,ev]
theorem Cq1{k v:Fd}{R R':List En}{E:List (Fd×Fd)}(h:R.map kvE=E.map kvF)(hn:(R.map (·.g)).Nodup)(hh: ∀e,e∈R->eqO e.key k.dt=true->(e.hash==hV k.dt)=true)(hP:Cu R k.dt v.dt R'):R'.map kvE=(Aw8 E k v).map kvF:=by
 have:=Vd (k:=k) (v:=v) R E h hn hh
 unfold Cu at hP
 unfold Aw8
 cases hf:fE R k.dt with
 | none=>
  rw[hf] at this hP
  simp only at this hP
  obtain⟨g,rfl⟩:=hP
  rw[this]
  simp only[Option.getD_none,List.map_cons,h]
  rfl
 | some x=>
  rw[hf] at this hP
  simp only at this hP
  obtain⟨E',i1,i2⟩:=this
  rw[i1,hP]
  exact i2
theorem MapAt.keys{m:Nat}{R:List En}{D O:Nat->Prop}(h:MapAt w m R D O):(R.map (·.g)).Nodup/\∀e,e∈R->e.key.ok/\rB e.key=true/\e.hash=hV e.key:=by
 obtain⟨hb,n,H,N,b,A,n0,n1,hR,h4,h5,h6,o1,o2,o3,o4⟩:=h
 exact⟨hR.nd,fun e he=>⟨(hR.ok e he).1,(h6.right e he).1,(h6.num e he).1⟩⟩
variable {B:Nat} {w:World} {gh:Nat} {O:Nat->Prop} {last:Nat} {T:Tm} {bm:Nat} {pt:Nat->Nat} {own:Nat->Nat->Prop}
def Sm(T:Tm)(x k v:Fd):Tm:=match x with
 | .ref 3 o=>match I6 T o with
  | some (.tab E)=>if kB k.dt then Nr T o (.tab (Aw8 E k v)) else T
  | _=>T
 | _=>T
theorem Bm3{x:Fd}(h:(decide (x.h.kind=6)&&P3 T x)=true): ∃o E,x=.ref 3 o/\I6 T o=some (.tab E):=by
 simp only[Bool.and_eq_true,decide_eq_true_eq] at h
 obtain⟨h1,h2⟩:=h
 cases x with
 | nil=>exact absurd h1 Zd
 | num n=>exact absurd h1 (by show ¬(2:Int)=6;decide)
 | ref k o=>
  rw[V2] at h1
  have hk:k=3:=by
   by_cases e1:k=1
   ·rw[if_pos e1] at h1;omega
   ·rw[if_neg e1] at h1
    by_cases e2:k=2
    ·rw[if_pos e2] at h1;omega
    ·rw[if_neg e2] at h1
     by_cases e3:k=3
     ·exact e3
     ·rw[if_neg e3] at h1;omega
  subst hk
  rw[show P3 T (.ref 3 o)=Bb 3 (I6 T o) from rfl] at h2
  cases hg:I6 T o with
  | none=>rw[hg] at h2;cases h2
  | some t=>
   rw[hg] at h2
   cases t with
   | tab E=>exact⟨o,E,rfl,hg⟩
   | obj a b=>simp[Bb] at h2
   | arr a b=>simp[Bb] at h2
   | box a=>simp[Bb] at h2
   | fn c bx b=>simp[Bb] at h2
theorem Cq2{x k v:Fd}(h:(decide (x.h.kind=6)&&P3 T x)=false):Sm T x k v=T:=by
 unfold Sm
 split
 ·rename_i o
  split
  ·rename_i E hg
   rw[show P3 T (.ref 3 o)=Bb 3 (I6 T o) from rfl,hg] at h
   simp[Bb,V2] at h
  ·rfl
 ·rfl
theorem Bm4{x:Fd}(h:(decide (x.h.kind=9)&&P3 T x)=true): ∃o a b,x=.ref 1 o/\I6 T o=some (.obj a b):=by
 simp only[Bool.and_eq_true,decide_eq_true_eq] at h
 obtain⟨h1,h2⟩:=h
 cases x with
 | nil=>exact absurd h1 Zd
 | num n=>exact absurd h1 (by show ¬(2:Int)=9;decide)
 | ref k o=>
  rw[V2] at h1
  have hk:k=1:=by
   by_cases e1:k=1
   ·exact e1
   ·rw[if_neg e1] at h1
    split at h1
    ·omega
    ·split at h1<;>omega
  subst hk
  rw[show P3 T (.ref 1 o)=Bb 1 (I6 T o) from rfl] at h2
  cases hg:I6 T o with
  | none=>rw[hg] at h2;cases h2
  | some t=>
   rw[hg] at h2
   cases t with
   | obj a b=>exact⟨o,a,b,rfl,hg⟩
   | tab E=>simp[Bb] at h2
   | arr a b=>simp[Bb] at h2
   | box a=>simp[Bb] at h2
   | fn c bx b=>simp[Bb] at h2
def U8(T:Tm)(x c d:Fd):Tm:=match x with
 | .ref 1 o=>match I6 T o with
  | some (.obj _ _)=>Nr T o (.obj c d)
  | _=>T
 | _=>T
theorem Aj0{x c d:Fd}(h:(decide (x.h.kind=9)&&P3 T x)=false):U8 T x c d=T:=by
 unfold U8
 split
 ·rename_i o
  split
  ·rename_i a b hg
   rw[show P3 T (.ref 1 o)=Bb 1 (I6 T o) from rfl,hg] at h
   simp[Bb,V2] at h
  ·rfl
 ·rfl
set_option maxHeartbeats 2000000 in
theorem Nv(h:HSx B w gh O last T bm pt own)(hB0:0<B)(hown:OwnAt w)(hE: ∀o E,I6 T o=some (.tab E)->E.length<=100000){x k v:Fd}(hx:x.ok)(hk:k.ok)(hv:v.ok):
  Calls Tryz.prog 46 #[pT gh,.agg (x.dt.cs dm0),.agg (k.dt.cs dm0),.agg (v.dt.cs dm0)] w fun e w'=>(∃v,e=.returned v)/\HQ B w w' gh O last (Sm T x k v):=by
 refine B6 (vs:=[pT gh,.agg (x.dt.cs dm0),.agg (k.dt.cs dm0),.agg (v.dt.cs dm0)]) 47 Tryz.func46 Bk6 Zk (by simp) fun a0 h0=> ?_
 unfold Av3
 refine Zs (Eb3 h0 rfl rfl rfl fun a1 h1=> ?_)
 have hA:=((Blk.new w C7 (x.dt.cs dm0)).alloc (.cells (k.dt.cs dm0) C7)).alloc (.cells (v.dt.cs dm0) C7)
 have hK:=(Blk.new (w.alloc (.cells (x.dt.cs dm0) C7)) C7 (k.dt.cs dm0)).alloc (.cells (v.dt.cs dm0) C7)
 have hVv:=Blk.new ((w.alloc (.cells (x.dt.cs dm0) C7)).alloc (.cells (k.dt.cs dm0) C7)) C7 (v.dt.cs dm0)
 have hb1:Below w.heap.size w (((w.alloc (.cells (x.dt.cs dm0) C7)).alloc (.cells (k.dt.cs dm0) C7)).alloc (.cells (v.dt.cs dm0) C7)):=B2 (B2 (B2 (Below.refl _ _) _) _) _
 have e1:(w.alloc (.cells (x.dt.cs dm0) C7)).heap.size=w.heap.size+1:=by simp
 have e2:((w.alloc (.cells (x.dt.cs dm0) C7)).alloc (.cells (k.dt.cs dm0) C7)).heap.size=w.heap.size+2:=by simp
 rw[e1,e2] at h1
 rw[e1] at hK
 rw[e2] at hVv
 change Code.wp _ _ _ a1 (((w.alloc (.cells (x.dt.cs dm0) C7)).alloc (.cells (k.dt.cs dm0) C7)).alloc (.cells (v.dt.cs dm0) C7))
 generalize ((w.alloc (.cells (x.dt.cs dm0) C7)).alloc (.cells (k.dt.cs dm0) C7)).alloc (.cells (v.dt.cs dm0) C7)=w1 at hA hK hVv hb1 ⊢
 have hzA:=hA.lt
 have hzK:=hK.lt
 have hzV:=hVv.lt
 have h1x:=h.old hb1
 have hmay:=Gn h1x (hown.old hb1) hx 6
 cases hq:(decide (x.h.kind=6)&&P3 T x) with
 | false=>
  rw[hq] at hmay
  rw[Cq2 hq]
  refine wp_seq (Zs (Cl4 (C0:=fun u=>Below w1.heap.size w1 u) h1 rfl rfl (C6 hA rfl) hmay fun a2 u hu h2=>wp_cond_true (h2.look 24 rfl) ?_))
  refine Zs (Eb4 (C0:=fun _ v=>Below u.heap.size u v) h2 (U1 1 u) fun a3 z v hv h3=>wp_ret ?_)
  exact D2 (G7 rfl h3 rfl ⟨⟨_,rfl⟩,HQ.same ⟨bm,pt,own,h⟩ (A7 (A7 hb1 hu) hv)⟩)
 | true=>
  rw[hq] at hmay
  obtain⟨o,E,rfl,hg⟩:=Bm3 hq
  have hR: ∀(y:Fd),y.ok->∀u,Below w1.heap.size w1 u->Calls Tryz.prog 65 #[.agg (y.dt.cs dm0)] u fun e w'=>e=.returned (.bool true)/\Below w1.heap.size w1 w':=fun y hy u hu=>by
   have:=X6 (Jg y hy) (Gm y u fun _=>False) ((hown.old hb1).old hu)
   rw[N2 y hy] at this
   exact this.mono fun e v hh=>⟨hh.1,A7 hu hh.2⟩
  refine wp_seq (Zs (Cl3 (C0:=fun u=>Below w1.heap.size w1 u) (C1:=fun u=>Below w1.heap.size w1 u) (C2:=fun u=>Below w1.heap.size w1 u) h1 rfl rfl rfl rfl (C6 hA rfl) hmay (fun u hu=>C6 (hK.below hu hzK) rfl) (fun u hu=>hR k hk u hu) (fun u _ u2 hu=>C6 (hVv.below hu hzV) rfl) (fun u _ u2 hu=>hR v hv u2 hu) fun a2 _ _ u _ _ hu h2=>B9 (h2.look 24 rfl) ?_))
  have hbu:=A7 hb1 hu
  have hzu:=hu.size
  have hux:=h.old hbu
  have hAu:=hA.below hu hzA
  have has:=Ji pt T o
  rw[hg] at has
  refine wp_seq (Zs (Eb5 (o:=(o:Int)) (b:=true) (p:=some ⟨pt o,0,none⟩) h2 rfl rfl hux.hp.lm (A9 hAu Tryz.underlying3 rfl rfl) (hux.lookup (by have:=hx.2;omega)) has fun a3 mm h3=> ?_))
  have hbd:Below u.heap.size u (u.drewN mm):=B3 (Below.refl _ _) mm
  change Code.wp _ _ _ a3 (u.drewN mm)
  generalize u.drewN mm=u1 at hbd ⊢
  have hb3:=A7 hbu hbd
  have hz3:=hbd.size
  have hx3:=h.old hb3
  have hK3:=(hK.below hu hzK).below hbd Zo
  have hV3:=(hVv.below hu hzV).below hbd Zo
  refine Zs (Eb6 h3 rfl fun a4 h4=>wp_cond_true (h4.look 38 rfl) ?_)
  have hm:=L9 hg
  have hd:Below u1.heap.size u1 (u1.drewN 1):=B3 (Below.refl _ _) 1
  have hx4:=hx3.old hd
  obtain⟨hth,hpo⟩:=hx4.th o _ hm
  obtain⟨mb,R,D,Om,t1,t2,t3,t4⟩:=hth
  have hlenR:R.length=E.length:=by
   have:=congrArg List.length t4
   simpa using this
  have hEl:=hE o E hg
  have hlim4:=hx4.lim
  have hin: ∀b,Om b->O b/\b≠pt o:=fun b hb=>⟨(h.sub o b (t3 b (.inr hb)).1).1,(t3 b (.inr hb)).2⟩
  have hOm0: ¬Om 0:=fun e=>by have:=(h.lim 0 (hin 0 e).1).1;omega
  have hnew: ∀b,w.heap.size<=b->¬Om b:=fun b hb e=>by have:=(h.lim b (hin b e).1).2;omega
  have t1':Blk u1 (pt o) Bl5 #[pT mb]:=t1
  refine Zs (Eb7 (g9:=pt o) (mb:=mb) (C:=fun z=>z.heap[pt o]? =u1.heap[pt o]? /\z.heap[w.heap.size+1]? =u1.heap[w.heap.size+1]? /\z.heap[w.heap.size+2]? =u1.heap[w.heap.size+2]?)
   (C0:=fun _ z=>(kB k.dt=false/\Below u1.heap.size u1 z)\/(kB k.dt=true/\∃R',Cu R k.dt v.dt R'/\Bp6 (u1.drewN 1) z mb R' D Om)) h4 rfl rfl rfl ⟨rfl,rfl,rfl⟩ (fun z hz=>A9 (t:=Bl5) (cs:=#[pT mb]) (hz.1.trans t1') Tryz.underlying117 rfl rfl) (fun z hz=>C6 (hz.2.1.trans hK3) rfl) (fun z hz=>C6 (hz.2.2.trans hV3) rfl)
   ((Ak5 t2 hOm0 Zo (Jg k hk) (Jg v hv) (Gm k _ fun _=>False) (Gm v _ fun _=>False) (fun _ e=>e.elim) (fun _ e=>e.elim) ((hown.old hb3).old hd)).mono fun e z hh=> ?_) (fun er z hz=> ?_) fun a5 er z hz h5=>wp_ret ?_)
  ·unfold Az7 at hh
   rw[N2 k hk,N2 v hv,if_neg Zd] at hh
   cases hkb:kB k.dt with
   | false=>
    rw[hkb,if_pos rfl] at hh
    obtain⟨q1,q2,q3,_⟩:=hh
    exact⟨q2,q3,.inl ⟨rfl,A7 hd q1⟩⟩
   | true=>
    rw[hkb,if_neg Zd] at hh
    exact⟨.nilIface,hh.1,.inr ⟨rfl,hh.2⟩⟩
  ·rcases hz with⟨_,hz⟩ | ⟨_,R',_,D',O',q1,q2,q3,q4⟩
   ·exact⟨hz.block _ t1'.lt,hz.block _ Zo,hz.block _ Zo⟩
   ·exact⟨q2.block _ t1'.lt (fun e=>(hin _ e).2 rfl),q2.block _ (show w.heap.size+1<u1.heap.size by omega) (hnew _ Zo),q2.block _ (show w.heap.size+2<u1.heap.size by omega) (hnew _ Zo)⟩
  ·refine D2 (G7 rfl h5 rfl ⟨⟨_,rfl⟩, ?_⟩)
   have e0:Sm T (.ref 3 o) k v=if kB k.dt then Nr T o (.tab (Aw8 E k v)) else T:=by unfold Sm;simp only[hg]
   rw[e0]
   rcases hz with⟨hkb,hz⟩ | ⟨hkb,R',hP,D',O',q1,q2,q3,q4⟩
   ·rw[hkb]
    exact HQ.same ⟨bm,pt,own,h⟩ (A7 hb3 hz)
   ·rw[hkb]
    have hlim':=MapAt.dlim q1
    have hMo:Moved (own o) (u1.drewN 1) z:=q2.more fun b hb=>(t3 b (.inr hb)).1
    obtain⟨kn,kk⟩:=MapAt.keys t2
    have hkv:=Cq1 (k:=k) (v:=v) t4 kn (fun e he heq=>by
     obtain⟨k1,k2,k3⟩:=kk e he
     rw[k3,show hV e.key=hV k.dt from Al1 k1.h (Uw k hk) k1.k trivial k2 (N2 k hk) heq]
     simp) hP
    have hQ:=hx4.upd hm hMo (th:=.tab (Aw8 E k v)) rfl ⟨mb,R',D',O',(q2.block _ t1.lt (fun e=>(hin _ e).2 rfl)).trans t1,q1,fun b hb=> ?_,hkv⟩
    ·exact HQ.pre (A7 hb3 hd) hQ
    ·have h9:=hlim' b hb
     have h8:=t1.lt
     rcases hb with hb | hb
     ·rcases q3.2 b hb with h7 | h7
      ·exact⟨.inl (t3 b (.inl h7)).1,(t3 b (.inl h7)).2⟩
      ·exact⟨.inr ⟨h7,h9⟩,Zo⟩
     ·rcases q4.2 b hb with h7 | h7
      ·exact⟨.inl (t3 b (.inr h7)).1,(t3 b (.inr h7)).2⟩
      ·exact⟨.inr ⟨h7,h9⟩,Zo⟩
theorem Bm5(g o:Nat)(w:World):(binOp .eql 125 (.pointer (some ⟨g,o,none⟩)) (.pointer none)).run Tryz.prog w=.ok (.bool false) w:=by kernel_rfl
theorem Jk(h:HSx B w gh O last T bm pt own){o:Nat}(ho:o<=2147483647){a b:Fd}(ht:I6 T o=some (.obj a b)){m:Dm}(hb:Blk w (pt o) Co8 ((pr a b).cs m)):
  Calls Tryz.prog 72 #[pT gh,.agg ((Fd.ref 1 o).dt.cs dm0)] w fun e w'=>e=.returned (.tuple #[.pointer (some ⟨pt o,0,none⟩),.pointer (some ⟨pt o,0,none⟩)])/\Below w.heap.size w w':=by
 refine B6 (vs:=[pT gh,.agg ((Fd.ref 1 o).dt.cs dm0)]) 31 Tryz.func72 Bj1 Zk (by simp) fun a0 h0=> ?_
 unfold Au2
 refine Zs (Dy1 h0 rfl fun a1 h1=> ?_)
 have hA:=Blk.new w C7 ((Fd.ref 1 o).dt.cs dm0)
 have hb1:Below w.heap.size w (w.alloc (.cells ((Fd.ref 1 o).dt.cs dm0) C7)):=B2 (Below.refl _ _) _
 change Code.wp _ _ _ a1 (w.alloc (.cells ((Fd.ref 1 o).dt.cs dm0) C7))
 generalize w.alloc (.cells ((Fd.ref 1 o).dt.cs dm0) C7)=w1 at hA hb1 ⊢
 have h1x:=h.old hb1
 have has:=Aw3 pt T o
 rw[ht] at has
 refine wp_seq (Zs (Dy4 (o:=(o:Int)) (b:=true) (p:=some ⟨pt o,0,none⟩) h1 rfl rfl h1x.hp.lm (A9 hA Tryz.underlying3 rfl rfl) (h1x.lookup Zo) has fun a2 mm h2=> ?_))
 have hbd:Below w1.heap.size w1 (w1.drewN mm):=B3 (Below.refl _ _) mm
 change Code.wp _ _ _ a2 (w1.drewN mm)
 generalize w1.drewN mm=w2 at hbd ⊢
 have hA2:=hA.below hbd hA.lt
 have hb2:=A7 hb1 hbd
 have hob:=hb.below hb2 hb.lt
 refine Zs (Dy2 h2 rfl fun a3 h3=>wp_cond_true (h3.look 20 rfl) ?_)
 refine Zs (Dy3 (pn:=0) (p29:=some ⟨pt o,0,none⟩) h3 rfl rfl (A9 hA2 Tryz.underlying24 rfl rfl) (A9 hA2 Tryz.underlying9 rfl rfl) (fun mm=>(Jh (w:=w2.drewN mm) (ty:=⟨#[84]⟩) (nm:=⟨#[84]⟩) (hob.below (B3 (Below.refl _ _) mm) hob.lt) rfl none 0).mono fun e w' hh=>⟨by rw[hh.1,if_pos rfl],mm,hh.2⟩) fun a4 m4 h4=>wp_ret ?_)
 exact D2 (Ej3 rfl h4 rfl rfl ⟨rfl,B3 hb2 m4⟩)
set_option maxHeartbeats 2000000 in
theorem Qq(h:HSx B w gh O last T bm pt own)(hown:OwnAt w){x c d:Fd}(hx:x.ok)(hc:c.ok)(hd:d.ok){S:Nat->Prop}{ia:Option Addr}{ic:Nat}(hr:RowX w S ia [c,d])(hic:2<=ic)(hcap:capOk ia ic):
  Calls Tryz.prog 48 #[pT gh,.agg (x.dt.cs dm0),.agg ((pr c d).cs ⟨none,0,ia,ic⟩)] w fun e w'=>(∃v,e=.returned v)/\HQ B w w' gh O last (U8 T x c d):=by
 refine B6 (vs:=[pT gh,.agg (x.dt.cs dm0),.agg ((pr c d).cs ⟨none,0,ia,ic⟩)]) 70 Tryz.func48 Bl2 Zk (by simp) fun a0 h0=> ?_
 unfold Av6
 obtain⟨m,hm⟩: ∃m:Dm,m=⟨none,0,ia,ic⟩:=⟨_,rfl⟩
 rw[<-hm] at h0
 refine Zs (Ec7 h0 rfl rfl fun a1 h1=> ?_)
 have hA:=(Blk.new w C7 (x.dt.cs dm0)).alloc (.cells ((pr c d).cs m) C7)
 have hD:=Blk.new (w.alloc (.cells (x.dt.cs dm0) C7)) C7 ((pr c d).cs m)
 have hb1:Below w.heap.size w ((w.alloc (.cells (x.dt.cs dm0) C7)).alloc (.cells ((pr c d).cs m) C7)):=B2 (B2 (Below.refl _ _) _) _
 have e1:(w.alloc (.cells (x.dt.cs dm0) C7)).heap.size=w.heap.size+1:=by simp
 rw[e1] at h1 hD
 change Code.wp _ _ _ a1 ((w.alloc (.cells (x.dt.cs dm0) C7)).alloc (.cells ((pr c d).cs m) C7))
 generalize (w.alloc (.cells (x.dt.cs dm0) C7)).alloc (.cells ((pr c d).cs m) C7)=w1 at hA hD hb1 ⊢
 have hzA:=hA.lt
 have hzD:=hD.lt
 have h1x:=h.old hb1
 have hmay:=Gn h1x (hown.old hb1) hx 9
 cases hq:(decide (x.h.kind=9)&&P3 T x) with
 | false=>
  rw[hq] at hmay
  rw[Aj0 hq]
  refine wp_seq (Zs (Cl8 (C0:=fun u=>Below w1.heap.size w1 u) h1 rfl rfl (C6 hA rfl) hmay fun a2 u hu h2=>wp_cond_true (h2.look 18 rfl) ?_))
  refine Zs (Ec8 (C0:=fun _ v=>Below u.heap.size u v) h2 (U1 1 u) fun a3 z v hv h3=>wp_ret ?_)
  exact D2 (G7 rfl h3 rfl ⟨⟨_,rfl⟩,HQ.same ⟨bm,pt,own,h⟩ (A7 (A7 hb1 hu) hv)⟩)
 | true=>
  rw[hq] at hmay
  obtain⟨o,a,b,rfl,hg⟩:=Bm4 hq
  have hrow: ∀u,Below w.heap.size w u->RowX u (fun x=>x<w.heap.size) ia [c,d]:=fun u hu=>hr.keep (fun x _ hl=>hu.block x hl) (fun x _ hl=>hl)
  refine wp_seq (Zs (Cl7 (C0:=fun u=>Below w1.heap.size w1 u) (C1:=fun u=>Below w1.heap.size w1 u) h1 rfl rfl rfl (C6 hA rfl) hmay (fun u hu=>C6 (hD.below hu hzD) rfl) (fun u hu=> ?_) fun a2 _ u _ hu h2=>B9 (h2.look 18 rfl) ?_))
  ·have:=X6 (Bl9 c d hc hd) (Bm0 (hrow u (A7 hb1 hu)) hic hcap) ((hown.old hb1).old hu)
   rw[Nt c d hc hd,<-hm] at this
   exact this.mono fun e v hh=>⟨hh.1,A7 hu hh.2⟩
  have hbu:=A7 hb1 hu
  have hzu:=hu.size
  have hux:=h.old hbu
  have hAu:=hA.below hu hzA
  have hDu:=hD.below hu hzD
  have hmem:=L9 hg
  obtain⟨hth,hpo⟩:=hux.th o _ hmem
  obtain⟨ja,jc,t1,t2,t3,t4⟩:=hth
  refine Zs (Ec9 (g7:=pt o) (g8:=pt o) (C0:=fun v=>Below u.heap.size u v) h2 rfl rfl (C6 hAu rfl) (Jk hux (by have:=hx.2;omega) hg t1) fun a3 v hv h3=> ?_)
  have hbv:=A7 hbu hv
  have hzv:=hv.size
  have t1v:=t1.below hv t1.lt
  have t2v:RowX v (own o) ja [a,b]:=t2.keep (fun x _ hl=>hv.block x hl) (fun _ h _=>h)
  have hAv:=hAu.below hv Zo
  have hDv:=hDu.below hv Zo
  refine wp_seq (wp_block ?_)
  refine Zs (Ed0 (b28:=false) h3 rfl (Bm5 _ _) fun a4 h4=>wp_cond_false (h4.look 26 rfl) ?_)
  refine Zs (Bl3 (k:=8) (s1:=⟨#[84]⟩) (s2:=⟨#[84]⟩) (b39:=false) h4 rfl rfl (A9 hDv Tryz.underlying3 rfl rfl) Zd (A9 hDv Tryz.underlying9 rfl rfl) (A9 hAv Tryz.underlying9 rfl rfl) Zd fun a5 h5=>B9 (h5.look 30 rfl) (B1 ?_))
  have hbd:Below v.heap.size v (v.drewN 1):=B3 (Below.refl _ _) 1
  refine wp_seq (Zs (Ed1 (o:=pr a b) (mo:=⟨none,0,ja,jc⟩) (d:=pr c d) (m:=m) (z1:=3) (z2:=3) (z3:=3) (C:=fun z=>Below v.heap.size v z) h5 rfl rfl rfl (fun z hz=>C6 (t1v.below hz t1v.lt) rfl) (fun z hz=> ?_) (fun z hz=>C6 (t1v.below hz t1v.lt) rfl) (fun z hz=> ?_) Zo (fun z hz=>C6 (hDv.below hz hDv.lt) rfl) (fun z hz=> ?_) Zo hbd fun a6 z hz h6=> ?_))
  ·exact(Me a b ja jc z (t2v.keep (fun x _ hl=>hz.block x hl) (fun _ h _=>h))).mono fun e z2 hh=>⟨hh.1,A7 hz hh.2⟩
  ·exact(Me a b ja jc z (t2v.keep (fun x _ hl=>hz.block x hl) (fun _ h _=>h))).mono fun e z2 hh=>⟨hh.1,A7 hz hh.2⟩
  ·rw[hm]
   exact(Me c d ia ic z (hrow z (A7 hbv hz))).mono fun e z2 hh=>⟨hh.1,A7 hz hh.2⟩
  have hbz:=A7 hbv hz
  have hzz:=hz.size
  refine Zs (Ed2 (b62:=false) h6 rfl Zd fun a7 h7=>B9 (h7.look 62 rfl) ?_)
  have hDz:=hDv.below hz hDv.lt
  have hxz:=h.old hbz
  obtain⟨hth,_⟩:=hxz.th o _ hmem
  obtain⟨ka,kc,s1,_⟩:=hth
  refine Zs (Cl9 (d:=pr c d) (m:=m) (g7:=pt o) (C0:=fun q y=>(∃s:S3,q=⟨none,0,s.d,s.c⟩/\RowN z.heap.size y s [c,d])/\Below z.heap.size z y) h7 rfl rfl (C6 hDz rfl) ?_ (fun q y hq=>D1 (s1.below hq.2 s1.lt) (by show 0+11<=11;omega)) fun a8 q y hq h8=> ?_)
  ·have:=Us c d ia ic z (hrow z hbz)
   rw[<-hm] at this
   refine this.mono ?_
   rintro e y ⟨s,r1,r2,r3⟩
   exact⟨⟨none,0,s.d,s.c⟩,r1,⟨s,rfl,r2⟩,r3⟩
  obtain⟨⟨s,rfl,hs⟩,hy⟩:=hq
  obtain⟨q1,q2,q3,q4⟩:=RowN.row hs
  have hxy:=hxz.old hy
  refine Zs (Cm0 h8 fun a9 h9=>wp_ret ?_)
  refine G7 rfl h9 rfl ⟨⟨_,rfl⟩, ?_⟩
  have e0:U8 T (.ref 1 o) c d=Nr T o (.obj c d):=by unfold U8;simp only[hg]
  rw[e0]
  have hMs:Moved (own o) z (y.setCells (pt o) 0 ((pr c d).cs ⟨none,0,s.d,s.c⟩).toList):=(Moved.of_below hy).set (.inl hpo) _ _
  have hss:(y.setCells (pt o) 0 ((pr c d).cs ⟨none,0,s.d,s.c⟩).toList).heap.size=y.heap.size:=B7 _ _ _ _
  have hpz:=s1.lt
  have hQ:=hxz.upd hmem hMs (th:=.obj c d) rfl ⟨s.d,s.c,Jj (pr c d) ⟨none,0,s.d,s.c⟩ (s1.below hy s1.lt) rfl,q1.keep (fun x hx hl=>B5 _ _ _ Zo) (fun x hx _=>.inr ⟨hx.1,by rw[hss];exact hx.2⟩),q3,q4⟩
  exact HQ.pre hbz hQ
end Go.Proofs.YtbjegfpfmnleeaaGreatDoor
