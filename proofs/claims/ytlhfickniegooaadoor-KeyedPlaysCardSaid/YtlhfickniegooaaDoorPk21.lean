/-
   Written by an AI agent.
-/
import Derived.Test.YtlhfickniegooaaDoorPk20
import Derived.Test.YtlhfickniegooaaDoorPk17
import Derived.Test.YtlhfickniegooaaDoorPk19
namespace Go.Proofs.YtlhfickniegooaaDoor
open Go.RowKit
set_option maxRecDepth 100000
theorem entInf:(Tryd.prog.info? 82).map (fun i=>i.size)=some 27:=by kernel_rfl
theorem neq_other(w:World)(g g':Nat)(h:g≠g'){t t':TypeId}(cs cs':Array Value)(h1:Blk w g t cs)(h2:Blk w g' t' cs'):(binOp .neq 72 (.pointer (some ⟨g,0,none⟩)) (.pointer (some ⟨g',0,none⟩))).run Tryd.prog w=.ok (.bool true) w:=by
 obtain⟨j,hj,hs⟩:=Option.map_eq_some_iff.1 entInf
 have h: ∀d:Nat,(Op.equalIn (d+1) 72 (.pointer (some ⟨g,0,none⟩)) (.pointer (some ⟨g',0,none⟩))).run Tryd.prog w=.ok false w:=fun d=>by
  simp[Op.equalIn,run_underlying Tryd.underlying72,sizeOf,typeInfo,hj,hs,run_sameAddr_other w (a:=⟨g,0,none⟩) (b:=⟨g',0,none⟩) (fun e=>h (congrArg Addr.block e)) h1 h2]
 simp only[binOp]
 simp[Op.equal,Op.maxDepth,h 9999]
theorem neq_same(w:World)(g:Nat):(binOp .neq 72 (.pointer (some ⟨g,0,none⟩)) (.pointer (some ⟨g,0,none⟩))).run Tryd.prog w=.ok (.bool false) w:=by
 obtain⟨j,hj,hs⟩:=Option.map_eq_some_iff.1 entInf
 have h: ∀d:Nat,(Op.equalIn (d+1) 72 (.pointer (some ⟨g,0,none⟩)) (.pointer (some ⟨g,0,none⟩))).run Tryd.prog w=.ok true w:=fun d=>by
  simp[Op.equalIn,run_underlying Tryd.underlying72,sizeOf,typeInfo,hj,hs,run_sameAddr_same]
 simp only[binOp]
 simp[Op.equal,Op.maxDepth,h 9999]
section
variable {w w':World} {m hb n:Nat} {fr tx:Option Addr} {many:Int} {H N B A:Nat->Option Addr} {R:List En} {D:Nat->Prop}
def atV(k:Nat)(H N:Nat->Option Addr):Option En->Option Addr
 | none=>H k
 | some x=>N x.g
theorem Raw.at_load(h:Raw w m hb n fr tx many H N B A R D){k:Nat}(hk:k<n){o:Option En}(ho: ∀x,o=some x->x∈R){ga oa:Nat}(e:atA hb k o=⟨ga,oa,none⟩):Lds Tryd.prog 72 (.pointer (some ⟨ga,oa,none⟩)) (.pointer (atV k H N o)) w:=by
 rw[<-e]
 cases o with
 | none=>
  obtain⟨t,hs,h1,_,h3,_⟩:=h.heads
  exact one_load h1 Tryd.underlying72 rfl (h3 k hk)
 | some x=>
  obtain⟨mk,mv,h1,_⟩:=h.ent x (ho x rfl)
  exact one_load h1 Tryd.underlying72 rfl rfl
theorem Raw.at_store(h:Raw w m hb n fr tx many H N B A R D){X:List En}{e:En}(hX: ∀y∈X,y∈R)(hk:e.hash.toNat % n<n){ga oa:Nat}(ea:atA hb (e.hash.toNat % n) (lastB n e.hash X)=⟨ga,oa,none⟩)(p:Option Addr):
  (Instr.storeAt 72 (.pointer (some ⟨ga,oa,none⟩)) (.pointer p)).run Tryd.prog w=.ok () (w.setCells ga oa [.pointer p])/\Raw (w.setCells ga oa [.pointer p]) m hb n fr tx many (dropH n X e H p) (dropN n X e N p) B A R D/\(ga=hb\/∃y∈R,ga=y.g):=by
 unfold dropH dropN
 cases hl:lastB n e.hash X with
 | none=>
  rw[hl] at ea
  injection ea with e1 e2
  subst e1 e2
  obtain⟨t,hs,h1,h2,h3,_⟩:=h.heads
  exact⟨one_store h1 ptrInf (by omega) rfl,h.setH _ hk p,.inl rfl⟩
 | some x=>
  rw[hl] at ea
  injection ea with e1 e2
  subst e1 e2
  have hx:=hX x (lastB_mem hl).1
  obtain⟨mk,mv,h1,_⟩:=h.ent x hx
  exact⟨one_store h1 ptrInf (by show 23<27;omega) rfl,h.setN hx p,.inr ⟨x,hx,rfl⟩⟩
end
theorem idx_of{P S:List En}{y:En}(hnd:((P++y::S).map (·.g)).Nodup):((P++y::S).map (·.g)).idxOf y.g=P.length:=by
 rw[List.map_append,List.map_cons] at hnd ⊢
 rw[List.idxOf_append,if_neg]
 ·simp
 ·intro hm
  exact(List.nodup_append.1 hnd).2.2 _ hm _ List.mem_cons_self rfl
def DropR(m:Nat)(R:List En)(D O:Nat->Prop)(d:Dt)(w:World)(e:Ending)(w':World):Prop:=
 if rB d=false then Below w.heap.size w w'/\∃x,e=.returned (.tuple #[.bool false,x])/\WrongAt w w' x
 else if kB d=false then Below w.heap.size w w'/\∃x,e=.returned (.tuple #[.bool false,x])/\FaultAt w w' x keyW (heldS d.h d.k)
 else match fE R d with
  | none=>Below w.heap.size w w'/\e=.returned (.tuple #[.bool false,.nilIface])
  | some x=>e=.returned (.tuple #[.bool true,.nilIface])/\∃X Z,R=X++x::Z/\MapAt w' m (X++Z) D O/\Moved O w w'
set_option maxHeartbeats 2000000 in
theorem kdrop_any{w:World}{m:Nat}{R:List En}{D O:Nat->Prop}(hM:MapAt w m R D O)(hL:R.length<=9223372036854775807){d:Dt}{md:Dm}{S:Nat->Prop}(ho:d.ok)(hd:d.at w S md)(hown:OwnAt w):
  Calls Tryd.prog 11 #[.pointer (some ⟨m,0,none⟩),.agg (d.cs md)] w (DropR m R D O d w):=by
 refine calls_ev (vs:=[.pointer (some ⟨m,0,none⟩),.agg (d.cs md)]) 107 Tryd.func11 kd_body (by kernel_rfl) (by simp) fun a0 h0=> ?_
 unfold kdBody
 refine wp_seq (rg_wp (kd_r0 h0 rfl fun a1 h1=> ?_))
 have hA1:=Blk.new w 31 (d.cs md)
 have hb1:=bl_alloc (Below.refl w.heap.size w) (.cells (d.cs md) 31)
 generalize w.alloc (.cells (d.cs md) 31)=w1 at hA1 hb1 ⊢
 have hd1:=hd.old hb1
 refine wp_seq (wp_seq (rg_wp (kd_r1 (C0:=fun v u=>(if rB d=true then v=.nilIface else WrongAt w1 u v)/\Below w1.heap.size w1 u) h1 rfl (dat_whole hA1) (kright_one ho hd1 (hown.old hb1)) fun a2 v2 w2 hx h2=> ?_)))
 obtain⟨hv,hb2⟩:=hx
 have hb02:=bl_trans hb1 hb2
 have z1:=hb1.size
 have z2:=hb2.size
 cases hr:rB d with
 | false=>
  rw[hr,if_neg (by decide)] at hv
  obtain⟨g,rfl,hg,hgs⟩:=hv
  refine wp_seq (rg_wp (kd_r2e h2 rfl fun a3 h3=>wp_cond_true (h3.look 15 rfl) ?_))
  refine wp_seq (rg_wp (kd_r3 h3 rfl fun a4 h4=>wp_ret (then_ret ?_)))
  refine ret2 rfl h4 rfl rfl ?_
  unfold DropR
  rw[if_pos hr]
  exact⟨hb02,_,rfl,g,rfl,hg,by omega⟩
 | true=>
 rw[hr,if_pos rfl] at hv
 subst hv
 refine wp_seq (rg_wp (kd_r2n h2 rfl fun a3 h3=>wpo (h3.look 15 rfl) ?_))
 have hA2:=hA1.below hb2 hA1.lt
 refine wp_seq (rg_wp (kd_r4 (C0:=fun x y z u=> ∃q,x=.pointer q/\Below w2.heap.size w2 u/\if kB d=true then q=pO (fE R d)/\z=.nilIface/\y=.int .u64 (hV d) else q=none/\FaultAt w2 u z keyW (heldS d.h d.k)) h3 rfl rfl (dat_whole hA2) ((kfind_any (hM.old hb02) ho hr (hd.old hb02) (hown.old hb02)).mono fun e w' hh=>by
  obtain⟨q1,q2⟩:=hh
  cases hk:kB d with
  | true=>
   rw[hk,if_pos rfl] at q2
   exact⟨_,_,_,q2,_,rfl,q1,by rw[if_pos rfl];exact⟨rfl,rfl,rfl⟩⟩
  | false=>
   rw[hk,if_neg (by decide)] at q2
   obtain⟨v,q2,q3⟩:=q2
   exact⟨_,_,_,q2,_,rfl,q1,by rw[if_neg (by decide)];exact⟨rfl,q3⟩⟩) fun a4 x4 y4 z4 w4 hx h4=> ?_))
 obtain⟨q,rfl,hb4,hq⟩:=hx
 have hb04:=bl_trans hb02 hb4
 have z4:=hb4.size
 cases hk:kB d with
 | false=>
  rw[hk,if_neg (by decide)] at hq
  obtain⟨rfl,g,rfl,hg,hgs⟩:=hq
  refine wp_seq (wp_seq (rg_wp (kd_r5n h4 rfl (fun w=>eql_nn w) fun a5 h5=>wp_cond_true (h5.look 25 rfl) ?_)))
  refine wp_seq (rg_wp (kd_r6 h5 rfl fun a6 h6=>wp_ret (then_ret ?_)))
  refine ret2 rfl h6 rfl rfl ?_
  unfold DropR
  rw[if_neg (by rw[hr];decide),if_pos hk]
  exact⟨hb04,_,rfl,g,rfl,hg,by omega⟩
 | true=>
 rw[hk,if_pos rfl] at hq
 obtain⟨rfl,rfl,rfl⟩:=hq
 cases hf:fE R d with
 | none=>
  have hpe:pO (none:Option En)=none:=rfl
  rw[hf,hpe] at h4
  refine wp_seq (wp_seq (rg_wp (kd_r5n h4 rfl (fun w=>eql_nn w) fun a5 h5=>wp_cond_true (h5.look 25 rfl) ?_)))
  refine wp_seq (rg_wp (kd_r6 h5 rfl fun a6 h6=>wp_ret (then_ret ?_)))
  refine ret2 rfl h6 rfl rfl ?_
  unfold DropR
  rw[if_neg (by rw[hr];decide),if_neg (by rw[hk];decide),hf]
  exact⟨hb04,rfl⟩
 | some x=>
 have hpe:pO (some x)=some ⟨x.g,0,none⟩:=rfl
 rw[hf,hpe] at h4
 have hxR:=fE_mem hf
 have hxh:x.hash=hV d:=by
  have:=List.find?_some hf
  simp only[Bool.and_eq_true,beq_iff_eq] at this
  exact this.1
 rw[<-hxh] at h4
 have hM0:=hM
 obtain⟨hb,n,H,N,B,A,hn0,hn1,hR,hH,hLk,hKO,o1,o2,o3,o4⟩:=hM.old hb04
 obtain⟨X,Z,hXZ⟩:=List.append_of_mem hxR
 obtain⟨_,_,ok3,ok4⟩:=hR.ok x hxR
 have hmod:x.hash % (n:Int)=((x.hash.toNat % n:Nat):Int):=by rw[Int.natCast_emod,Int.toNat_of_nonneg ok3]
 have hklt:x.hash.toNat % n<n:=Nat.mod_lt _ hn0
 refine wp_seq (wp_seq (rg_wp (kd_r5e h4 rfl (fun w=>eql_none ⟨x.g,0,none⟩ w) fun a5 h5=>wpo (h5.look 25 rfl) ?_)))
 obtain⟨cs,hBm,hz,c8,_⟩:=hR.map
 refine wp_seq (rg_wp (kd_r7 h5 rfl rfl (one_load hBm Tryd.underlying74 rfl c8) (fun w=>conv_u n (by omega) w) (fun w=>rem_u ok3 ok4 (by omega) w) (fun w=>by rw[hmod];exact ix_u hklt w) fun a6 mm h6=> ?_))
 have hb06:Below w.heap.size w (w4.drewN mm):=below_drewN hb04 mm
 have hR6:Raw (w4.drewN mm) m hb n (pO R.getLast?) (pO R.head?) (R.length:Int) H N B A R D:=hR.old (below_drewN (Below.refl _ _) mm)
 have hs6:(w4.drewN mm).heap.size=w4.heap.size:=rfl
 generalize w4.drewN mm=w6 at hb06 hR6 hs6 ⊢
 have hnd:=hR6.nd
 have rest: ∀(a7:Act) (ga oa:Nat),Sl 107 a7 [(10,.pointer (some ⟨ga,oa,none⟩)),(7,.pointer (some ⟨x.g,0,none⟩)),(0,.pointer (some ⟨m,0,none⟩))]->atA hb (x.hash.toNat % n) (lastB n x.hash X)=⟨ga,oa,none⟩->
   Code.wp Tryd.prog (.seq (r_kd 10) (.seq (.seq (r_kd 11) (.cond (.tmp 60) (r_kd 12) (r_kd 13))) (.seq (.seq (r_kd 14) (.cond (.tmp 82) (r_kd 15) (r_kd 16))) (.seq (r_kd 17) (.seq (r_kd 18) .ret))))) (bodyPost Tryd.prog Tryd.f11 (DropR m R D O d w)) a7 w6:=by
  intro a7 ga oa h7 ea
  obtain⟨hN,hB,hA⟩:=hLk X x Z hXZ
  have hXR: ∀y∈X,y∈R:=fun y hy=>by rw[hXZ];exact List.mem_append_left _ hy
  have hZR: ∀y∈Z,y∈R:=fun y hy=>by rw[hXZ];exact List.mem_append_right _ (List.mem_cons_of_mem _ hy)
  have hOw: ∀b,O b->b<w.heap.size:=by
   obtain⟨_,_,_,_,_,_,_,_,_,_,_,_,_,_,_,h⟩:=hM0
   exact h
  have hlen:R.length=X.length+1+Z.length:=by rw[hXZ];simp;omega
  obtain⟨hst,hR7,hgo⟩:=hR6.at_store (X:=X) (e:=x) hXR hklt ea (N x.g)
  obtain⟨mk,mv,hBx,_⟩:=hR6.ent x hxR
  refine wp_seq (rg_wp (kd_r10 h7 rfl rfl (one_load hBx Tryd.underlying72 rfl (v:=.pointer (N x.g)) rfl) hst fun a8 h8=> ?_))
  have hMv7:Moved O w (w6.setCells ga oa [.pointer (N x.g)]):=(Moved.of_below hb06).set (.inl (hgo.elim (fun e=>e ▸ o2) (fun⟨y,hy,e⟩=>e ▸ o3 y hy))) _ _
  have hndN:NOk n (X++Z) (dropN n X x N (N x.g)):=by
   rw[hN]
   exact NOk.drop (hXZ ▸ hLk.nok) (hXZ ▸ hnd)
  have hndH:HeadsOk n (X++Z) (dropH n X x H (N x.g)):=by
   rw[hN]
   exact HeadsOk.drop (hXZ ▸ hH)
  generalize w6.setCells ga oa [.pointer (N x.g)]=w7 at hR7 hMv7 ⊢
  generalize dropH n X x H (N x.g)=H' at hR7 hndH
  generalize dropN n X x N (N x.g)=N' at hR7 hndN
  have tail3: ∀(a9:Act) (w9:World) (fr' to':Option Addr) (B' A':Nat->Option Addr),Sl 107 a9 [(0,.pointer (some ⟨m,0,none⟩))]->Raw w9 m hb n fr' to' (R.length:Int) H' N' B' A' R D->fr'=pO (X++Z).getLast? ->to'=pO (X++Z).head? ->B'=dropB X B (pO Z.head?)->A'=dropA Z A (pO X.getLast?)->Moved O w w9->
    Code.wp Tryd.prog (.seq (r_kd 17) (.seq (r_kd 18) .ret)) (bodyPost Tryd.prog Tryd.f11 (DropR m R D O d w)) a9 w9:=by
   intro a9 w9 fr' to' B' A' h9 hR9 e1 e2 e3 e4 hMv9
   subst e1 e2 e3 e4
   obtain⟨cs,hBm,hz,_,_,_,c11⟩:=hR9.map
   refine wp_seq (rg_wp (kd_r17 (ny:=R.length) h9 rfl (one_load hBm Tryd.underlying3 rfl c11) (by omega) (one_store hBm (by kernel_rfl) (by omega) rfl) fun a10 h10=> ?_))
   have hR10:=hR9.setMany ((R.length:Int)-1)
   have hMv10:=hMv9.set (.inl o1) 11 [.int .i64 ((R.length:Int)-1)]
   generalize w9.setCells m 11 [.int .i64 ((R.length:Int)-1)]=w10 at hR10 hMv10 ⊢
   refine wp_seq (rg_wp (kd_r18 h10 fun a11 h11=>wp_ret ?_))
   refine ret2 rfl h11 rfl rfl ?_
   unfold DropR
   rw[if_neg (by rw[hr];decide),if_neg (by rw[hk];decide),hf]
   have hsub:(X++Z).Sublist R:=by rw[hXZ];exact List.Sublist.append (List.Sublist.refl _) (List.sublist_cons_self _ _)
   exact⟨rfl,X,Z,hXZ,⟨hb,n,_,_,_,_,hn0,hn1,(hR10.less hsub).by rfl rfl (by rw[List.length_append];omega) (fun _ _=>rfl) (fun _ _=>⟨rfl,rfl,rfl⟩),hndH,Links.drop (hXZ ▸ hLk) (hXZ ▸ hnd) hndN,KeysOk.drop (hXZ ▸ hKO),o1,o2,(fun e he=>o3 e (hsub.subset he)),fun b hb=>by have:=hOw b hb;have:=hMv10.size;omega⟩,hMv10⟩
  have tail2: ∀(a9:Act) (w9:World) (fr':Option Addr) (A':Nat->Option Addr),Sl 107 a9 [(7,.pointer (some ⟨x.g,0,none⟩)),(0,.pointer (some ⟨m,0,none⟩))]->Raw w9 m hb n fr' (pO R.head?) (R.length:Int) H' N' B A' R D->fr'=pO (X++Z).getLast? ->A'=dropA Z A (pO X.getLast?)->A' x.g=pO X.getLast? ->Moved O w w9->
    Code.wp Tryd.prog (.seq (.seq (r_kd 14) (.cond (.tmp 82) (r_kd 15) (r_kd 16))) (.seq (r_kd 17) (.seq (r_kd 18) .ret))) (bodyPost Tryd.prog Tryd.f11 (DropR m R D O d w)) a9 w9:=by
   intro a9 w9 fr' A' h9 hR9 e1 e4 hAx hMv9
   obtain⟨mk,mv,hBx,_⟩:=hR9.ent x hxR
   obtain⟨cs,hBm,hz,_,_,_,c11⟩:=hR9.map
   rw[hAx,hB] at hBx
   cases hq:X.getLast? with
   | none=>
    rw[hq] at hBx
    rw[List.getLast?_eq_none_iff] at hq
    refine wp_seq (wp_seq (rg_wp (kd_r14n h9 rfl (one_load hBx Tryd.underlying72 rfl (v:=.pointer none) rfl) (fun w=>eql_nn w) fun a10 h10=>wp_cond_true (h10.look 82 rfl) ?_)))
    refine rg_wp (kd_r15 h10 rfl rfl (one_load hBx Tryd.underlying72 rfl (v:=.pointer (pO Z.head?)) rfl) (one_store hBm ptrInf (by omega) rfl) fun a11 h11=> ?_)
    exact tail3 a11 _ fr' _ B A' (h11.to ⟨rfl,trivial⟩) (hR9.setTo _) e1 (by rw[hq];rfl) (by rw[hq];rfl) e4 (hMv9.set (.inl o1) _ _)
   | some y=>
    have hyX:=List.mem_of_getLast? hq
    rw[hq] at hBx
    have hpy:pO (some y)=some ⟨y.g,0,none⟩:=rfl
    rw[hpy] at hBx
    have hR9':Raw (w9.drewN 1) m hb n fr' (pO R.head?) (R.length:Int) H' N' B A' R D:=hR9.old (below_drewN (Below.refl _ _) 1)
    obtain⟨mk',mv',hBy,_⟩:=hR9'.ent y (hXR y hyX)
    refine wp_seq (wp_seq (rg_wp (kd_r14e h9 rfl (one_load hBx Tryd.underlying72 rfl (v:=.pointer (some ⟨y.g,0,none⟩)) rfl) (fun w=>eql_none ⟨y.g,0,none⟩ w) fun a10 h10=>wp_cond_false (h10.look 82 rfl) ?_)))
    refine rg_wp (kd_r16 h10 rfl (one_load hBx Tryd.underlying72 rfl (v:=.pointer (some ⟨y.g,0,none⟩)) rfl) (one_load hBx Tryd.underlying72 rfl (v:=.pointer (pO Z.head?)) rfl) (one_store hBy ptrInf (by show 24<27;omega) rfl) fun a11 h11=> ?_)
    have hMd:Moved O w (w9.drewN 1):=⟨hMv9.size,hMv9.os,hMv9.tape,hMv9.output,hMv9.block⟩
    exact tail3 a11 _ fr' _ _ A' (h11.to ⟨rfl,trivial⟩) (hR9'.setB (hXR y hyX) _) e1 (by
     rw[hXZ]
     cases X with
     | nil=>cases hyX
     | cons z X=>rfl) (by unfold dropB;rw[hq]) e4 (hMd.set (.inl (o3 y (hXR y hyX))) _ _)
  obtain⟨mk,mv,hBx,_⟩:=hR7.ent x hxR
  obtain⟨cs,hBm,hz,_,_,_,c11⟩:=hR7.map
  rw[hB,hA] at hBx
  cases Z with
  | nil=>
   refine wp_seq (wp_seq (rg_wp (kd_r11n h8 rfl (one_load hBx Tryd.underlying72 rfl (v:=.pointer none) rfl) (fun w=>eql_nn w) fun a10 h10=>wp_cond_true (h10.look 60 rfl) ?_)))
   refine rg_wp (kd_r12 h10 rfl rfl (one_load hBx Tryd.underlying72 rfl (v:=.pointer (pO X.getLast?)) rfl) (one_store hBm ptrInf (by omega) rfl) fun a11 h11=> ?_)
   exact tail2 a11 _ _ A (h11.to ⟨rfl,rfl,trivial⟩) (hR7.setFrom _) (by rw[List.append_nil]) rfl hA (hMv7.set (.inl o1) _ _)
  | cons z Z=>
   have hzR:z∈R:=hZR z (by simp)
   have hzx:x.g≠z.g:=fun e=>by
    rw[hXZ,List.map_append,List.map_cons,List.map_cons,List.nodup_append] at hnd
    exact(List.nodup_cons.1 hnd.2.1).1 (by rw[e];exact List.mem_cons_self)
   have hR8:Raw (w7.drewN 1) m hb n (pO R.getLast?) (pO R.head?) (R.length:Int) H' N' B A R D:=hR7.old (below_drewN (Below.refl _ _) 1)
   obtain⟨mk',mv',hBz,_⟩:=hR8.ent z hzR
   refine wp_seq (wp_seq (rg_wp (kd_r11e h8 rfl (one_load hBx Tryd.underlying72 rfl (v:=.pointer (some ⟨z.g,0,none⟩)) rfl) (fun w=>eql_none ⟨z.g,0,none⟩ w) fun a10 h10=>wp_cond_false (h10.look 60 rfl) ?_)))
   refine rg_wp (kd_r13 h10 rfl (one_load hBx Tryd.underlying72 rfl (v:=.pointer (some ⟨z.g,0,none⟩)) rfl) (one_load hBx Tryd.underlying72 rfl (v:=.pointer (pO X.getLast?)) rfl) (one_store hBz ptrInf (by show 25<27;omega) rfl) fun a11 h11=> ?_)
   have hMd:Moved O w (w7.drewN 1):=⟨hMv7.size,hMv7.os,hMv7.tape,hMv7.output,hMv7.block⟩
   exact tail2 a11 _ _ _ (h11.to ⟨rfl,rfl,trivial⟩) (hR8.setA hzR _) (by
    rw[hXZ,show X++x::z::Z=(X++[x])++z::Z by simp,List.getLast?_append,List.getLast?_append,List.getLast?_append]
    cases hq:(z::Z).getLast? with
    | none=>rw[List.getLast?_eq_none_iff] at hq;cases hq
    | some y=>rfl) rfl ((upd_ne hzx).trans hA) (hMd.set (.inl (o3 z hzR)) _ _)
 refine wp_seq (wp_block ?_)
 refine wp_loop (fun a' wr=> ∃X1 X2,X=X1++X2/\atV (x.hash.toNat % n) H N (lastB n x.hash X1)=pO ((X2++x::Z).find? (bkB n x.hash))/\Sl 107 a' [(10,.pointer (some (atA hb (x.hash.toNat % n) (lastB n x.hash X1)))),(7,.pointer (some ⟨x.g,0,none⟩)),(0,.pointer (some ⟨m,0,none⟩))]/\wr=w6)
  (fun a' _=>match slot a' 10 with
   | .pointer (some p)=>if p.block=hb then R.length+1 else R.length-(R.map (·.g)).idxOf p.block
   | _=>0)
  ⟨[],X,rfl, ?_,h6.to ⟨rfl,rfl,rfl,trivial⟩,rfl⟩ ?_
 ·show H _=_
  rw[hH _ hklt,hXZ]
  rfl
 rintro a7 w7 ⟨X1,X2,hX12,hat,h7,rfl⟩
 unfold kdL0
 rw[h7.look 10 rfl]
 have hXR1: ∀y∈X1,y∈R:=fun y hy=>by rw[hXZ,hX12];simp[hy]
 have hin: ∀y,lastB n x.hash X1=some y->y∈R:=fun y hy=>hXR1 y (lastB_mem hy).1
 obtain⟨ga,oa,hga⟩: ∃ga oa,atA hb (x.hash.toNat % n) (lastB n x.hash X1)=⟨ga,oa,none⟩:=by
  cases lastB n x.hash X1 with
  | none=>exact⟨_,_,rfl⟩
  | some y=>exact⟨_,_,rfl⟩
 have hld:=hR6.at_load hklt hin hga
 rw[hat] at hld
 have hxb:bkB n x.hash x=true:=by unfold bkB;simp
 have h7':=h7
 rw[hga] at h7'
 cases hfy:(X2++x::Z).find? (bkB n x.hash) with
 | none=>exact absurd hxb (by simpa using List.find?_eq_none.1 hfy x (by simp))
 | some y=>
 rw[hfy] at hld
 have hyR:y∈R:=by
  have:=List.mem_of_find?_eq_some hfy
  rw[hXZ,hX12,List.append_assoc]
  exact List.mem_append_right _ this
 obtain⟨mk,mv,hBx,_⟩:=hR6.ent x hxR
 obtain⟨mk',mv',hBy,_⟩:=hR6.ent y hyR
 by_cases hyx:y.g=x.g
 ·obtain rfl:=nd_eq hnd hyR hxR hyx
  refine wp_seq (wp_seq (rg_wp (kd_r8 h7' rfl rfl hld (neq_same _ _) fun a8 h8=>wpx (h8.look 44 rfl) ?_)))
  refine then_exit' (in_block2 ?_)
  refine rest a8 ga oa (h8.to ⟨rfl,rfl,rfl,trivial⟩) ?_
  have hX2:X2.find? (bkB n y.hash)=none:=by
   cases hq:X2.find? (bkB n y.hash) with
   | none=>rfl
   | some z=>
    rw[List.find?_append,hq] at hfy
    injection hfy with hzy
    have hzX:=List.mem_of_find?_eq_some hq
    rw[hXZ,List.map_append,List.map_cons,List.nodup_append] at hnd
    exact absurd (congrArg En.g hzy) (hnd.2.2 _ (List.mem_map.2 ⟨z,by rw[hX12];exact List.mem_append_right _ hzX,rfl⟩) _ List.mem_cons_self)
  rw[hX12,lastB_more hX2]
  exact hga
 ·refine wp_seq (wp_seq (rg_wp (kd_r8 h7' rfl rfl hld (neq_other _ _ _ hyx _ _ hBy hBx) fun a8 h8=>wpn (h8.look 44 rfl) ?_)))
  obtain⟨hyb,P,S2,hPS,hno⟩:=List.find?_eq_some_iff_append.1 hfy
  rcases split_at hPS with⟨X3,hX2,hS⟩ | ⟨P',hP1,hP2⟩
  ·have hRy:R=(X1++P)++y::(X3++x::Z):=by rw[hXZ,hX12,hX2];simp
   have hNy:N y.g=pO ((X3++x::Z).find? (bkB n x.hash)):=by
    have:=(hLk (X1++P) y (X3++x::Z) hRy).1
    rw[bk_of hyb] at this
    exact this
   have hl:lastB n x.hash (X1++(P++[y]))=some y:=by rw[<-List.append_assoc];exact lastB_one hyb
   refine wp_block (wpl (rg_wp (kd_r9 h8 rfl hld fun a9 h9=>block_norm ⟨⟨X1++(P++[y]),X3,by rw[hX12,hX2];simp,by rw[hl];exact hNy, ?_,rfl⟩, ?_⟩)))
   ·rw[hl]
    exact h9.to ⟨rfl,rfl,rfl,trivial⟩
   ·rw[h9.look 10 rfl]
    show(if y.g=hb then R.length+1 else R.length-(R.map (·.g)).idxOf y.g)<(if(atA hb (x.hash.toNat % n) (lastB n x.hash X1)).block=hb then R.length+1 else R.length-(R.map (·.g)).idxOf (atA hb (x.hash.toNat % n) (lastB n x.hash X1)).block)
    rw[if_neg (hR6.far y hyR).2]
    have hiy:(R.map (·.g)).idxOf y.g=(X1++P).length:=by
     rw[hRy]
     exact idx_of (hRy ▸ hnd)
    have hlen:R.length=(X1++P).length+1+(X3++x::Z).length:=by
     conv=>lhs;rw[hRy]
     simp only[List.length_append,List.length_cons];omega
    rw[hiy]
    cases hq:lastB n x.hash X1 with
    | none=>
     rw[if_pos (show(atA hb (x.hash.toNat % n) none).block=hb from rfl)]
     omega
    | some z=>
     obtain⟨hzX,_⟩:=lastB_mem hq
     obtain⟨P1,S1,hX1⟩:=List.append_of_mem hzX
     have hRz:R=P1++z::(S1++P++y::(X3++x::Z)):=by rw[hRy,hX1];simp
     have hiz:(R.map (·.g)).idxOf z.g=P1.length:=by
      rw[hRz]
      exact idx_of (hRz ▸ hnd)
     show _<(if z.g=hb then _ else R.length-(R.map (·.g)).idxOf z.g)
     rw[if_neg (hR6.far z (hXR1 z hzX)).2,hiz]
     have:X1.length=P1.length+1+S1.length:=by rw[hX1];simp;omega
     simp only[List.length_append] at hlen ⊢
     omega
  ·exfalso
   cases P' with
   | nil=>
    injection hP1 with q1 q2
    exact hyx (by rw[q1])
   | cons p P'=>
    injection hP1 with q1 q2
    have:=hno x (by rw[hP2,<-q1];simp)
    rw[hxb] at this
    cases this
end Go.Proofs.YtlhfickniegooaaDoor

namespace Go.Proofs.YtlhfickniegooaaDoor
open Go.RowKit
set_option maxRecDepth 100000
section
variable {w:World} {m:Nat} {R:List En} {D O:Nat->Prop} {d v:Dt} {md mv:Dm} {S T:Nat->Prop}
theorem put_ok(hM:MapAt w m R D O)(h0: ¬O 0)(hL:R.length<=549755813887)(ho:d.ok)(hvo:v.ok)(hd:d.at w S md)(hv:v.at w T mv)(hS: ∀b,S b->¬O b)(hT: ∀b,T b->¬O b)(hown:OwnAt w)(hr:rB d=true)(hrv:rB v=true)(hk:kB d=true):
  Calls Tryd.prog 9 #[.pointer (some ⟨m,0,none⟩),.agg (d.cs md),.agg (v.cs mv)] w fun e w'=>e=.returned .nilIface/\∃R',PutNew R d v R'/\PutOk w w' m R' D O:=
 (kput_any hM h0 hL ho hvo hd hv hS hT hown).mono fun e w' hh=>by
  unfold PutR at hh
  rw[hr,hrv,if_neg (by decide),if_neg (by rw[hk];decide)] at hh
  exact hh
theorem get_some(hM:MapAt w m R D O)(ho:d.ok)(hd:d.at w S md)(hown:OwnAt w)(hr:rB d=true)(hk:kB d=true){x:En}(hf:fE R d=some x):
  Calls Tryd.prog 10 #[.pointer (some ⟨m,0,none⟩),.agg (d.cs md)] w fun e w'=> ∃m',e=.returned (.tuple #[.agg (x.val.cs m'),.bool true,.nilIface])/\(x.val.sep w' w.heap.size w'.heap.size m'/\Below w.heap.size w w'):=
 (kget_any hM ho hd hown).mono fun e w' hh=>by
  obtain⟨hb,hh⟩:=hh
  rw[if_neg (by rw[hr];decide),if_neg (by rw[hk];decide),hf] at hh
  obtain⟨m',h1,h2⟩:=hh
  exact⟨m',h1,h2,hb⟩
theorem get_none(hM:MapAt w m R D O)(ho:d.ok)(hd:d.at w S md)(hown:OwnAt w)(hr:rB d=true)(hk:kB d=true)(hf:fE R d=none):
  Calls Tryd.prog 10 #[.pointer (some ⟨m,0,none⟩),.agg (d.cs md)] w fun e w'=>e=.returned (.tuple #[.agg zeroC,.bool false,.nilIface])/\Below w.heap.size w w':=
 (kget_any hM ho hd hown).mono fun e w' hh=>by
  obtain⟨hb,hh⟩:=hh
  rw[if_neg (by rw[hr];decide),if_neg (by rw[hk];decide),hf] at hh
  exact⟨hh,hb⟩
theorem drop_some(hM:MapAt w m R D O)(hL:R.length<=9223372036854775807)(ho:d.ok)(hd:d.at w S md)(hown:OwnAt w)(hr:rB d=true)(hk:kB d=true){x:En}(hf:fE R d=some x):
  Calls Tryd.prog 11 #[.pointer (some ⟨m,0,none⟩),.agg (d.cs md)] w fun e w'=>e=.returned (.tuple #[.bool true,.nilIface])/\∃X Z,R=X++x::Z/\MapAt w' m (X++Z) D O/\Moved O w w':=
 (kdrop_any hM hL ho hd hown).mono fun e w' hh=>by
  unfold DropR at hh
  rw[if_neg (by rw[hr];decide),if_neg (by rw[hk];decide),hf] at hh
  exact hh
end
theorem whole_right(n:Int):rB (wholeD n)=true/\kB (wholeD n)=true:=⟨by kernel_rfl,by kernel_rfl⟩
theorem whole_eq(a b:Int):eqO (wholeD a) (wholeD b)=(a==b):=by
 have h:eqO (wholeD a) (wholeD b)=decide (a=b):=by simp[eqO,equalD,equalH,oneB,wholeD,pD,pH]
 rw[h]
 by_cases q:a=b<;>simp[q]
end Go.Proofs.YtlhfickniegooaaDoor

namespace Go.Proofs.YtlhfickniegooaaDoor
open Go.RowKit
set_option maxRecDepth 100000
abbrev reT:TypeId:=110
abbrev rfT:TypeId:=56
theorem re_len(x:Re):x.cs.toList.length=23:=rfl
theorem re_one(x:Re): ∀u∈x.cs.toList,u.oneCell'=true:=by
 intro u hu
 simp only[Re.cs,reA,List.mem_cons,List.not_mem_nil,or_false] at hu
 rcases hu with rfl | rfl | rfl | rfl | rfl | rfl | rfl | rfl | rfl | rfl | rfl | rfl | rfl | rfl | rfl | rfl | rfl | rfl | rfl | rfl | rfl | rfl | rfl<;>rfl
def RowE(w:World)(B:Nat)(s:S3)(L:List Re):Prop:=w.ownsRow B reT 23 s.v L.length (L.flatMap fun x=>x.cs.toList)/\s.n=L.length
theorem RowE.nil(w:World)(B:Nat):RowE w B ⟨none,0,0⟩ []:=⟨World.ownsRow_nil _ _ _ _,rfl⟩
theorem row_keep{w w':World}{B sz n:Nat}{t:TypeId}{v:Value}{xs:List Value}(h:w.ownsRow B t sz v n xs)(hk: ∀g,v.ownBlock=some g->w'.heap[g]? =w.heap[g]?):w'.ownsRow B t sz v n xs:=by
 refine⟨h.1, ?_⟩
 rcases h.2 with h0 | ⟨g,cap,cur,rfl,hB,hh,h1⟩
 ·exact .inl h0
 ·exact .inr ⟨g,cap,cur,rfl,hB,(hk g rfl).trans hh,h1⟩
theorem RowE.keep{w w':World}{B:Nat}{s:S3}{L:List Re}(h:RowE w B s L)(hk: ∀g,s.v.ownBlock=some g->w'.heap[g]? =w.heap[g]?):RowE w' B s L:=⟨row_keep h.1 hk,h.2⟩
theorem RowE.ext{w w':World}{B n0:Nat}{s:S3}{L:List Re}(h:RowE w B s L)(e:Ext n0 w w'):RowE w' B s L:=⟨row_ext h.1 e,h.2⟩
theorem RowE.old{w w':World}{B:Nat}{s:S3}{L:List Re}(h:RowE w B s L)(hb:Below w.heap.size w w'):RowE w' B s L:=⟨row_below h.1 hb,h.2⟩
theorem flat_row{α:Type}{n:Nat}{f:α->List Value}(hf: ∀p,(f p).length=n): ∀(Q:List α) (j:Nat) (p:α),Q[j]? =some p->((Q.flatMap f).drop (j*n)).take n=f p
 | [],_,_,h=>by cases h
 | q::Q,0,p,h=>by
  injection h with h
  subst h
  rw[Nat.zero_mul,List.drop_zero,List.flatMap_cons,<-hf q,List.take_left]
 | q::Q,j+1,p,h=>by
  have h:Q[j]? =some p:=h
  rw[List.flatMap_cons,show(j+1)*n=(f q).length+j*n by rw[hf,Nat.add_mul,Nat.one_mul,Nat.add_comm],List.drop_append,List.drop_of_length_le (by omega),Nat.add_sub_cancel_left,List.nil_append]
  exact flat_row hf Q j p h
theorem RowE.at{w:World}{B:Nat}{s:S3}{L:List Re}(h:RowE w B s L){j:Nat}{x:Re}(hx:L[j]? =some x): ∃g cur,s.v.ownBlock=some g/\s.d=some ⟨g,0,none⟩/\s.n=L.length/\j<L.length/\B<=g/\g<w.heap.size/\Blk w g reT cur/\j*23+23<=cur.size/\w.rangeAt g (j*23) x.cs.toList:=by
 have hlt:=(List.getElem?_eq_some_iff.1 hx).1
 rcases h.1.2 with⟨_,h0⟩ | ⟨g,cap,cur,hv,hB,hh,hc,_,hz,ht⟩
 ·omega
 ·have hd:s.d=some ⟨g,0,none⟩:=by
   have:Value.slice s.d s.n s.c=_:=hv
   injection this
  have:(j+1)*23<=cap*23:=Nat.mul_le_mul_right _ (by omega)
  refine⟨g,cur,by rw[hv];rfl,hd,h.2,hlt,hB,(Array.getElem?_eq_some_iff.1 hh).1,hh,by omega,range_of (t:=reT) (cs:=cur) hh (j*23) 23 ?_⟩
  rw[<-flat_row (f:=fun p:Re=>p.cs.toList) re_len L j x hx,<-ht,List.drop_take,List.take_take]
  congr 1
  omega
theorem re_key{w:World}{g o:Nat}{x:Re}(h:w.rangeAt g o x.cs.toList):w.rangeAt g o (x.k.cs x.dk).toList:=fun j v hv=>h j v (by
 have hj:j<11:=(List.getElem?_eq_some_iff.1 hv).1
 have e:(x.cs.toList.take 11)[j]? =some v:=by rw[<-hv];rfl
 rwa [List.getElem?_take_of_lt hj] at e)
theorem re_val{w:World}{g o:Nat}{x:Re}(h:w.rangeAt g o x.cs.toList):w.rangeAt g (o+11) (x.v.cs x.dv).toList:=fun j v hv=>by
 have hj:j<11:=(List.getElem?_eq_some_iff.1 hv).1
 have e:((x.cs.toList.drop 11).take 11)[j]? =some v:=by rw[<-hv];rfl
 rw[List.getElem?_take_of_lt hj,List.getElem?_drop] at e
 have:=h (11+j) v e
 rwa [<-Nat.add_assoc] at this
structure RefAt (w:World) (gr:Nat) (L:List Re) (many:Int) (D O:Nat->Prop):Prop where
 row: ∃s,Blk w gr rfT #[s.v,.int .i64 many]/\RowE w 0 s L/\∀g,s.v.ownBlock=some g->O g/\g≠gr
 own:O gr
 dat: ∀x∈L,x.k.at w D x.dk/\x.v.at w D x.dv
 oks: ∀x∈L,(x.k.ok/\x.v.ok)/\(rB x.k=true/\kB x.k=true)/\rB x.v=true
 dlt: ∀b,D b->b<w.heap.size
 olt: ∀b,O b->b<w.heap.size
 out: ∀b,D b->¬O b
theorem RefAt.keep{w w':World}{gr:Nat}{L:List Re}{many:Int}{D O:Nat->Prop}(h:RefAt w gr L many D O)(hs:w.heap.size<=w'.heap.size)(hk: ∀b,O b\/D b->w'.heap[b]? =w.heap[b]?):RefAt w' gr L many D O where
 row:=let⟨s,h1,h2,h3⟩:=h.row;⟨s,(hk _ (.inl h.own)).trans h1,h2.keep (fun g hg=>hk g (.inl (h3 g hg).1)),h3⟩
 own:=h.own
 dat:=fun x hx=>⟨(h.dat x hx).1.keep (fun b hb _=>hk b (.inr hb)) (fun _ h _=>h),(h.dat x hx).2.keep (fun b hb _=>hk b (.inr hb)) (fun _ h _=>h)⟩
 oks:=h.oks
 dlt:=fun b hb=>Nat.lt_of_lt_of_le (h.dlt b hb) hs
 olt:=fun b hb=>Nat.lt_of_lt_of_le (h.olt b hb) hs
 out:=h.out
theorem RefAt.old{w w':World}{gr:Nat}{L:List Re}{many:Int}{D O:Nat->Prop}(h:RefAt w gr L many D O)(hb:Below w.heap.size w w'):RefAt w' gr L many D O:=h.keep hb.size fun b hb'=>hb.block b (hb'.elim (h.olt b) (h.dlt b))
theorem RefAt.ext{n0:Nat}{w w':World}{gr:Nat}{L:List Re}{many:Int}{D O:Nat->Prop}(h:RefAt w gr L many D O)(e:Ext n0 w w'):RefAt w' gr L many D O where
 row:=let⟨s,h1,h2,h3⟩:=h.row;⟨s,h1.ext e,h2.ext e,h3⟩
 own:=h.own
 dat:=fun x hx=>⟨(h.dat x hx).1.ext e,(h.dat x hx).2.ext e⟩
 oks:=h.oks
 dlt:=fun b hb=>Nat.lt_of_lt_of_le (h.dlt b hb) e.size
 olt:=fun b hb=>Nat.lt_of_lt_of_le (h.olt b hb) e.size
 out:=h.out
theorem RefAt.more{w:World}{gr:Nat}{L:List Re}{many:Int}{D D' O:Nat->Prop}(h:RefAt w gr L many D O)(hD: ∀b,D b->D' b)(hl: ∀b,D' b->b<w.heap.size)(ho: ∀b,D' b->¬O b):RefAt w gr L many D' O:=
 {h with dat:=fun x hx=>⟨(h.dat x hx).1.keep (fun _ _ _=>rfl) (fun b hb _=>hD b hb),(h.dat x hx).2.keep (fun _ _ _=>rfl) (fun b hb _=>hD b hb)⟩,dlt:=hl,out:=ho}
structure E9 where
 c:Int
 w:ByteArray
 m:ByteArray
def E9.cs(e:E9):Array Value:=#[.int .i64 e.c,.int .i64 0,.string ⟨#[]⟩,.string e.w,.string e.m]
def E9.none(e:E9):Bool:=decide (e.c=0)&&decide (e.w=⟨#[]⟩)
def noneE:E9:=⟨0,⟨#[]⟩,⟨#[]⟩⟩
def wrongA(k v:Dt):E9:=if(rB k&&rB v)=false then⟨1,⟨#[]⟩,⟨#[]⟩⟩ else if kB k=false then⟨0,⟨#[107,101,121]⟩,heldS k.h k.k⟩ else noneE
theorem wrong_none(k v:Dt):(wrongA k v).none=(rB k&&rB v&&kB k):=by
 unfold wrongA
 cases h1:rB k&&rB v with
 | false=>rfl
 | true=>
  rw[if_neg (by simp)]
  cases h2:kB k<;>rfl
theorem none9_any(e:E9)(w:World):Calls Tryd.prog 60 #[.agg e.cs] w fun r w'=>r=.returned (.bool e.none)/\Below w.heap.size w w':=by
 refine calls_ev (vs:=[.agg e.cs]) 13 Tryd.func60 e0_body (by kernel_rfl) (by simp) fun a0 h0=> ?_
 unfold e0Body
 refine wp_seq (rg_wp (e0_r0 h0 rfl fun a1 h1=> ?_))
 have hB1:Blk _ w.heap.size 116 e.cs:=Blk.new w _ _
 have hb1:=bl_alloc (Below.refl w.heap.size w) (.cells e.cs 116)
 cases hc:decide (e.c=0) with
 | false=>
  refine wp_seq (rg_wp (e0_r1_f h1 rfl (one_load hB1 Tryd.underlying96 rfl rfl) hc fun a2 h2=>wp_ret ?_))
  exact ret1 rfl h2 rfl ⟨by rw[E9.none,hc];rfl,hb1⟩
 | true=>
  refine wp_seq (rg_wp (e0_r1_t h1 rfl (one_load hB1 Tryd.underlying96 rfl rfl) hc (one_load hB1 Tryd.underlying9 rfl rfl) rfl fun a2 h2=>wp_ret ?_))
  exact ret1 rfl h2 rfl ⟨by rw[E9.none,hc,Bool.true_and],hb1⟩
end Go.Proofs.YtlhfickniegooaaDoor

namespace Go.Proofs.YtlhfickniegooaaDoor
open Go.RowKit
set_option maxRecDepth 100000
theorem copy_run{P:Program}{w w':World}{a:Array TypeId}{ty:TypeId}{b:Array Value}{v:Value}(h:(Builtin.copy_ a ty b).run P w=.ok v w'):((do pure (Next.value (<-Builtin.copy_ a ty b))):Sem Next).run P w=.ok (.value v) w':=by
 simp[h]
structure Sp where
 kind:Int
 on:Int
 k:Dt
 v:Dt
 leave:Int
 turn:Int
 inn:Int
 k2:Dt
 v2:Dt
 dk:Dm
 dv:Dm
 dk2:Dm
 dv2:Dm
def Sp.cs(s:Sp):Array Value:=⟨.int .i64 s.kind::.int .i64 s.on::(s.k.cs s.dk).toList++((s.v.cs s.dv).toList++(.int .i64 s.leave::.int .i64 s.turn::.int .i64 s.inn::(s.k2.cs s.dk2).toList++(s.v2.cs s.dv2).toList))⟩
def S3.blk(s:S3):Nat:=match s.d with
 | some a=>a.block
 | none=>0
end Go.Proofs.YtlhfickniegooaaDoor
