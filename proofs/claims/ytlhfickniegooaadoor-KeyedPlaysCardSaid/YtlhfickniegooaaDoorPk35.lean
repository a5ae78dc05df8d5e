/-
   Written by an AI agent.
-/
import Derived.Test.YtlhfickniegooaaDoorPk34
namespace Go.Proofs.YtlhfickniegooaaDoor
open Go.RowKit Go.Sort
set_option maxRecDepth 100000
theorem eql_bool(b:Bool)(w:World):(binOp .eql 4 (.bool b) (.bool b)).run Tryd.prog w=.ok (.bool true) w:=by
 cases b with
 | false=>kernel_rfl
 | true=>kernel_rfl
def Bd(s:St):Prop:=(∀k,k<2->(s.L k).length<=100000/\ -1<=s.many k/\s.many k<=1000000)/\s.n<=100000000000
section
variable {c:PlC} {s:St} {w w':World} {k:Nat} {d v:Dt}
theorem PS.owns(h:PS c s w)(hn:s.n+100<=200000000000)(ho:d.ok)(hr:rB d=true){lo hi:Nat}{m:Dm}(hsep:d.sep w lo hi m)(hlo: ∀b,InR lo hi b->(∀i,¬s.S i b)/\c.w0.heap.size<=b)(hhi:hi<=w.heap.size):
  Calls Tryd.prog 41 #[.pointer (some ⟨c.gw,0,none⟩),.agg (d.cs m)] w fun e w'=>e=.returned (.tuple #[])/\∃s',PS c s' w'/\(s'.R=s.R/\s'.L=s.L/\s'.many=s.many/\s'.n<=s.n+100)/\(∀i b,s'.S i b->s.S i b\/(i=8/\InR lo hi b)\/w.heap.size<=b)/\MovC (fun b=>s.S 8 b\/InR lo hi b) w w':=by
 refine(owns_any ho hr hsep h.mem.out (fun b hb q=>(hlo b q).1 8 hb) hhi hn).mono fun e w' ⟨h1,⟨n',hn',hO⟩,hM⟩=>⟨h1,_,⟨h.mem.setOut hO hM (fun b q=>(hlo b q).1) (fun b q=>(hlo b q).2) (fun b hb=>hb),h.rel⟩,⟨rfl,rfl,rfl,hn'⟩,fun i b hb=> ?_,hM⟩
 by_cases e:i=8
 ·subst e
  have hb:(s.S 8 b\/InR lo hi b\/w.heap.size<=b)/\b<w'.heap.size:=by
   have e8:(s.setOut n' (fun b=>(s.S 8 b\/InR lo hi b\/w.heap.size<=b)/\b<w'.heap.size)).S 8=fun b=>(s.S 8 b\/InR lo hi b\/w.heap.size<=b)/\b<w'.heap.size:=up_eq s.S 8 (fun b=>(s.S 8 b\/InR lo hi b\/w.heap.size<=b)/\b<w'.heap.size)
   rw[e8] at hb
   exact hb
  exact hb.1.imp_right (·.imp_left fun q=>⟨rfl,q⟩)
 ·exact .inl ((show s.S i b from by
   have e8:(s.setOut n' (fun b=>(s.S 8 b\/InR lo hi b\/w.heap.size<=b)/\b<w'.heap.size)).S i=s.S i:=up_ne e
   rw[e8] at hb
   exact hb))
theorem getI_ok{L:List Re}(hv: ∀x∈L,x.v.ok/\rB x.v=true)(d:Dt):((getI L d).getD zD).ok/\rB ((getI L d).getD zD)=true:=by
 cases hg:getI L d with
 | none=>exact⟨zD_ok,zD_right⟩
 | some x=>
  unfold getI at hg
  split at hg
  ·obtain⟨y,hy,rfl⟩:=Option.map_eq_some_iff.1 hg
   exact hv y (List.mem_of_find?_eq_some hy)
  ·cases hg
set_option maxHeartbeats 8000000 in
theorem does_any(ho':OwnAt c.w0)(h:PS c s w)(hk:k<2)(hB:Bd s){kind:Int}{m mv:Dm}(ho:d.ok)(hvo:v.ok)(hd:d.at w (fun b=>b<c.w0.heap.size) m)(hv:v.at w (fun b=>b<c.w0.heap.size) mv):
  Calls Tryd.prog 32 #[.pointer (some ⟨c.gw,0,none⟩),.int .i64 (k:Int),.int .i64 kind,.agg (d.cs m),.agg (v.cs mv)] w fun e w'=>e=.returned (.bool true)/\∃s',PS c s' w'/\Nx s s' w w' 1 100:=by
 have hw0:=h.mem.bel.size
 have hSl: ∀i b,s.S i b->b<w.heap.size:=fun i b q=>(h.mem.low i b q).2
 obtain⟨hB1,hB2⟩:=hB
 obtain⟨hBL,hBm,hBn⟩:=hB1 k hk
 refine calls_ev (vs:=[.pointer (some ⟨c.gw,0,none⟩),.int .i64 (k:Int),.int .i64 kind,.agg (d.cs m),.agg (v.cs mv)]) 144 Tryd.func32 do9_body (by kernel_rfl) (by simp) fun a0 h0=> ?_
 unfold do9Body
 refine wp_seq (rg_wp (do9_r0 h0 rfl rfl fun a1 h1=> ?_))
 have hA1:=(Blk.new w 31 (d.cs m)).alloc (.cells (v.cs mv) 31)
 have hV1:=Blk.new1 w (.cells (d.cs m) 31) 31 (v.cs mv)
 have hb1:=bl_alloc (bl_alloc (Below.refl w.heap.size w) (.cells (d.cs m) 31)) (.cells (v.cs mv) 31)
 have e9:(w.alloc (.cells (d.cs m) 31)).heap.size=w.heap.size+1:=World.size_alloc _ _
 rw[e9] at h1
 show Code.wp _ _ _ a1 ((w.alloc (.cells (d.cs m) 31)).alloc (.cells (v.cs mv) 31))
 generalize (w.alloc (.cells (d.cs m) 31)).alloc (.cells (v.cs mv) 31)=w1 at hA1 hV1 hb1 ⊢
 have lV1:=hV1.lt
 have p1:=h.mem.old hb1
 refine wp_seq (rg_wp (do9_r1 (gm:=c.gm k) h1 rfl rfl (ix_m hk c.gw) (p1.ldm hk) fun a2 h2=> ?_))
 refine wp_seq (rg_wp (do9_r2 (gr:=c.gr k) h2 rfl rfl (ix_r hk c.gw) (p1.ldr hk) fun a3 h3=> ?_))
 refine wp_seq (rg_wp (do9_r3 (d:=d) (m:=m) (C0:=fun x u=>Lent d m w1.heap.size u.heap.size u x/\Below w1.heap.size w1 u) h3 rfl (dat_whole hA1) (lent_both ho (hd.old hb1)) (fun x u hu=>dat_put (Blk.new u dtT zeroC) (Nat.le_refl _) d x) fun a4 xa u1 hu1 h4=> ?_))
 obtain⟨hla,hbu1⟩:=hu1
 have hA13:=dat_over (Blk.new u1 dtT zeroC) rfl d xa
 have hb3:Below u1.heap.size u1 ((u1.alloc (.cells zeroC dtT)).setCells u1.heap.size 0 (d.cs xa).toList):=below_setCells _ _ _ (bl_alloc (Below.refl _ _) _) (Nat.le_refl _)
 show Code.wp _ _ _ a4 ((u1.alloc (.cells zeroC dtT)).setCells u1.heap.size 0 (d.cs xa).toList)
 generalize (u1.alloc (.cells zeroC dtT)).setCells u1.heap.size 0 (d.cs xa).toList=w3 at hA13 hb3 ⊢
 have l13:=hA13.lt
 have z1:=hbu1.size
 have hb13:Below w1.heap.size w1 w3:=bl_trans hbu1 hb3
 have hb03:Below w.heap.size w w3:=bl_trans hb1 hb13
 have hV3:=hV1.below hb13 lV1
 refine wp_seq (rg_wp (do9_r4 (v:=v) (mv:=mv) (C0:=fun x u=>Lent v mv w3.heap.size u.heap.size u x/\Below w3.heap.size w3 u) h4 rfl (dat_whole hV3) (lent_both hvo (hv.old hb03)) (fun x u hu=>dat_put (Blk.new u dtT zeroC) (Nat.le_refl _) v x) fun a5 xb u2 hu2 h5=> ?_))
 obtain⟨hlb,hbu2⟩:=hu2
 have hA14:=dat_over (Blk.new u2 dtT zeroC) rfl v xb
 have hb4:Below u2.heap.size u2 ((u2.alloc (.cells zeroC dtT)).setCells u2.heap.size 0 (v.cs xb).toList):=below_setCells _ _ _ (bl_alloc (Below.refl _ _) _) (Nat.le_refl _)
 show Code.wp _ _ _ a5 ((u2.alloc (.cells zeroC dtT)).setCells u2.heap.size 0 (v.cs xb).toList)
 generalize (u2.alloc (.cells zeroC dtT)).setCells u2.heap.size 0 (v.cs xb).toList=w4 at hA14 hb4 ⊢
 have l14:=hA14.lt
 have z2:=hbu2.size
 have hb34:Below w3.heap.size w3 w4:=bl_trans hbu2 hb4
 have hb04:Below w.heap.size w w4:=bl_trans hb03 hb34
 have z04:=hb04.size
 have z4:=hb4.size
 have bA8:=(hA1.below hb13 hA1.lt).below hb34 (hA1.below hb13 hA1.lt).lt
 have bA9:=hV3.below hb34 hV3.lt
 have bA13:=hA13.below hb34 l13
 have la4:Lent d m w1.heap.size u1.heap.size w4 xa:=hla.keep fun b _ q=>((bl_trans hb3 hb34).block b q)
 have lb4:Lent v mv w3.heap.size u2.heap.size w4 xb:=hlb.keep fun b _ q=>hb4.block b q
 have p4:=h.old hb04
 have fr: ∀b,w.heap.size<=b->∀i,¬s.S i b:=fun b q i hs=>by have:=hSl i b hs;omega
 have da:=la4.dat ho (hd.old hb04)
 have db:=lb4.dat hvo (hv.old hb04)
 have fS: ∀{lo hi:Nat},w.heap.size<=lo->∀b,(b<c.w0.heap.size\/(lo<=b/\b<hi))->Free s b:=fun hlo b q=>q.elim (fun q=>h.mem.lowF q) (fun q i _=>fr b (by omega) i)
 clear hA1 hV1 hb1 hla hbu1 hA13 hb3 hb13 hb03 hV3 hlb hbu2 hb4 hb34 e9 h4 h3 h2 h1 h0 p1
 refine wp_seq (rg_wp (do9_r5 h5 fun a6 h6=> ?_))
 refine wp_seq (wp_seq (rg_wp (do9_r6 h6 rfl fun a7 h7=> ?_)))
 have h7:Sl 144 a7 [(49,.int .i64 kind),(15,.bool true),(14,.pointer (some ⟨u2.heap.size,0,none⟩)),(13,.pointer (some ⟨u1.heap.size,0,none⟩)),(12,.pointer (some ⟨c.gr k,0,none⟩)),(11,.pointer (some ⟨c.gm k,0,none⟩)),(9,.pointer (some ⟨w.heap.size+1,0,none⟩)),(8,.pointer (some ⟨w.heap.size,0,none⟩)),(0,.pointer (some ⟨c.gw,0,none⟩))]:=h7.to ⟨rfl,rfl,rfl,rfl,rfl,rfl,rfl,rfl,rfl,trivial⟩
 have fin: ∀(a':Act) (u':World) (s':St),Sl 144 a' [(15,.bool true),(14,.pointer (some ⟨u2.heap.size,0,none⟩)),(13,.pointer (some ⟨u1.heap.size,0,none⟩)),(12,.pointer (some ⟨c.gr k,0,none⟩)),(11,.pointer (some ⟨c.gm k,0,none⟩)),(9,.pointer (some ⟨w.heap.size+1,0,none⟩)),(8,.pointer (some ⟨w.heap.size,0,none⟩))]->PS c s' u'->Nx s s' w4 u' 1 100->
   (Code.seq (r_do9 24) (.seq (r_do9 25) (.seq (r_do9 26) .ret))).wp Tryd.prog (bodyPost Tryd.prog Tryd.f32 fun e w'=>e=.returned (.bool true)/\∃s',PS c s' w'/\Nx s s' w w' 1 100) a' u':=fun a' u' s' g0 hS hN=>by
  have zu:=hN.size
  have kb: ∀{g:Nat} {cs:Array Value},w.heap.size<=g->Blk w4 g dtT cs->Blk u' g dtT cs:=fun q hb=>hN.blk hb (fun i _=>fr _ q i)
  have fr': ∀b,w.heap.size<=b->b<w4.heap.size->∀i,¬s'.S i b:=fun b q1 q2 i hs=>(hN.grew i b hs).elim (fr b q1 i) (fun q=>by omega)
  have hdu:d.at u' (fun b=>b<c.w0.heap.size) m:=hN.dat (hd.old hb04) (fun b q _=>h.mem.lowF q)
  have hvu:v.at u' (fun b=>b<c.w0.heap.size) mv:=hN.dat (hv.old hb04) (fun b q _=>h.mem.lowF q)
  have lau:=la4.keep (w':=u') (fun b q1 q2=>hN.block (by omega) (fun i _=>fr b (by omega) i))
  have lbu:=lb4.keep (w':=u') (fun b q1 q2=>hN.block (by omega) (fun i _=>fr b (by omega) i))
  refine wp_seq (rg_wp (do9_r24 (da:=d) (ma:=xa) (d:=d) (m:=m) (b31:=true) (C0:=fun u=>MovC (InR w1.heap.size u1.heap.size) u' u) g0 rfl rfl (dat_whole (kb (by omega) bA13)) (dat_whole (kb (Nat.le_refl _) bA8)) (back_both ho hdu lau (fun b q r=>by have:=r.1;omega) (by omega)) fun a'' v1 hv1 g1=> ?_))
  have z5:=hv1.size
  refine wp_seq (rg_wp (do9_r25 (db:=v) (mb:=xb) (v:=v) (mv:=mv) (b32:=true) (C0:=fun u=>MovC (InR w3.heap.size u2.heap.size) v1 u) g1 rfl rfl (dat_whole (hv1.stay (kb (by omega) hA14) (fun r=>by have:=r.2;omega))) (dat_whole (hv1.stay (kb (by omega) bA9) (fun r=>by have:=r.1;omega))) (back_both hvo (hv1.dat hvu (fun b q r=>by have:=r.1;omega)) (lbu.keep (w':=v1) (fun b q1 q2=>hv1.block b (by omega) (fun r=>by have:=r.1.2;omega))) (fun b q r=>by have:=r.1;omega) (by omega)) fun a3 v2 hv2 g2=> ?_))
  have hM:MovC (fun b=>w1.heap.size<=b/\b<w4.heap.size) u' v2:=(hv1.more (fun b _ r=>⟨r.1,by have:=r.2;omega⟩)).trans hv2 (fun b _ r=>⟨by have:=r.1;omega,by have:=r.2;omega⟩)
  have hS2:PS c s' v2:=hS.moved hM (fun b r i=>fr' b (by omega) r.2 i) (fun b r=>by omega)
  have hNv:Nx s s' w v2 1 100:=Nx.post ((Nx.of_below hb04 0 0).trans hN (p2:=1) (q2:=100) (by omega) (by omega)) hM (fun x q r=>by omega)
  obtain⟨s3,hrb,hrow,_⟩:=(hS2.mem.ref k hk).row
  have hlen:=(hS2.rel k hk).len
  refine wp_seq (rg_wp (do9_r26_ttt (C:=fun u=>Below v2.heap.size v2 u) (cl:=(s'.R k).length) (rd:=s3.d) (rn:=s3.n) (rc:=s3.c) (b142:=true) g2 rfl rfl rfl rfl rfl (fun u hu=>(klen_any ((hS2.mem.map k hk).old hu)).mono fun e u' hh=>⟨hh.1,by rw[hh.2];exact hu⟩) (fun u hu=>one_load (hrb.below hu hrb.lt) Tryd.underlying54 rfl rfl) (decide_eq_true (by rw[hrow.2,hlen])) (below_drewN (Below.refl _ _) 1) fun a4 u4 hu4 g3=>wp_ret ?_))
  exact ret1 rfl g3 rfl ⟨rfl,s',hS2.old hu4,hNv.post (MovC.of_below (S:=fun _=>False) hu4) (fun _ _ h=>h)⟩
 refine wp_block ?_
 refine wp_seq (rg_wp (do9_r7 (b51:=decide (kind=1)) h7 rfl rfl fun a8 h8=> ?_))
 by_cases k1:kind=1
 ·rw[decide_eq_true k1] at h8
  refine wp_cond_true (h8.look 50 rfl) ?_
  have hLv: ∀x∈s.L k,x.v.ok/\rB x.v=true:=fun x hx=>⟨((p4.mem.ref k hk).oks x hx).1.2,((p4.mem.ref k hk).oks x hx).2.2⟩
  obtain⟨xok,xr⟩:=getI_ok hLv d
  have gu:=get_uni (p4.mem.map k hk) (p4.rel k hk) ho da (p4.mem.own ho')
  obtain⟨x,hx⟩: ∃x,x=(getI (s.L k) d).getD zD:=⟨_,rfl⟩
  rw[<-hx] at xok xr gu
  refine wp_seq (rg_wp (do9_r8 (da:=d) (ma:=xa) (x:=x) (b17:=(getI (s.L k) d).isSome) (C0:=fun q u=>x.sep u w4.heap.size u.heap.size q.1/\TellV u q.2 (wrongA d zD)/\Below w4.heap.size w4 u) h8 rfl rfl (dat_whole bA13) gu (fun q u _=>dat_put (Blk.new u dtT zeroC) (Nat.le_refl _) x q.1) fun a9 q u5 hq h9=> ?_))
  obtain⟨hsx,htx,hb5⟩:=hq
  have hX:=dat_over (Blk.new u5 dtT zeroC) rfl x q.1
  have hb6:Below u5.heap.size u5 ((u5.alloc (.cells zeroC dtT)).setCells u5.heap.size 0 (x.cs q.1).toList):=below_setCells _ _ _ (bl_alloc (Below.refl _ _) _) (Nat.le_refl _)
  show Code.wp _ _ _ a9 ((u5.alloc (.cells zeroC dtT)).setCells u5.heap.size 0 (x.cs q.1).toList)
  generalize (u5.alloc (.cells zeroC dtT)).setCells u5.heap.size 0 (x.cs q.1).toList=w6 at hX hb6 ⊢
  have hb46:=bl_trans hb5 hb6
  have hrg:=rget_any ((p4.old hb46).mem.ref k hk) (by omega) ho (hd.old (bl_trans hb04 hb46))
  refine wp_seq (rg_wp (do9_r9 (d:=d) (m:=m) (y:=x) (b20:=(getI (s.L k) d).isSome) (ef:=wrongA d zD) (C0:=fun q u=>x.at u (s.S (4*k+2)) q/\Below w6.heap.size w6 u) h9 rfl rfl (dat_whole (bA8.below hb46 bA8.lt)) (hrg.mono fun e u ⟨hb,mx,r1,r2⟩=>⟨mx,by rw[hx];exact r1,by rw[hx];exact r2,hb⟩)
   (fun q u _=>dat_put ((Blk.new u dtT zeroC).alloc (.cells (noneE:E9).cs erT)) (Nat.le_refl _) x q) (fun q u _=>err_sto (Blk.farL (by have:(u.alloc (.cells zeroC dtT)).heap.size=u.heap.size+1:=World.size_alloc _ _;omega) _ _ _ (Blk.new (u.alloc (.cells zeroC dtT)) erT (noneE:E9).cs)) (wrongA d zD)) fun a10 my u7 hq7 h10=> ?_))
  obtain⟨hyat,hb7⟩:=hq7
  have e21:(u7.alloc (.cells zeroC dtT)).heap.size=u7.heap.size+1:=World.size_alloc _ _
  have hY1:=dat_over ((Blk.new u7 dtT zeroC).alloc (.cells (noneE:E9).cs erT)) rfl x my
  have hE1:=Blk.farL (b:=u7.heap.size) (by omega) (x.cs my).toList 0 _ (Blk.new (u7.alloc (.cells zeroC dtT)) erT (noneE:E9).cs)
  have hY2:=Blk.farL (b:=(u7.alloc (.cells zeroC dtT)).heap.size) (by omega) (wrongA d zD).cs.toList 0 _ hY1
  have hE2:=err_over hE1 (wrongA d zD)
  have hb8:Below u7.heap.size u7 ((((u7.alloc (.cells zeroC dtT)).alloc (.cells (noneE:E9).cs erT)).setCells u7.heap.size 0 (x.cs my).toList).setCells (u7.alloc (.cells zeroC dtT)).heap.size 0 (wrongA d zD).cs.toList):=below_setCells _ _ _ (below_setCells _ _ _ (bl_alloc (bl_alloc (Below.refl _ _) _) _) (Nat.le_refl _)) (by omega)
  show Code.wp _ _ _ a10 ((((u7.alloc (.cells zeroC dtT)).alloc (.cells (noneE:E9).cs erT)).setCells u7.heap.size 0 (x.cs my).toList).setCells (u7.alloc (.cells zeroC dtT)).heap.size 0 (wrongA d zD).cs.toList)
  generalize (((u7.alloc (.cells zeroC dtT)).alloc (.cells (noneE:E9).cs erT)).setCells u7.heap.size 0 (x.cs my).toList).setCells (u7.alloc (.cells zeroC dtT)).heap.size 0 (wrongA d zD).cs.toList=w8 at hY2 hE2 hb8 ⊢
  have hb68:=bl_trans hb7 hb8
  have hX8:=hX.below hb68 hX.lt
  have hsx8:=hsx.old (bl_trans hb6 hb68)
  have htx8:=htx.old (bl_trans hb6 hb68)
  refine wp_seq (rg_wp (do9_r10 (x:=x) (mx:=q.1) (y:=x) (my:=my) (b22:=true) (C0:=fun u=>Below w8.heap.size w8 u) h10 rfl rfl (dat_whole hX8) (dat_whole hY2) ((ksame_any xok xok hsx8.dat (hyat.old hb8)).mono fun e u hh=>⟨by rw[hh.1,sameD_refl],hh.2⟩) fun a11 w9 hb9 h11=> ?_))
  refine wp_seq (rg_wp (do9_r11 (ef:=wrongA d zD) (b23:=true) (C0:=fun u=>Below w9.heap.size w9 u) h11 rfl rfl (err_load (hE2.below hb9 hE2.lt)) (told_any (htx8.old hb9)) fun a12 w10 hb10 h12=> ?_))
  refine wp_seq (rg_wp (do9_r12_tt h12 rfl rfl rfl rfl (fun w=>eql_bool _ w) fun a13 h13=> ?_))
  refine wp_seq (rg_wp (do9_r13 h13 rfl fun a14 h14=>wp_cond_true (h14.look 81 rfl) ?_))
  have hb810:=bl_trans hb9 hb10
  have hb410:=bl_trans hb46 (bl_trans hb68 hb810)
  have p10:=p4.old hb410
  refine wpl (rg_wp (do9_r14 (x:=x) (mx:=q.1) (C0:=fun u=> ∃s',PS c s' u/\(s'.R=s.R/\s'.L=s.L/\s'.many=s.many/\s'.n<=s.n+100)/\(∀i b,s'.S i b->s.S i b\/(i=8/\InR w4.heap.size u5.heap.size b)\/w10.heap.size<=b)/\MovC (fun b=>s.S 8 b\/InR w4.heap.size u5.heap.size b) w10 u) h14 rfl rfl (dat_whole (hX8.below hb810 hX8.lt)) (p10.owns (by omega) xok xr (hsx8.old hb810) (fun b r=>⟨fr b (by have:=r.1;omega),by have:=r.1;omega⟩) (by have:=hb6.size;have:=hb68.size;have:=hb810.size;omega)) fun a15 w11 hc h15=>block_norm ?_))
  obtain⟨s',hS',⟨eR,eL,em,en⟩,hg,hM⟩:=hc
  have z410:=hb410.size
  refine fin a15 w11 s' (h15.to ⟨rfl,rfl,rfl,rfl,rfl,rfl,rfl,trivial⟩) hS' ⟨(MovC.of_below hb410).trans hM (fun b q r=>r.elim (fun r=>⟨8,.inl rfl,r⟩) (fun r=>by have:=r.1;omega)),fun i b r=> ?_,fun j _=>by rw[eL,em];exact Evo.refl _ _,fun j _=>by rw[eL,em];constructor<;>omega,by omega⟩
  rcases hg i b r with r | r | r
  ·exact .inl r
  ·exact .inr r.2.1
  ·exact .inr (by omega)
 ·rw[decide_eq_false k1] at h8
  refine wp_cond_false (h8.look 50 rfl) ?_
  refine wp_seq (rg_wp (do9_r15 (b86:=decide (kind=2)) h8 rfl rfl fun a9 h9=> ?_))
  have hRL:=(p4.rel k hk).len
  by_cases k2:kind=2
  ·rw[decide_eq_true k2] at h9
   refine wp_cond_true (h9.look 85 rfl) ?_
   refine wp_seq (rg_wp (do9_r16 (da:=d) (ma:=xa) (db:=v) (mb:=xb) (C0:=fun q u=> ∃s',TellS s' u q (wrongA d v)/\MapR c s s' k w4 u/\(if(rB d&&rB v&&kB d)=true then PutNew (s.R k) d v (s'.R k) else s'.R k=s.R k)) h9 rfl rfl rfl (dat_whole bA13) (dat_whole hA14)
    (mput_uni p4.mem ho' hk (by omega) ho hvo da db (fS (by omega)) (fS (by omega))) fun a10 q u5 hq h10=> ?_))
   obtain⟨s1,ht1,q1,hp1⟩:=hq
   have z5:=q1.mov.size
   have dk: ∀{e:Dt} {me:Dm},e.at w (fun b=>b<c.w0.heap.size) me->e.at u5 (fun b=>b<c.w0.heap.size) me:=fun q=>q1.mov.dat (q.old hb04) (fun b r ⟨i,hi,hs⟩=>h.mem.lowF r i hi hs)
   have bk: ∀{g:Nat} {cs:Array Value},w.heap.size<=g->Blk w4 g dtT cs->Blk u5 g dtT cs:=fun q hb=>q1.mov.stay hb (fun⟨i,_,hs⟩=>fr _ q i hs)
   have fr1: ∀b,b<c.w0.heap.size->Free s1 b:=fun b r=>q1.mem.lowF r
   refine wp_seq (rg_wp (do9_r17 (d:=d) (m:=m) (v:=v) (mv:=mv) (ef:=wrongA d v) (C0:=fun u=> ∃s2,RefR c s1 s2 k u5 u/\PutI (s1.L k) d v (s1.many k) (s2.L k) (s2.many k)) h10 rfl rfl rfl (dat_whole (bk (Nat.le_refl _) bA8)) (dat_whole (bk (by omega) bA9))
    (rput_uni q1.mem hk (by rw[q1.L];omega) (by rw[q1.many];omega) ho hvo (dk hd) (dk hv) fr1 fr1) (fun u _=>err_sto (Blk.new u erT (noneE:E9).cs) (wrongA d v)) fun a11 u6 hq6 h11=> ?_))
   obtain⟨s2,q2,hp2⟩:=hq6
   have z6:=q2.mov.size
   have hE:=err_over (Blk.new u6 erT (noneE:E9).cs) (wrongA d v)
   have hb7:Below u6.heap.size u6 ((u6.alloc (.cells (noneE:E9).cs erT)).setCells u6.heap.size 0 (wrongA d v).cs.toList):=below_setCells _ _ _ (bl_alloc (Below.refl _ _) _) (Nat.le_refl _)
   show Code.wp _ _ _ a11 ((u6.alloc (.cells (noneE:E9).cs erT)).setCells u6.heap.size 0 (wrongA d v).cs.toList)
   generalize (u6.alloc (.cells (noneE:E9).cs erT)).setCells u6.heap.size 0 (wrongA d v).cs.toList=w7 at hE hb7 ⊢
   have ht6:TellV u6 q (wrongA d v):=ht1.1.keep fun t g e=>q2.mov.block g (ht1.2 t g e).2 fun⟨⟨i,hi,hs⟩,_⟩=>(ht1.2 t g e).1 i hi hs
   refine wpl (rg_wp (do9_r18 (ef:=wrongA d v) (b97:=true) (C0:=fun u=>Below w7.heap.size w7 u) h11 rfl rfl (err_load hE) (told_any (ht6.old hb7)) fun a12 w8 hb8 h12=>block_norm ?_))
   have hb78:=bl_trans hb7 hb8
   have hRt:=(p4.mem.map k hk).rt
   have hall:RL (s1.R k) (s2.L k) (s2.many k)/\Evo (s.L k) (s.many k) (s2.L k) (s2.many k)/\(s2.L k).length<=(s.L k).length+1/\s2.many k<=s.many k+1:=by
    rw[q1.L,q1.many] at hp2
    by_cases hc:(rB d&&rB v&&kB d)=true
    ·rw[if_pos hc] at hp1
     exact(p4.rel k hk).put hRt.1 hRt.2.1 ho hc hp1 hp2
    ·rw[if_neg hc] at hp1
     unfold PutI at hp2
     rw[if_neg hc] at hp2
     rw[hp1,hp2.1,hp2.2]
     exact⟨p4.rel k hk,Evo.refl _ _,by omega,by omega⟩
   obtain⟨hS,hN⟩:=p4.both q1 q2 hall.1 hall.2.1 hall.2.2
   exact fin a12 w8 s2 (h12.to ⟨rfl,rfl,rfl,rfl,rfl,rfl,rfl,trivial⟩) (hS.old hb78) (hN.trans (Nx.of_below hb78 0 0) (by omega) (by omega))
  ·rw[decide_eq_false k2] at h9
   refine wp_cond_false (h9.look 85 rfl) ?_
   refine wp_seq (rg_wp (do9_r19 (b99:=decide (kind=3)) h9 rfl rfl fun a10 h10=> ?_))
   by_cases k3:kind=3
   ·rw[decide_eq_true k3] at h10
    refine wp_cond_true (h10.look 98 rfl) ?_
    refine wp_seq (rg_wp (do9_r20 (da:=d) (ma:=xa) (b26:=(getI (s.L k) d).isSome) (C0:=fun q u=> ∃s',TellS s' u q (wrongA d zD)/\MapR c s s' k w4 u/\(RL (s'.R k) (dropI (s.L k) d) (s.many k)/\Evo (s.L k) (s.many k) (dropI (s.L k) d) (s.many k)/\(dropI (s.L k) d).length<=(s.L k).length)) h10 rfl rfl (dat_whole bA13)
     (mdrop_uni p4.mem ho' hk (by omega) (p4.rel k hk) ho da) fun a11 q u5 hq h11=> ?_))
    obtain⟨s1,ht1,q1,hp1⟩:=hq
    have z5:=q1.mov.size
    have dk:d.at u5 (fun b=>b<c.w0.heap.size) m:=q1.mov.dat (hd.old hb04) (fun b r ⟨i,hi,hs⟩=>h.mem.lowF r i hi hs)
    have bk:Blk u5 w.heap.size dtT (d.cs m):=q1.mov.stay bA8 (fun⟨i,_,hs⟩=>fr _ (Nat.le_refl _) i hs)
    have hrd:=rdrop_uni q1.mem hk (by rw[q1.L];omega) ho dk
    rw[q1.L,q1.many] at hrd
    refine wp_seq (rg_wp (do9_r21 (d:=d) (m:=m) (b28:=(getI (s.L k) d).isSome) (ef:=wrongA d zD) (C0:=fun u=> ∃s2,RefR c s1 s2 k u5 u/\s2.L k=dropI (s.L k) d/\s2.many k=s.many k) h11 rfl rfl (dat_whole bk)
     hrd (fun u _=>err_sto (Blk.new u erT (noneE:E9).cs) (wrongA d zD)) fun a12 u6 hq6 h12=> ?_))
    obtain⟨s2,q2,eL,em⟩:=hq6
    have z6:=q2.mov.size
    have hE:=err_over (Blk.new u6 erT (noneE:E9).cs) (wrongA d zD)
    have hb7:Below u6.heap.size u6 ((u6.alloc (.cells (noneE:E9).cs erT)).setCells u6.heap.size 0 (wrongA d zD).cs.toList):=below_setCells _ _ _ (bl_alloc (Below.refl _ _) _) (Nat.le_refl _)
    show Code.wp _ _ _ a12 ((u6.alloc (.cells (noneE:E9).cs erT)).setCells u6.heap.size 0 (wrongA d zD).cs.toList)
    generalize (u6.alloc (.cells (noneE:E9).cs erT)).setCells u6.heap.size 0 (wrongA d zD).cs.toList=w7 at hE hb7 ⊢
    have ht6:TellV u6 q (wrongA d zD):=ht1.1.keep fun t g e=>q2.mov.block g (ht1.2 t g e).2 fun⟨⟨i,hi,hs⟩,_⟩=>(ht1.2 t g e).1 i hi hs
    refine wp_seq (rg_wp (do9_r22 (ef:=wrongA d zD) (b30:=true) (C0:=fun u=>Below w7.heap.size w7 u) h12 rfl rfl (err_load hE) (told_any (ht6.old hb7)) fun a13 w8 hb8 h13=> ?_))
    refine wpl (rg_wp (do9_r23_t h13 rfl rfl rfl (fun w=>eql_bool _ w) fun a14 h14=>block_norm ?_))
    have hb78:=bl_trans hb7 hb8
    obtain⟨hS,hN⟩:=p4.both q1 q2 (by rw[eL,em];exact hp1.1) (by rw[eL,em];exact hp1.2.1) (by rw[eL,em];have:=hp1.2.2;constructor<;>omega)
    exact fin a14 w8 s2 (h14.to ⟨rfl,rfl,rfl,rfl,rfl,rfl,rfl,trivial⟩) (hS.old hb78) (hN.trans (Nx.of_below hb78 0 0) (by omega) (by omega))
   ·rw[decide_eq_false k3] at h10
    refine wpc_off (h10.look 98 rfl) (block_norm ?_)
    exact fin a10 w4 s (h10.to ⟨rfl,rfl,rfl,rfl,rfl,rfl,rfl,trivial⟩) p4 (Nx.of_below (Below.refl _ _) _ _)
end
end Go.Proofs.YtlhfickniegooaaDoor
