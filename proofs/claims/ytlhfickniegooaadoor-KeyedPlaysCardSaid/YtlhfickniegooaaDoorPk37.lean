/-
   Written by an AI agent.
-/
import Derived.Test.YtlhfickniegooaaDoorPk35
import Derived.Test.YtlhfickniegooaaDoorPk36
namespace Go.Proofs.YtlhfickniegooaaDoor
open Go.RowKit Go.Sort
set_option maxRecDepth 100000
theorem wpnI{F:Fence}{n:Nat}{P:Program}{k:Nat}{x y:Code}{Q:Exit->Act->World->Prop}{a:Act}{w:World}(hc:slot a k=.bool true)(h:y.wpIn F n P Q a w):(Code.cond (.tmp k) .skip x).wpIn F n P (Exit.then (y.wpIn F n P Q) Q) a w:=wpIn_cond_true hc (wpIn_skip h)
theorem wpoI{F:Fence}{n:Nat}{P:Program}{k:Nat}{x y:Code}{Q:Exit->Act->World->Prop}{a:Act}{w:World}(hc:slot a k=.bool false)(h:y.wpIn F n P Q a w):(Code.cond (.tmp k) x .skip).wpIn F n P (Exit.then (y.wpIn F n P Q) Q) a w:=wpIn_cond_false hc (wpIn_skip h)
theorem wpxI{F:Fence}{m:Nat}{P:Program}{k n:Nat}{K:Act->World->Prop}{Q:Exit->Act->World->Prop}{a:Act}{w:World}(hc:slot a k=.bool false)(h:Q (.exit n) a w):(Code.cond (.tmp k) .skip (.exit n)).wpIn F m P (Exit.then K Q) a w:=wpIn_cond_false hc (wpIn_exit h)
theorem wpcI_off{F:Fence}{n:Nat}{P:Program}{k:Nat}{x:Code}{Q:Exit->Act->World->Prop}{a:Act}{w:World}(hc:slot a k=.bool false)(h:Q .normal a w):(Code.cond (.tmp k) x .skip).wpIn F n P Q a w:=wpIn_cond_false hc (wpIn_skip h)
theorem MovC.one{w:World}{g:Nat}(hc:Cel w g)(o:Nat)(vs:List Value):MovC (fun b=>b=g) w (w.setCells g o vs):=MovC.set (S:=fun b=>b=g) (MovC.of_below (Below.refl _ _)) (fun _=>rfl) hc o vs
structure OvP where
 c:PlC
 k:Nat
 wk:Bool
 o:Sp
 g5:Nat
 g6:Nat
 g8:Nat
 g9:Nat
 g10:Nat
 g11:Nat
 g12:Nat
 g13:Nat
 s3:S3
 was:List Re
 T:Nat->Prop
 lo:Nat
 B:Nat
def OvP.all(q:OvP):List Nat:=[q.g5,q.g6,q.g8,q.g9,q.g10,q.g11,q.g12,q.g13]
structure OvP.ok (q:OvP):Prop where
 hk:q.k<2
 rng: ∀g∈q.all,q.lo<=g/\g<q.B
 d12: ∀g∈[q.g5,q.g6,q.g8,q.g9,q.g10,q.g11,q.g13],g≠q.g12
 d13: ∀g∈[q.g5,q.g6,q.g8,q.g9,q.g10,q.g11,q.g12],g≠q.g13
 d10: ∀g∈[q.g5,q.g6,q.g8,q.g9,q.g11,q.g12,q.g13],g≠q.g10
 row: ∀g,q.s3.v.ownBlock=some g->q.lo<=g/\g<q.B/\g≠q.g12/\g≠q.g13/\g≠q.g10
 tl: ∀b,q.T b->b<q.lo
 lo0:q.c.w0.heap.size<=q.lo
 loB:q.lo<=q.B
structure OvM (q:OvP) (n tn:Nat) (rb:Bool) (u:World):Prop where
 b5:Blk u q.g5 47 #[.pointer (some ⟨q.c.gw,0,none⟩)]
 b6:Blk u q.g6 3 #[.int .i64 (q.k:Int)]
 b8:Blk u q.g8 4 #[.bool q.wk]
 b9:Blk u q.g9 59 q.o.cs
 b10:Blk u q.g10 4 #[.bool rb]
 b11:Blk u q.g11 54 #[.slice q.s3.d q.s3.n q.s3.c]
 b12:Blk u q.g12 3 #[.int .i64 (n:Int)]
 b13:Blk u q.g13 3 #[.int .i64 (tn:Int)]
 row:RowE u 0 q.s3 q.was
 dat: ∀x∈q.was,x.k.at u q.T x.dk/\x.v.at u q.T x.dv
section
variable {q:OvP} {n tn:Nat} {rb:Bool} {u u':World}
theorem OvP.ok.in(h:q.ok){g:Nat}(hg:g∈q.all):q.lo<=g/\g<q.B:=h.rng g hg
theorem OvM.keep(h:OvM q n tn rb u)(hq:q.ok)(hk: ∀b,q.lo<=b->b<q.B->u'.heap[b]? =u.heap[b]?)(hT: ∀b,q.T b->u'.heap[b]? =u.heap[b]?):OvM q n tn rb u':=by
 have kb: ∀{g:Nat} {t:TypeId} {cs:Array Value},g∈q.all->Blk u g t cs->Blk u' g t cs:=fun hg hb=>(hk _ (hq.in hg).1 (hq.in hg).2).trans hb
 exact⟨kb (by simp[OvP.all]) h.b5,kb (by simp[OvP.all]) h.b6,kb (by simp[OvP.all]) h.b8,kb (by simp[OvP.all]) h.b9,kb (by simp[OvP.all]) h.b10,kb (by simp[OvP.all]) h.b11,kb (by simp[OvP.all]) h.b12,kb (by simp[OvP.all]) h.b13,
  h.row.keep (fun g hg=>hk g (hq.row g hg).1 (hq.row g hg).2.1),fun x hx=>⟨(h.dat x hx).1.keep (fun b hb _=>hT b hb) (fun _ h _=>h),(h.dat x hx).2.keep (fun b hb _=>hT b hb) (fun _ h _=>h)⟩⟩
theorem OvM.old(h:OvM q n tn rb u)(hb:Below u.heap.size u u'):OvM q n tn rb u':=
 ⟨h.b5.below hb h.b5.lt,h.b6.below hb h.b6.lt,h.b8.below hb h.b8.lt,h.b9.below hb h.b9.lt,h.b10.below hb h.b10.lt,h.b11.below hb h.b11.lt,h.b12.below hb h.b12.lt,h.b13.below hb h.b13.lt,h.row.old hb,fun x hx=>⟨(h.dat x hx).1.old hb,(h.dat x hx).2.old hb⟩⟩
theorem OvM.ext{B:Nat}(h:OvM q n tn rb u)(e:Ext B u u'):OvM q n tn rb u':=
 ⟨h.b5.ext e,h.b6.ext e,h.b8.ext e,h.b9.ext e,h.b10.ext e,h.b11.ext e,h.b12.ext e,h.b13.ext e,h.row.ext e,fun x hx=>⟨Dt.at.ext e (h.dat x hx).1,Dt.at.ext e (h.dat x hx).2⟩⟩
theorem OvM.far(h:OvM q n tn rb u){g:Nat}(hg: ∀x∈q.all,x≠g)(hr: ∀x,q.s3.v.ownBlock=some x->x≠g)(hT: ∀b,q.T b->b≠g)(o:Nat)(vs:List Value):OvM q n tn rb (u.setCells g o vs):=
 ⟨Blk.farL (hg _ (by simp[OvP.all])) _ _ _ h.b5,Blk.farL (hg _ (by simp[OvP.all])) _ _ _ h.b6,Blk.farL (hg _ (by simp[OvP.all])) _ _ _ h.b8,Blk.farL (hg _ (by simp[OvP.all])) _ _ _ h.b9,Blk.farL (hg _ (by simp[OvP.all])) _ _ _ h.b10,Blk.farL (hg _ (by simp[OvP.all])) _ _ _ h.b11,Blk.farL (hg _ (by simp[OvP.all])) _ _ _ h.b12,Blk.farL (hg _ (by simp[OvP.all])) _ _ _ h.b13,
  h.row.keep (fun x hx=>setCells_other _ _ _ (hr x hx)),fun x hx=>⟨(h.dat x hx).1.keep (fun b hb _=>setCells_other _ _ _ (hT b hb)) (fun _ h _=>h),(h.dat x hx).2.keep (fun b hb _=>setCells_other _ _ _ (hT b hb)) (fun _ h _=>h)⟩⟩
theorem OvM.set12(h:OvM q n tn rb u)(hq:q.ok)(n':Nat):OvM q n' tn rb (u.setCells q.g12 0 [.int .i64 (n':Int)]):=by
 have hT: ∀b,q.T b->b≠q.g12:=fun b hb=>by have:=hq.tl b hb;have:=(hq.in (g:=q.g12) (by simp[OvP.all])).1;omega
 exact⟨Blk.farL (hq.d12 _ (by simp)) _ _ _ h.b5,Blk.farL (hq.d12 _ (by simp)) _ _ _ h.b6,Blk.farL (hq.d12 _ (by simp)) _ _ _ h.b8,Blk.farL (hq.d12 _ (by simp)) _ _ _ h.b9,Blk.farL (hq.d12 _ (by simp)) _ _ _ h.b10,Blk.farL (hq.d12 _ (by simp)) _ _ _ h.b11,h.b12.set_ 0 _,Blk.farL (hq.d12 _ (by simp)) _ _ _ h.b13,
  h.row.keep (fun x hx=>setCells_other _ _ _ (hq.row x hx).2.2.1),fun x hx=>⟨(h.dat x hx).1.keep (fun b hb _=>setCells_other _ _ _ (hT b hb)) (fun _ h _=>h),(h.dat x hx).2.keep (fun b hb _=>setCells_other _ _ _ (hT b hb)) (fun _ h _=>h)⟩⟩
theorem OvM.set13(h:OvM q n tn rb u)(hq:q.ok)(n':Nat):OvM q n n' rb (u.setCells q.g13 0 [.int .i64 (n':Int)]):=by
 have hT: ∀b,q.T b->b≠q.g13:=fun b hb=>by have:=hq.tl b hb;have:=(hq.in (g:=q.g13) (by simp[OvP.all])).1;omega
 exact⟨Blk.farL (hq.d13 _ (by simp)) _ _ _ h.b5,Blk.farL (hq.d13 _ (by simp)) _ _ _ h.b6,Blk.farL (hq.d13 _ (by simp)) _ _ _ h.b8,Blk.farL (hq.d13 _ (by simp)) _ _ _ h.b9,Blk.farL (hq.d13 _ (by simp)) _ _ _ h.b10,Blk.farL (hq.d13 _ (by simp)) _ _ _ h.b11,Blk.farL (hq.d13 _ (by simp)) _ _ _ h.b12,h.b13.set_ 0 _,
  h.row.keep (fun x hx=>setCells_other _ _ _ (hq.row x hx).2.2.2.1),fun x hx=>⟨(h.dat x hx).1.keep (fun b hb _=>setCells_other _ _ _ (hT b hb)) (fun _ h _=>h),(h.dat x hx).2.keep (fun b hb _=>setCells_other _ _ _ (hT b hb)) (fun _ h _=>h)⟩⟩
theorem OvM.set10(h:OvM q n tn rb u)(hq:q.ok)(b':Bool):OvM q n tn b' (u.setCells q.g10 0 [.bool b']):=by
 have hT: ∀b,q.T b->b≠q.g10:=fun b hb=>by have:=hq.tl b hb;have:=(hq.in (g:=q.g10) (by simp[OvP.all])).1;omega
 exact⟨Blk.farL (hq.d10 _ (by simp)) _ _ _ h.b5,Blk.farL (hq.d10 _ (by simp)) _ _ _ h.b6,Blk.farL (hq.d10 _ (by simp)) _ _ _ h.b8,Blk.farL (hq.d10 _ (by simp)) _ _ _ h.b9,h.b10.set_ 0 _,Blk.farL (hq.d10 _ (by simp)) _ _ _ h.b11,Blk.farL (hq.d10 _ (by simp)) _ _ _ h.b12,Blk.farL (hq.d10 _ (by simp)) _ _ _ h.b13,
  h.row.keep (fun x hx=>setCells_other _ _ _ (hq.row x hx).2.2.2.2),fun x hx=>⟨(h.dat x hx).1.keep (fun b hb _=>setCells_other _ _ _ (hT b hb)) (fun _ h _=>h),(h.dat x hx).2.keep (fun b hb _=>setCells_other _ _ _ (hT b hb)) (fun _ h _=>h)⟩⟩
theorem OvM.l12(h:OvM q n tn rb u):Lds Tryd.prog 3 (.pointer (some ⟨q.g12,0,none⟩)) (.int .i64 (n:Int)) u:=one_load h.b12 Tryd.underlying3 rfl rfl
theorem OvM.l13(h:OvM q n tn rb u):Lds Tryd.prog 3 (.pointer (some ⟨q.g13,0,none⟩)) (.int .i64 (tn:Int)) u:=one_load h.b13 Tryd.underlying3 rfl rfl
theorem OvM.l11(h:OvM q n tn rb u):Lds Tryd.prog 54 (.pointer (some ⟨q.g11,0,none⟩)) (.slice q.s3.d q.s3.n q.s3.c) u:=one_load h.b11 Tryd.underlying54 rfl rfl
theorem OvM.l5(h:OvM q n tn rb u):Lds Tryd.prog 47 (.pointer (some ⟨q.g5,0,none⟩)) (.pointer (some ⟨q.c.gw,0,none⟩)) u:=one_load h.b5 Tryd.underlying47 rfl rfl
theorem OvM.l6(h:OvM q n tn rb u):Lds Tryd.prog 3 (.pointer (some ⟨q.g6,0,none⟩)) (.int .i64 (q.k:Int)) u:=one_load h.b6 Tryd.underlying3 rfl rfl
theorem OvM.l8(h:OvM q n tn rb u):Lds Tryd.prog 4 (.pointer (some ⟨q.g8,0,none⟩)) (.bool q.wk) u:=one_load h.b8 Tryd.underlying4 rfl rfl
theorem OvM.s12(h:OvM q n tn rb u)(v:Int):(Instr.storeAt 3 (.pointer (some ⟨q.g12,0,none⟩)) (.int .i64 v)).run Tryd.prog u=.ok () (u.setCells q.g12 0 [.int .i64 v]):=one_store h.b12 (by kernel_rfl) (by show 0<1;omega) rfl
theorem OvM.s13(h:OvM q n tn rb u)(v:Int):(Instr.storeAt 3 (.pointer (some ⟨q.g13,0,none⟩)) (.int .i64 v)).run Tryd.prog u=.ok () (u.setCells q.g13 0 [.int .i64 v]):=one_store h.b13 (by kernel_rfl) (by show 0<1;omega) rfl
theorem OvM.s10(h:OvM q n tn rb u)(b:Bool):(Instr.storeAt 4 (.pointer (some ⟨q.g10,0,none⟩)) (.bool b)).run Tryd.prog u=.ok () (u.setCells q.g10 0 [.bool b]):=one_store h.b10 (by kernel_rfl) (by show 0<1;omega) rfl
theorem OvM.nth(h:OvM q n tn rb u){i:Nat}{x:Re}(hx:q.was[i]? =some x): ∃g,(∀v,(Instr.indexAt 54 (.slice q.s3.d q.s3.n q.s3.c) (.int .i64 (i:Int))).run Tryd.prog v=.ok (.pointer (some ⟨g,i*23,none⟩)) v)/\q.s3.n=q.was.length/\i<q.was.length/\∀{v:World},Below u.heap.size u v->Lds Tryd.prog reT (.pointer (some ⟨g,i*23,none⟩)) (.agg x.cs) v:=by
 obtain⟨g,cur,e1,e2,e3,e4,e5,e6,e7,e8,e9⟩:=h.row.at hx
 refine⟨g,fun v=> ?_,e3,e4,fun hv=>re_load fun j y hy=>(World.cell?_of_block (w:=u) (hv.block g e6)).trans (e9 j y hy)⟩
 rw[e2]
 exact ix_at i rfl Tryd.underlying54 (by kernel_rfl) (by rw[e3];exact e4) rfl v
end
def muC(N g:Nat)(w:World):Nat:=match w.cell? ⟨g,0,none⟩ with
 | some (.int _ x)=>N-x.toNat
 | _=>0
theorem muC_eq{N g n:Nat}{w:World}{t:TypeId}(h:Blk w g t #[.int .i64 (n:Int)]):muC N g w=N-n:=by
 unfold muC
 rw[h.cell]
 rfl
section
variable {q:OvP} {s:St} {l a0 j tn g14 g15 g16:Nat} {a:Act} {W:World} {Q:Exit->Act->World->Prop} {R0:List En} {many0:Int} {kk vv:Dt} {z:Re}
set_option maxHeartbeats 4000000 in
theorem ov_find(ho: ¬LetsOut Q)(hq:q.ok)(hS:PS q.c s W)(hM:OvM q a0 tn false W)(h16:Blk W g16 reT z.cs)(h16B:q.B<=g16)(h16f: ∀i,¬s.S i g16)
  (hRL:RL R0 q.was many0) (hR0:RtE R0) (hev:Evo q.was many0 (s.L q.k) (s.many q.k)) (hoks: ∀x∈q.was,(x.k.ok/\x.v.ok)/\(rB x.k=true/\kB x.k=true)/\rB x.v=true) (fr: ∀b,q.lo<=b->b<q.B->∀i,¬s.S i b)
  (ht:Told q.wk (s.R q.k) R0 a0 j kk vv) (hlen:(s.L q.k).length<=200000000000/\q.was.length<=200000000000)
  (ha:Sl 133 a [(17,.bool false),(16,.pointer (some ⟨g16,0,none⟩)),(15,.pointer (some ⟨g15,0,none⟩)),(14,.pointer (some ⟨g14,0,none⟩)),(13,.pointer (some ⟨q.g13,0,none⟩)),(12,.pointer (some ⟨q.g12,0,none⟩)),(11,.pointer (some ⟨q.g11,0,none⟩)),(10,.pointer (some ⟨q.g10,0,none⟩)),(9,.pointer (some ⟨q.g9,0,none⟩)),(8,.pointer (some ⟨q.g8,0,none⟩)),(6,.pointer (some ⟨q.g6,0,none⟩)),(5,.pointer (some ⟨q.g5,0,none⟩))])
  (hQ: ∀(a':Act) (W':World) (y:Re),Sl 133 a' [(17,.bool true),(16,.pointer (some ⟨g16,0,none⟩)),(15,.pointer (some ⟨g15,0,none⟩)),(14,.pointer (some ⟨g14,0,none⟩)),(13,.pointer (some ⟨q.g13,0,none⟩)),(12,.pointer (some ⟨q.g12,0,none⟩)),(11,.pointer (some ⟨q.g11,0,none⟩)),(10,.pointer (some ⟨q.g10,0,none⟩)),(9,.pointer (some ⟨q.g9,0,none⟩)),(8,.pointer (some ⟨q.g8,0,none⟩)),(6,.pointer (some ⟨q.g6,0,none⟩)),(5,.pointer (some ⟨q.g5,0,none⟩))]->PS q.c s W'->OvM q (j+1) tn false W'->Blk W' g16 reT y.cs->y.k=kk->y.v=vv->((y.k.ok/\y.v.ok)/\rB y.k=true/\rB y.v=true)->y.k.at W' (fun b=>q.T b\/s.S (4*q.k+2) b) y.dk->y.v.at W' (fun b=>q.T b\/s.S (4*q.k+2) b) y.dv->MovC (fun b=>b=q.g12\/b=g16) W W'->Q .normal a' W'):
  (Code.block 2 (.loop ovL1)).wpIn (rounds l) 7 Tryd.prog Q a W:=by
 have hj:=ht.lt
 have hR0l:=hRL.len
 have hjl:j<q.was.length:=by omega
 have hB12:=hq.in (g:=q.g12) (by simp[OvP.all])
 have n16: ∀x∈q.all,x≠g16:=fun x hx=>by have:=(hq.in hx).2;omega
 have r16: ∀x,q.s3.v.ownBlock=some x->x≠g16:=fun x hx=>by have:=(hq.row x hx).2.1;omega
 have t16: ∀b,q.T b->b≠g16:=fun b hb=>by have:=hq.tl b hb;have:=hq.loB;omega
 have hTT: ∀b,(q.T b\/s.S (4*q.k+2) b)->b≠q.g12/\b≠g16:=fun b hb=>by
  rcases hb with hb | hb
  ·have:=hq.tl b hb
   have:=hq.loB
   omega
  ·refine⟨fun e=> ?_,fun e=> ?_⟩
   ·subst e
    exact fr _ hB12.1 hB12.2 _ hb
   ·subst e
    exact h16f _ hb
 have hRt:=(hS.mem.map q.k hq.hk).rt.1
 have hSL:=hS.rel q.k hq.hk
 obtain⟨Inv,hInv⟩: ∃Inv:Act->World->Prop,Inv=fun a' V=> ∃(n:Nat) (is:Bool) (y:Re),Sl 133 a' [(17,.bool is),(16,.pointer (some ⟨g16,0,none⟩)),(15,.pointer (some ⟨g15,0,none⟩)),(14,.pointer (some ⟨g14,0,none⟩)),(13,.pointer (some ⟨q.g13,0,none⟩)),(12,.pointer (some ⟨q.g12,0,none⟩)),(11,.pointer (some ⟨q.g11,0,none⟩)),(10,.pointer (some ⟨q.g10,0,none⟩)),(9,.pointer (some ⟨q.g9,0,none⟩)),(8,.pointer (some ⟨q.g8,0,none⟩)),(6,.pointer (some ⟨q.g6,0,none⟩)),(5,.pointer (some ⟨q.g5,0,none⟩))]/\PS q.c s V/\OvM q n tn false V/\Blk V g16 reT y.cs/\MovC (fun b=>b=q.g12\/b=g16) W V/\
   ((is=false/\a0<=n/\n<=j)\/(is=true/\n=j+1/\y.k=kk/\y.v=vv/\((y.k.ok/\y.v.ok)/\rB y.k=true/\rB y.v=true)/\y.k.at V (fun b=>q.T b\/s.S (4*q.k+2) b) y.dk/\y.v.at V (fun b=>q.T b\/s.S (4*q.k+2) b) y.dv)):=⟨_,rfl⟩
 refine wpIn_block ?_
 refine wpIn_loop Inv (fun _ V=>muC (j+1) q.g12 V) (by rw[hInv];exact⟨a0,false,z,ha,hS,hM,h16,MovC.of_below (Below.refl _ _),.inl ⟨rfl,Nat.le_refl _,hj.1⟩⟩) ?_
 intro a2 V hI
 rw[hInv] at hI
 obtain⟨n,is,y,h2,hSV,hMV,h16V,hmV,hcase⟩:=hI
 show Code.wpIn _ _ _ _ (Exit.then (fun a' w'=>Inv a' w'/\muC (j+1) q.g12 w'<muC (j+1) q.g12 V) _) _ _
 rw[muC_eq hMV.b12]
 unfold ovL1
 rcases hcase with⟨rfl,hn1,hn2⟩ | ⟨rfl,rfl,e1,e2,e3,e4,e5⟩
 ·obtain⟨x,hx⟩: ∃x,q.was[n]? =some x:=⟨q.was[n]'(by omega),List.getElem?_eq_getElem _⟩
  have hxm:=List.mem_of_getElem? hx
  obtain⟨g,hix,hsn,hnl,hld⟩:=hMV.nth hx
  obtain⟨ox1,ox2,ox3⟩:=hoks x hxm
  refine wpIn_seq (wpsI (ov_r11_f (b41:=true) h2 rfl rfl rfl hMV.l12 hMV.l11 (decide_eq_true (by omega)) fun a3 h3=>wpnI (h3.look 42 rfl) ?_) (by kernel_rfl) (fun⟨_,_,h⟩=>ho ⟨_,_,h⟩))
  refine wpIn_block ?_
  refine wpsI (ov_r12 (x:=x) h3 rfl rfl rfl hMV.l11 hMV.l12 hix (hld (Below.refl _ _)) (re_sto h16V x) fun a4 h4=> ?_) (by kernel_rfl) (fun⟨_,_,h⟩=>ho ⟨_,_,h⟩)
  have h16x:=re_over h16V x
  have hM1:OvM q n tn false (V.setCells g16 0 x.cs.toList):=hMV.far n16 r16 t16 _ _
  have hmv1:MovC (fun b=>b=q.g12\/b=g16) W (V.setCells g16 0 x.cs.toList):=hmV.set (fun _=>.inr rfl) ⟨_,_,h16V⟩ _ _
  have hS1:PS q.c s (V.setCells g16 0 x.cs.toList):=hSV.moved (T:=fun b=>b=g16) (MovC.one ⟨_,_,h16V⟩ _ _) (fun b e i=>e ▸ h16f i) (fun b e=>by have:=hq.lo0;have:=hq.loB;omega)
  have hdx:=hM1.dat x hxm
  show Code.wpIn _ _ _ _ _ a4 (V.setCells g16 0 x.cs.toList)
  generalize V.setCells g16 0 x.cs.toList=V1 at h16x hM1 hmv1 hS1 hdx ⊢
  refine wpsI (ov_r13 h4 fun a5 h5=> ?_) (by kernel_rfl) (fun⟨_,_,h⟩=>ho ⟨_,_,h⟩)
  refine wpIn_seq (wpsI (ov_r14 (wk:=q.wk) h5 rfl hM1.l8 fun a6 h6=> ?_) (by kernel_rfl) (fun⟨_,_,h⟩=>ho ⟨_,_,h⟩))
  have last: ∀(a':Act) (V':World) (is:Bool) (y:Re) (QQ:Exit->Act->World->Prop),¬LetsOut QQ->(∀(a'':Act) (V'':World),Inv a'' V''/\muC (j+1) q.g12 V''<j+1-n->QQ .normal a'' V'')->Sl 133 a' [(17,.bool is),(16,.pointer (some ⟨g16,0,none⟩)),(15,.pointer (some ⟨g15,0,none⟩)),(14,.pointer (some ⟨g14,0,none⟩)),(13,.pointer (some ⟨q.g13,0,none⟩)),(12,.pointer (some ⟨q.g12,0,none⟩)),(11,.pointer (some ⟨q.g11,0,none⟩)),(10,.pointer (some ⟨q.g10,0,none⟩)),(9,.pointer (some ⟨q.g9,0,none⟩)),(8,.pointer (some ⟨q.g8,0,none⟩)),(6,.pointer (some ⟨q.g6,0,none⟩)),(5,.pointer (some ⟨q.g5,0,none⟩))]->PS q.c s V'->OvM q n tn false V'->Blk V' g16 reT y.cs->MovC (fun b=>b=q.g12\/b=g16) W V'->((is=false/\n+1<=j)\/(is=true/\n=j/\y.k=kk/\y.v=vv/\((y.k.ok/\y.v.ok)/\rB y.k=true/\rB y.v=true)/\y.k.at V' (fun b=>q.T b\/s.S (4*q.k+2) b) y.dk/\y.v.at V' (fun b=>q.T b\/s.S (4*q.k+2) b) y.dv))->
    (r_ov 16).wpIn (rounds l) 7 Tryd.prog QQ a' V':=fun a' V' is y QQ hno hQQ g1 g2 g3 g4 g5 g6=>by
   have m12:OvM q (n+1) tn false (V'.setCells q.g12 0 [.int .i64 ((n:Int)+1)]):=by
    have:=g3.set12 hq (n+1)
    simpa using this
   refine wplI (ov_r16 (n:=n) g1 rfl g3.l12 (by omega) (g3.s12 _) fun a'' h''=>hQQ a'' _ ⟨?_, ?_⟩) (by kernel_rfl) hno
   ·rw[hInv]
    refine⟨n+1,is,y,h''.to ⟨rfl,rfl,rfl,rfl,rfl,rfl,rfl,rfl,rfl,rfl,rfl,rfl,trivial⟩,g2.moved (T:=fun b=>b=q.g12) (MovC.one ⟨_,_,g3.b12⟩ _ _) (fun b e i=>e ▸ fr _ hB12.1 hB12.2 i) (fun b e=>by have:=hq.lo0;omega),m12,Blk.farL (by omega) _ _ _ g4,g5.set (fun _=>.inl rfl) ⟨_,_,g3.b12⟩ _ _, ?_⟩
    rcases g6 with⟨r1,r2⟩ | ⟨r1,r2,r3,r4,r5,r6,r7⟩
    ·exact .inl ⟨r1,by omega,r2⟩
    ·exact .inr ⟨r1,by omega,r3,r4,r5,r6.keep (fun b hb _=>setCells_other _ _ _ (hTT b hb).1) (fun _ h _=>h),r7.keep (fun b hb _=>setCells_other _ _ _ (hTT b hb).1) (fun _ h _=>h)⟩
   ·show muC (j+1) q.g12 (V'.setCells q.g12 0 [.int .i64 ((n:Int)+1)])<_
    rw[muC_eq m12.b12]
    omega
  cases hw:q.wk with
  | false=>
   rw[hw] at h6 ht
   obtain⟨rfl,x',hx',_,e1,e2⟩:=ht.all hRL
   have hnj:n=a0:=by omega
   subst hnj
   rw[hx] at hx'
   injection hx' with hx'
   subst hx'
   refine wpcI_off (h6.look 47 rfl) ?_
   exact last a6 V1 true x _ (fun⟨_,_,h⟩=>ho ⟨_,_,h⟩) (fun _ _ h=>h) (h6.to ⟨rfl,rfl,rfl,rfl,rfl,rfl,rfl,rfl,rfl,rfl,rfl,rfl,trivial⟩) hS1 hM1 h16x hmv1 (.inr ⟨rfl,rfl,e1,e2,⟨ox1,ox2.1,ox3⟩,hdx.1.keep (fun _ _ _=>rfl) (fun _ h _=>.inl h),hdx.2.keep (fun _ _ _=>rfl) (fun _ h _=>.inl h)⟩)
  | true=>
   rw[hw] at h6 ht
   obtain⟨hg,x',hx',_,y',hy',hym,e1,e2⟩:=ht.walk hRL hR0 hev hSL hRt
   refine wpIn_cond_true (h6.look 47 rfl) ?_
   obtain⟨g',hix',_,_,hld'⟩:=hM1.nth hx
   have hdr:=below_drewN (Below.refl V1.heap.size V1) 1
   have hrt:=rturn_any ((hS1.old hdr).mem.ref q.k hq.hk) hlen.1 ox1.1 (hdx.1.old hdr) ox2.1 ox2.2
   obtain⟨yy,hyy⟩: ∃yy,yy=(turnI (s.L q.k) x).getD zR:=⟨_,rfl⟩
   refine rg_in (ov_r15 (C:=fun u=>Below V1.heap.size V1 u) (x:=x) (y:=yy) (b61:=(turnI (s.L q.k) x).isSome) (C0:=fun u=>Below V1.heap.size V1 u) h6 rfl rfl rfl rfl rfl hdr (fun u hu=>(hM1.old hu).l5) (fun u hu=>(hM1.old hu).l6) (ix_r hq.hk q.c.gw) (fun u hu=>(hS1.mem.old hu).ldr hq.hk) (fun u hu=>(hM1.old hu).l11) (fun u hu=>(hM1.old hu).l12) hix' (fun u hu=>hld' hu)
    (hrt.mono fun e u hh=>⟨by rw[hyy];exact hh.2,bl_trans hdr hh.1⟩) (fun _ h=>h) (fun u hu=>re_sto (h16x.below hu h16x.lt) yy) fun a7 V2 hb2 h7=> ?_) (by kernel_rfl) (fun⟨_,_,h⟩=>ho ⟨_,_,h⟩)
   have h16y:=re_over (h16x.below hb2 h16x.lt) yy
   have hM2:OvM q n tn false (V2.setCells g16 0 yy.cs.toList):=(hM1.old hb2).far n16 r16 t16 _ _
   have hmv2:MovC (fun b=>b=q.g12\/b=g16) W (V2.setCells g16 0 yy.cs.toList):=(hmv1.below hb2).set (fun _=>.inr rfl) ⟨_,_,h16x.below hb2 h16x.lt⟩ _ _
   have hS2:PS q.c s (V2.setCells g16 0 yy.cs.toList):=(hS1.old hb2).moved (T:=fun b=>b=g16) (MovC.one ⟨_,_,h16x.below hb2 h16x.lt⟩ _ _) (fun b e i=>e ▸ h16f i) (fun b e=>by have:=hq.lo0;have:=hq.loB;omega)
   by_cases hnj:n=j
   ·subst hnj
    rw[hx] at hx'
    injection hx' with hx'
    subst hx'
    rw[hy'] at hyy h7
    have hyy:yy=y':=hyy
    subst hyy
    have hRf:=hS2.mem.ref q.k hq.hk
    exact last a7 _ true yy _ (fun⟨_,_,h⟩=>ho ⟨_,_,h⟩) (fun _ _ h=>h) (h7.to ⟨rfl,rfl,rfl,rfl,rfl,rfl,rfl,rfl,rfl,rfl,rfl,rfl,trivial⟩) hS2 hM2 h16y hmv2 (.inr ⟨rfl,rfl,e1,e2,⟨(hRf.oks yy hym).1,(hRf.oks yy hym).2.1.1,(hRf.oks yy hym).2.2⟩,(hRf.dat yy hym).1.keep (fun _ _ _=>rfl) (fun _ h _=>.inr h),(hRf.dat yy hym).2.keep (fun _ _ _=>rfl) (fun _ h _=>.inr h)⟩)
   ·obtain⟨x2,hx2,_,hg2⟩:=gone_turn hRL hR0 hev hSL hRt hg hn1 (by omega) (by omega)
    rw[hx] at hx2
    injection hx2 with hx2
    subst hx2
    rw[hg2] at h7
    exact last a7 _ false yy _ (fun⟨_,_,h⟩=>ho ⟨_,_,h⟩) (fun _ _ h=>h) (h7.to ⟨rfl,rfl,rfl,rfl,rfl,rfl,rfl,rfl,rfl,rfl,rfl,rfl,trivial⟩) hS2 hM2 h16y hmv2 (.inl ⟨rfl,by omega⟩)
 ·refine wpIn_seq (wpsI (ov_r11_t h2 rfl fun a3 h3=>wpxI (h3.look 42 rfl) ?_) (by kernel_rfl) (fun⟨_,_,h⟩=>ho ⟨_,_,h⟩))
  exact then_exit' (in_block2 (hQ a3 V y (h3.to ⟨rfl,rfl,rfl,rfl,rfl,rfl,rfl,rfl,rfl,rfl,rfl,rfl,trivial⟩) hSV hMV h16V e1 e2 e3 e4 e5 hmV))
end
end Go.Proofs.YtlhfickniegooaaDoor

namespace Go.Proofs.YtlhfickniegooaaDoor
open Go.RowKit Go.Sort
set_option maxRecDepth 100000
noncomputable def ovB:Code:=.seq (.seq (r_ov 25) (.cond (.tmp 95) (.seq (r_ov 26) (.seq (r_ov 27) (.cond (.tmp 101) (.seq (r_ov 28) .ret) .skip))) .skip)) (.seq (r_ov 29) (.seq (r_ov 30) (.cond (.tmp 108) (.seq (r_ov 31) .ret) .skip)))
structure SpOk (w0:World) (o:Sp):Prop where
 kind:okInt o.kind
 on:okInt o.on
 leave:okInt o.leave
 turn:okInt o.turn
 inn:okInt o.inn
 k:o.k.ok/\o.k.at w0 (fun b=>b<w0.heap.size) o.dk
 v:o.v.ok/\o.v.at w0 (fun b=>b<w0.heap.size) o.dv
 k2:o.k2.ok/\o.k2.at w0 (fun b=>b<w0.heap.size) o.dk2
 v2:o.v2.ok/\o.v2.at w0 (fun b=>b<w0.heap.size) o.dv2
def BdO(s:St)(M N:Nat):Prop:=(∀k,k<2->(s.L k).length<=M/\ -1<=s.many k/\s.many k<=(M:Int))/\s.n<=N
def InnerC(c:PlC)(k:Nat)(o:Sp)(M N PB IB:Nat):Prop:= ∀(V:World) (s:St),PS c s V->BdO s M N->Calls Tryd.prog 42 #[.pointer (some ⟨c.gw,0,none⟩),.int .i64 (k:Int),.agg o.cs] V fun e w'=>e=.returned (.bool true)/\∃s',PS c s' w'/\Nx s s' V w' PB IB
def pI(o:Sp)(PB tn:Nat):Nat:=if pkN o.turn 6<tn then PB else 0
def qI(o:Sp)(IB tn:Nat):Nat:=tn*200+(if pkN o.turn 6<tn then IB else 0)
theorem pI_le(o:Sp)(PB:Nat){a b:Nat}(h:a<=b):pI o PB a<=pI o PB b:=by
 unfold pI
 split<;>split<;>omega
theorem qI_le(o:Sp)(IB:Nat){a b:Nat}(h:a<b):qI o IB a+200<=qI o IB b:=by
 unfold qI
 split<;>split<;>omega
theorem sp_load{w:World}{g:Nat}{t u:TypeId}{o:Sp}{i:Nat}{d:TypeDesc}{v:Value}(h:Blk w g t o.cs)(hu:Tryd.prog.underlying u=some d)(hd:d.isRow=false)(e:o.cs[i]? =some v):Lds Tryd.prog u (.pointer (some ⟨g,i,none⟩)) v w:=one_load h hu hd e
section
variable {q:OvP} {n tn:Nat} {rb:Bool} {u:World}
theorem OvM.l9(h:OvM q n tn rb u):Lds Tryd.prog 59 (.pointer (some ⟨q.g9,0,none⟩)) (.agg q.o.cs) u:=ldsA (cs:=q.o.cs.toList) Tryd.underlying59 rfl (by kernel_rfl) (range_of h.b9 0 49 rfl)
theorem OvM.l9i(h:OvM q n tn rb u):Lds Tryd.prog 3 (.pointer (some ⟨q.g9,26,none⟩)) (.int .i64 q.o.inn) u:=sp_load h.b9 Tryd.underlying3 rfl rfl
theorem OvM.l9t(h:OvM q n tn rb u):Lds Tryd.prog 3 (.pointer (some ⟨q.g9,25,none⟩)) (.int .i64 q.o.turn) u:=sp_load h.b9 Tryd.underlying3 rfl rfl
theorem OvM.l9l(h:OvM q n tn rb u):Lds Tryd.prog 3 (.pointer (some ⟨q.g9,24,none⟩)) (.int .i64 q.o.leave) u:=sp_load h.b9 Tryd.underlying3 rfl rfl
end
section
variable {q:OvP} {s0 s:St} {l n tn M N0 PB IB:Nat} {a:Act} {w W:World} {Q:Exit->Act->World->Prop}
set_option maxHeartbeats 4000000 in
theorem ov_b(ho: ¬LetsOut Q)(hq:q.ok)(hS:PS q.c s W)(hM:OvM q n tn false W)(hw:w.heap.size=q.lo)(hBW:q.B<=W.heap.size)(hN:Nx s0 s w W (pI q.o PB tn) (qI q.o IB tn+200))(fr: ∀b,q.lo<=b->b<q.B->∀i,¬s.S i b)(tf: ∀b,q.T b->Free s b)
  (hso:SpOk q.c.w0 q.o) (hb0:BdO s0 M N0) (htn:tn<=M) (hM5:M<=5000) (hin:q.o.inn≠0->InnerC q.c q.k q.o M (N0+1100000) PB IB)
  (ha:Sl 133 a [(13,.pointer (some ⟨q.g13,0,none⟩)),(12,.pointer (some ⟨q.g12,0,none⟩)),(11,.pointer (some ⟨q.g11,0,none⟩)),(10,.pointer (some ⟨q.g10,0,none⟩)),(9,.pointer (some ⟨q.g9,0,none⟩)),(8,.pointer (some ⟨q.g8,0,none⟩)),(6,.pointer (some ⟨q.g6,0,none⟩)),(5,.pointer (some ⟨q.g5,0,none⟩))])
  (hQ: ∀(a':Act) (W':World) (s':St) (e:Bool),PS q.c s' W'->OvM q n (tn+1) e W'->Nx s0 s' w W' (pI q.o PB (tn+1)) (qI q.o IB (tn+1))->MovC (fun b=>b<q.B\/∃i,s.S i b) W W'->(∀i b,s'.S i b->s.S i b\/W.heap.size<=b)->Q (if e=true then .ret else .normal) a' W'):
  ovB.wpIn (rounds l) 7 Tryd.prog Q a W:=by
 have hTl: ∀b,q.T b->b<q.B:=fun b hb=>by have:=hq.tl b hb;have:=hq.loB;omega
 have hB13:=hq.in (g:=q.g13) (by simp[OvP.all])
 have hB10:=hq.in (g:=q.g10) (by simp[OvP.all])
 have fin: ∀(a':Act) (V:World) (s':St),Sl 133 a' [(13,.pointer (some ⟨q.g13,0,none⟩)),(12,.pointer (some ⟨q.g12,0,none⟩)),(11,.pointer (some ⟨q.g11,0,none⟩)),(10,.pointer (some ⟨q.g10,0,none⟩)),(9,.pointer (some ⟨q.g9,0,none⟩)),(8,.pointer (some ⟨q.g8,0,none⟩)),(6,.pointer (some ⟨q.g6,0,none⟩)),(5,.pointer (some ⟨q.g5,0,none⟩))]->PS q.c s' V->OvM q n tn false V->Nx s0 s' w V (pI q.o PB (tn+1)) (qI q.o IB (tn+1))->MovC (fun b=>b<q.B\/∃i,s.S i b) W V->(∀i b,s'.S i b->s.S i b\/W.heap.size<=b)->(∀b,q.lo<=b->b<q.B->∀i,¬s'.S i b)->
   (Code.seq (r_ov 29) (.seq (r_ov 30) (.cond (.tmp 108) (.seq (r_ov 31) .ret) .skip))).wpIn (rounds l) 7 Tryd.prog Q a' V:=fun a' V s' g0 hS' hM' hN' hmv hgr hfr=>by
  refine wpsI (ov_r29 (tn:=tn) g0 rfl hM'.l13 (by omega) (hM'.s13 _) fun a2 h2=> ?_) (by kernel_rfl) (fun⟨_,_,h⟩=>ho ⟨_,_,h⟩)
  have m13:OvM q n (tn+1) false (V.setCells q.g13 0 [.int .i64 ((tn:Int)+1)]):=by
   have:=hM'.set13 hq (tn+1)
   simpa using this
  have hS2:PS q.c s' (V.setCells q.g13 0 [.int .i64 ((tn:Int)+1)]):=hS'.moved (MovC.one ⟨_,_,hM'.b13⟩ _ _) (fun b e i=>e ▸ hfr _ hB13.1 hB13.2 i) (fun b e=>by have:=hq.lo0;omega)
  have hN2:Nx s0 s' w (V.setCells q.g13 0 [.int .i64 ((tn:Int)+1)]) (pI q.o PB (tn+1)) (qI q.o IB (tn+1)):=hN'.post (MovC.one ⟨_,_,hM'.b13⟩ _ _) (fun x hx e=>by omega)
  have hmv2:MovC (fun b=>b<q.B\/∃i,s.S i b) W (V.setCells q.g13 0 [.int .i64 ((tn:Int)+1)]):=hmv.set (fun _=>.inl hB13.2) ⟨_,_,hM'.b13⟩ _ _
  show Code.wpIn _ _ _ _ _ a2 (V.setCells q.g13 0 [.int .i64 ((tn:Int)+1)])
  generalize V.setCells q.g13 0 [.int .i64 ((tn:Int)+1)]=V2 at m13 hS2 hN2 hmv2 ⊢
  refine wpsI (ov_r30 (tn:=tn+1) (lv:=q.o.leave) (pl:=pkN q.o.leave 9) (b108:=decide (((tn+1:Nat):Int)=(pkN q.o.leave 9:Int))) h2 rfl rfl m13.l13 m13.l9l (fun mm=>(kpick_any hso.leave (n:=9) (by omega) _).mono fun e v hh=>⟨hh.1,mm,hh.2⟩) rfl fun a3 mm h3=> ?_) (by kernel_rfl) (fun⟨_,_,h⟩=>ho ⟨_,_,h⟩)
  have hd:Below V2.heap.size V2 (V2.drewN mm):=below_drewN (Below.refl _ _) mm
  have m3:=m13.old hd
  have hS3:=hS2.old hd
  have hN3:=hN2.post (MovC.of_below (S:=fun _=>False) hd) (fun _ _ h=>h)
  have hmv3:=hmv2.below hd
  by_cases hp:((tn+1:Nat):Int)=(pkN q.o.leave 9:Int)
  ·rw[decide_eq_true hp] at h3
   refine wpIn_cond_true (h3.look 108 rfl) ?_
   refine wpsI (ov_r31 h3 rfl (m3.s10 true) fun a4 h4=>wpIn_ret ?_) (by kernel_rfl) (fun⟨_,_,h⟩=>ho ⟨_,_,h⟩)
   exact hQ a4 _ s' true (hS3.moved (MovC.one ⟨_,_,m3.b10⟩ _ _) (fun b e i=>e ▸ hfr _ hB10.1 hB10.2 i) (fun b e=>by have:=hq.lo0;omega)) (m3.set10 hq true) (hN3.post (MovC.one ⟨_,_,m3.b10⟩ _ _) (fun x hx e=>by omega)) (hmv3.set (fun _=>.inl hB10.2) ⟨_,_,m3.b10⟩ _ _) hgr
  ·rw[decide_eq_false hp] at h3
   refine wpcI_off (h3.look 108 rfl) ?_
   exact hQ a3 _ s' false hS3 m3 hN3 hmv3 hgr
 have hb:=hN.len
 have h1le:pI q.o PB tn<=pI q.o PB (tn+1):=pI_le _ _ (by omega)
 have h2le:qI q.o IB tn+200<=qI q.o IB (tn+1):=qI_le _ _ (by omega)
 unfold ovB
 by_cases hi:q.o.inn=0
 ·refine wpIn_seq (wpsI (ov_r25_f (inn:=q.o.inn) ha rfl hM.l9i (decide_eq_false (fun h=>h hi)) fun a1 mm h1=>wpoI (h1.look 95 rfl) ?_) (by kernel_rfl) (fun⟨_,_,h⟩=>ho ⟨_,_,h⟩))
  have hd:Below W.heap.size W (W.drewN mm):=below_drewN (Below.refl _ _) mm
  exact fin a1 _ s (h1.to ⟨rfl,rfl,rfl,rfl,rfl,rfl,rfl,rfl,trivial⟩) (hS.old hd) (hM.old hd) ((hN.more h1le h2le).post (MovC.of_below (S:=fun _=>False) hd) (fun _ _ h=>h)) (MovC.of_below hd) (fun i b h=>.inl h) fr
 ·refine wpIn_seq (wpsI (ov_r25_t (inn:=q.o.inn) (tn:=tn) (tu:=q.o.turn) (pt:=pkN q.o.turn 6) (b94:=decide ((tn:Int)=(pkN q.o.turn 6:Int))) ha rfl rfl hM.l9i (decide_eq_true hi) hM.l13 hM.l9t (fun mm=>(kpick_any hso.turn (n:=6) (by omega) _).mono fun e v hh=>⟨hh.1,mm,hh.2⟩) rfl fun a1 mm h1=> ?_) (by kernel_rfl) (fun⟨_,_,h⟩=>ho ⟨_,_,h⟩))
  have hd:Below W.heap.size W (W.drewN mm):=below_drewN (Below.refl _ _) mm
  have hSd:=hS.old hd
  have hMd:=hM.old hd
  by_cases hp:(tn:Int)=(pkN q.o.turn 6:Int)
  ·rw[decide_eq_true hp] at h1
   refine wpIn_cond_true (h1.look 95 rfl) ?_
   have hpt:pkN q.o.turn 6=tn:=by omega
   have hp0:pI q.o PB tn=0:=by unfold pI;rw[if_neg (by omega)]
   have hq0:qI q.o IB tn=tn*200:=by unfold qI;rw[if_neg (by omega)];rfl
   have hp1:pI q.o PB (tn+1)=PB:=by unfold pI;rw[if_pos (by omega)]
   have hq1:qI q.o IB (tn+1)=tn*200+200+IB:=by unfold qI;rw[if_pos (by omega)];omega
   have hbs:BdO s M (N0+1100000):=⟨fun j hj=>by
    have e1:=hb0.1 j hj
    have e2:=hN.len j hj
    have e3:=(hN.evo j hj).1
    rw[hp0] at e2
    exact⟨by omega,by omega,by omega⟩,by
    have e1:=hb0.2
    have e2:=hN.num
    rw[hq0] at e2
    omega⟩
   refine wpsI (ov_r26 (o:=q.o) (b20:=true) (C0:=fun u=> ∃s',PS q.c s' u/\Nx s s' (W.drewN mm) u PB IB) h1 rfl rfl rfl hMd.l5 hMd.l6 hMd.l9 (hin hi _ s hSd hbs) fun a2 V hc h2=> ?_) (by kernel_rfl) (fun⟨_,_,h⟩=>ho ⟨_,_,h⟩)
   obtain⟨s',hS',hN'⟩:=hc
   refine wpsI (ov_r27 (b20:=true) h2 rfl fun a3 h3=>wpcI_off (h3.look 101 rfl) ?_) (by kernel_rfl) (fun⟨_,_,h⟩=>ho ⟨_,_,h⟩)
   have hsz:(W.drewN mm).heap.size=W.heap.size:=rfl
   have hM3:OvM q n tn false V:=hMd.keep hq (fun b r1 r2=>hN'.block (by omega) (fun i _=>fr b r1 r2 i)) (fun b r=>hN'.block (by have:=hTl b r;omega) (tf b r))
   rw[hp0,hq0] at hN
   refine fin a3 V s' (h3.to ⟨rfl,rfl,rfl,rfl,rfl,rfl,rfl,rfl,trivial⟩) hS' hM3 ((hN.post (MovC.of_below (S:=fun _=>False) hd) (fun _ _ h=>h)).trans hN' (by omega) (by omega)) ((MovC.of_below hd).trans hN'.mov (fun b _ ⟨i,_,hs⟩=>.inr ⟨i,hs⟩)) (fun i b hs=>hN'.grew i b hs) (fun b r1 r2 i hs=>(hN'.grew i b hs).elim (fr b r1 r2 i) (fun r=>by omega))
  ·rw[decide_eq_false hp] at h1
   refine wpoI (h1.look 95 rfl) ?_
   exact fin a1 _ s (h1.to ⟨rfl,rfl,rfl,rfl,rfl,rfl,rfl,rfl,trivial⟩) hSd hMd ((hN.more h1le h2le).post (MovC.of_below (S:=fun _=>False) hd) (fun _ _ h=>h)) (MovC.of_below hd) (fun i b h=>.inl h) fr
end
end Go.Proofs.YtlhfickniegooaaDoor

namespace Go.Proofs.YtlhfickniegooaaDoor
open Go.RowKit Go.Sort
set_option maxRecDepth 100000
theorem sep_none{d:Dt}{w:World}{lo hi:Nat}{m:Dm}(h:d.sep w lo hi m)(e:hi<=lo):d.sep w 0 0 m:=by
 have hno: ∀b,¬(lo<=b/\b<hi):=fun b hb=>by omega
 obtain⟨q1,q2,g1,g2,g3,g4,g5⟩:=h.sp
 refine⟨h.dat.keep (fun _ _ _=>rfl) (fun b hb _=>(hno b hb).elim),⟨0,0,Nat.le_refl _,Nat.le_refl _,Nat.le_refl _,g4.keep (fun _ _ _=>rfl) (fun b hb _=>(hno b ⟨hb.1,hb.2.1⟩).elim),g5.imp_right fun⟨b,o,_,k1,k2,_⟩=>(hno b ⟨by omega,by omega⟩).elim⟩,h.rows.keep (fun _ _ _=>rfl) (fun b hb _=>(hno b hb).elim)⟩
theorem sep_fit{d:Dt}{w:World}{lo hi N:Nat}{m:Dm}(h:d.sep w lo hi m)(hb: ∀b,lo<=b->b<hi->b<N): ∃lo' hi',d.sep w lo' hi' m/\hi'<=N/\∀b,InR lo' hi' b->lo<=b/\b<hi:=by
 rcases Nat.lt_or_ge lo hi with h1 | h1
 ·exact⟨lo,hi,h,by have:=hb (hi-1) (by omega) (by omega);omega,fun b hb=>hb⟩
 ·exact⟨0,0,sep_none h h1,Nat.zero_le _,fun b hb=>by have:=hb.2;omega⟩
noncomputable def ovA:Code:=.seq (.seq (r_ov 17) (.cond (.tmp 65) (.seq (r_ov 18) .ret) .skip)) (.seq (r_ov 19) (.seq (r_ov 20) (.seq (.seq (r_ov 21) (.cond (.tmp 79) (.seq (r_ov 22) .ret) .skip)) (.seq (r_ov 23) (.seq (r_ov 24) ovB)))))
section
variable {q:OvP} {s0 s:St} {l j a0 tn M N0 PB IB g14 g15:Nat} {a:Act} {w W:World} {Q:Exit->Act->World->Prop} {R0:List En} {many0:Int} {x:Hn} {Hd:Nat->Prop}
set_option maxHeartbeats 8000000 in
theorem ov_round(ho: ¬LetsOut Q)(hq:q.ok)(hS:PS q.c s W)(hM:OvM q a0 tn false W)(hw:w.heap.size=q.lo)(hBW:q.B<=W.heap.size)(hN:Nx s0 s w W (pI q.o PB tn) (qI q.o IB tn))(fr: ∀b,q.lo<=b->b<q.B->∀i,¬s.S i b)(tf: ∀b,q.T b->Free s b)
  (hRL:RL R0 q.was many0) (hR0:RtE R0) (hev:Evo q.was many0 (s.L q.k) (s.many q.k)) (hoks: ∀x∈q.was,(x.k.ok/\x.v.ok)/\(rB x.k=true/\kB x.k=true)/\rB x.v=true) (ht:Told q.wk (s.R q.k) R0 a0 j x.k x.v)
  (hx:x.at Hd W) (hHd: ∀b,Hd b->¬(b<q.B\/∃i,s.S i b)/\b<W.heap.size) (h14:Blk W g14 dtT (x.k.cs x.dk)) (h15:Blk W g15 dtT (x.v.cs x.dv)) (f14:q.B<=g14/\(∀i,¬s.S i g14)/\¬Hd g14) (f15:q.B<=g15/\(∀i,¬s.S i g15)/\¬Hd g15)
  (hso:SpOk q.c.w0 q.o) (hb0:BdO s0 M N0) (htn:tn<=M) (hM5:M<=5000) (hNN:N0+3000000+IB<=100000000000) (hwas:q.was.length<=M) (hin:q.o.inn≠0->InnerC q.c q.k q.o M (N0+1100000) PB IB)
  (hPB:PB<=1000)
  (ha:Sl 133 a [(15,.pointer (some ⟨g15,0,none⟩)),(14,.pointer (some ⟨g14,0,none⟩)),(13,.pointer (some ⟨q.g13,0,none⟩)),(12,.pointer (some ⟨q.g12,0,none⟩)),(11,.pointer (some ⟨q.g11,0,none⟩)),(10,.pointer (some ⟨q.g10,0,none⟩)),(9,.pointer (some ⟨q.g9,0,none⟩)),(8,.pointer (some ⟨q.g8,0,none⟩)),(6,.pointer (some ⟨q.g6,0,none⟩)),(5,.pointer (some ⟨q.g5,0,none⟩))])
  (hQ: ∀(a':Act) (W':World) (s':St) (e:Bool),PS q.c s' W'->OvM q (j+1) (tn+1) e W'->Nx s0 s' w W' (pI q.o PB (tn+1)) (qI q.o IB (tn+1))->MovC (fun b=>b<q.B\/(∃i,s.S i b)\/Hd b) W W'->(∀i b,s'.S i b->s.S i b\/Hd b\/W.heap.size<=b)->Q (if e=true then .ret else .normal) a' W'):
  (Code.block 1 (.seq (r_ov 9) (.seq (r_ov 10) (.seq (.block 2 (.loop ovL1)) ovA)))).wpIn (rounds l) 7 Tryd.prog Q a W:=by
 have hTl: ∀b,q.T b->b<q.B:=fun b hb=>by have:=hq.tl b hb;have:=hq.loB;omega
 have hB12:=hq.in (g:=q.g12) (by simp[OvP.all])
 have hlo0:=hq.lo0
 have hloB:=hq.loB
 have l14:=h14.lt
 have l15:=h15.lt
 have hSl: ∀i b,s.S i b->b<W.heap.size:=fun i b r=>(hS.mem.low i b r).2
 obtain⟨lo,mid,hi,hxk,hxv,le1,le2,eHd⟩:=hx
 have hHd': ∀b,lo<=b->b<hi->q.B<=b/\(∀i,¬s.S i b)/\b<W.heap.size:=fun b r1 r2=>by
  have:=hHd b (by rw[eHd];exact⟨r1,r2⟩)
  exact⟨by
   rcases Nat.lt_or_ge b q.B with r | r
   ·exact(this.1 (.inl r)).elim
   ·exact r,fun i hs=>this.1 (.inr ⟨i,hs⟩),this.2⟩
 have hbn:s.n<=N0+1000000+IB:=by
  have e1:=hN.num
  have e2:=hb0.2
  have e3:qI q.o IB tn<=1000000+IB:=by unfold qI;split<;>omega
  omega
 have hLb:(s.L q.k).length<=6000:=by
  have e1:=(hN.len q.k hq.hk).1
  have e2:=(hb0.1 q.k hq.hk).1
  have e3:pI q.o PB tn<=1000:=by unfold pI;split<;>omega
  omega
 refine wpIn_block ?_
 refine wpsI (ov_r9 ha (re_sto (Blk.new W reT zR.cs) zR) fun a1 h1=> ?_) (by kernel_rfl) (fun⟨_,_,h⟩=>ho ⟨_,_,h⟩)
 have h16:=re_over (Blk.new W reT zR.cs) zR
 have hb1:Below W.heap.size W ((W.alloc (.cells zR.cs reT)).setCells W.heap.size 0 zR.cs.toList):=below_setCells _ _ _ (bl_alloc (Below.refl _ _) _) (Nat.le_refl _)
 show Code.wpIn _ _ _ _ _ a1 ((W.alloc (.cells zR.cs reT)).setCells W.heap.size 0 zR.cs.toList)
 generalize (W.alloc (.cells zR.cs reT)).setCells W.heap.size 0 zR.cs.toList=W1 at h16 hb1 ⊢
 refine wpsI (ov_r10 h1 fun a2 h2=> ?_) (by kernel_rfl) (fun⟨_,_,h⟩=>ho ⟨_,_,h⟩)
 have z1:=hb1.size
 refine wpIn_seq (ov_find (s:=s) (z:=zR) (g16:=W.heap.size) (g14:=g14) (g15:=g15) (fun⟨_,_,h⟩=>ho ⟨_,_,h⟩) hq (hS.old hb1) (hM.old hb1) h16 hBW (fun i r=>by have:=hSl i _ r;omega) hRL hR0 hev hoks fr ht ⟨by omega,by omega⟩ (h2.to ⟨rfl,rfl,rfl,rfl,rfl,rfl,rfl,rfl,rfl,rfl,rfl,rfl,trivial⟩) fun a3 W3 y h3 hS3 hM3 h16y ek ev ok dk dv hmv=> ?_)
 have z3:=hmv.size
 have b14:Blk W3 g14 dtT (x.k.cs x.dk):=hmv.stay (h14.below hb1 l14) (fun r=>by omega)
 have b15:Blk W3 g15 dtT (x.v.cs x.dv):=hmv.stay (h15.below hb1 l15) (fun r=>by omega)
 have sk3:x.k.sep W3 lo mid x.dk:=(hxk.old hb1).keep fun b r1 r2 r3=>hmv.block b r3 fun r=>by have:=hHd' b r1 (by omega);have:=r.1;omega
 have sv3:x.v.sep W3 mid hi x.dv:=(hxv.old hb1).keep fun b r1 r2 r3=>hmv.block b r3 fun r=>by have:=hHd' b (by omega) r2;have:=r.1;omega
 have okk:x.k.ok:=ek ▸ ok.1.1
 have okv:x.v.ok:=ev ▸ ok.1.2
 have rk:rB x.k=true:=ek ▸ ok.2.1
 have rv:rB x.v=true:=ev ▸ ok.2.2
 show Code.wpIn _ _ _ ovA _ a3 W3
 unfold ovA
 refine wpIn_seq (wpsI (ov_r17 (b17:=true) h3 rfl fun a4 h4=>wpoI (h4.look 65 rfl) ?_) (by kernel_rfl) (fun⟨_,_,h⟩=>ho ⟨_,_,h⟩))
 refine wpsI (ov_r19 (dk:=x.k) (mk:=x.dk) (xk:=y.k) (mx:=y.dk) (b18:=true) (C0:=fun u=>Below W3.heap.size W3 u) h4 rfl rfl (dat_whole b14) (ldsA (cs:=(y.k.cs y.dk).toList) Tryd.underlying31 rfl (by kernel_rfl) (re_key (range_of h16y 0 23 rfl))) ((ksame_any okk ok.1.1 sk3.dat dk).mono fun e u hh=>⟨by rw[hh.1,ek,sameD_refl],hh.2⟩) fun a5 W4 hb4 h5=> ?_) (by kernel_rfl) (fun⟨_,_,h⟩=>ho ⟨_,_,h⟩)
 have h16y4:=h16y.below hb4 h16y.lt
 refine wpsI (ov_r20 (dv:=x.v) (mv:=x.dv) (xv:=y.v) (mx:=y.dv) (b19:=true) (C0:=fun u=>Below W4.heap.size W4 u) h5 rfl rfl (dat_whole (b15.below hb4 b15.lt)) (ldsA (cs:=(y.v.cs y.dv).toList) Tryd.underlying31 rfl (by kernel_rfl) (by have:=re_val (range_of h16y4 0 23 rfl);rwa [Nat.zero_add] at this)) ((ksame_any okv ok.1.2 (sv3.old hb4).dat (dv.old hb4)).mono fun e u hh=>⟨by rw[hh.1,ev,sameD_refl],hh.2⟩) fun a6 W5 hb5 h6=> ?_) (by kernel_rfl) (fun⟨_,_,h⟩=>ho ⟨_,_,h⟩)
 refine wpIn_seq (wpsI (ov_r21_t (b19:=true) h6 rfl rfl fun a7 h7=>wpoI (h7.look 79 rfl) ?_) (by kernel_rfl) (fun⟨_,_,h⟩=>ho ⟨_,_,h⟩))
 have hb35:=bl_trans hb4 hb5
 have z5:=hb35.size
 have hS5:=hS3.old hb35
 have hM5':=hM3.old hb35
 have mv5:MovC (fun b=>b=q.g12\/W.heap.size<=b) W W5:=((MovC.of_below hb1).trans hmv (fun b _ r=>r.elim .inl (fun r=>.inr (by omega)))).below hb35
 obtain⟨lo1,hi1,sk5,e1,i1⟩:=sep_fit (N:=W.heap.size) (sk3.old hb35) (fun b r1 r2=>(hHd' b r1 (by omega)).2.2)
 refine wpsI (ov_r23 (dk:=x.k) (mk:=x.dk) (C0:=fun u=> ∃s',PS q.c s' u/\(s'.R=s.R/\s'.L=s.L/\s'.many=s.many/\s'.n<=s.n+100)/\(∀i b,s'.S i b->s.S i b\/(i=8/\InR lo1 hi1 b)\/W5.heap.size<=b)/\MovC (fun b=>s.S 8 b\/InR lo1 hi1 b) W5 u) h7 rfl rfl hM5'.l5 (dat_whole (b14.below hb35 b14.lt)) (hS5.owns (by omega) okk rk sk5 (fun b r=>by have r2:=i1 b r;have r3:=hHd' b r2.1 (by omega);exact⟨r3.2.1,by omega⟩) (by omega)) fun a8 W6 hc h8=> ?_) (by kernel_rfl) (fun⟨_,_,h⟩=>ho ⟨_,_,h⟩)
 obtain⟨s1,hS6,⟨eR1,eL1,em1,en1⟩,gr1,mv6⟩:=hc
 have z6:=mv6.size
 have no6: ∀{b},(∀i,¬s.S i b)->¬(lo<=b/\b<mid)->¬(s.S 8 b\/InR lo1 hi1 b):=fun r1 r2 r=>r.elim (r1 8) (fun r=>r2 (i1 _ r))
 have hM6:OvM q (j+1) tn false W6:=hM5'.keep hq (fun b r1 r2=>mv6.block b (by omega) fun r=>no6 (fr b r1 r2) (fun r3=>by have:=hHd' b r3.1 (by omega);omega) r.1) (fun b r=>mv6.block b (by have:=hTl b r;omega) fun r3=>r3.1.elim (tf b r 8 (.inl rfl)) (fun r4=>by have r5:=i1 b r4;have:=hHd' b r5.1 (by omega);have:=hTl b r;omega))
 have nHk: ∀{g},¬Hd g->¬(lo<=g/\g<mid):=fun r r2=>r (by rw[eHd];exact⟨r2.1,by omega⟩)
 have b15':Blk W6 g15 dtT (x.v.cs x.dv):=mv6.stay (b15.below hb35 b15.lt) (no6 f15.2.1 (nHk f15.2.2))
 have sv6:x.v.sep W6 mid hi x.dv:=(sv3.old hb35).keep fun b r1 r2 r3=>mv6.block b r3 fun r=>no6 (hHd' b (by omega) r2).2.1 (fun r4=>by omega) r.1
 obtain⟨lo2,hi2,sv6',e2,i2⟩:=sep_fit (N:=W.heap.size) sv6 (fun b r1 r2=>(hHd' b (by omega) r2).2.2)
 refine wpsI (ov_r24 (dv:=x.v) (mv:=x.dv) (C0:=fun u=> ∃s',PS q.c s' u/\(s'.R=s1.R/\s'.L=s1.L/\s'.many=s1.many/\s'.n<=s1.n+100)/\(∀i b,s'.S i b->s1.S i b\/(i=8/\InR lo2 hi2 b)\/W6.heap.size<=b)/\MovC (fun b=>s1.S 8 b\/InR lo2 hi2 b) W6 u) h8 rfl rfl hM6.l5 (dat_whole b15') (hS6.owns (by omega) okv rv sv6' (fun b r=>by
  have r2:=i2 b r
  have r3:=hHd' b (by omega) r2.2
  refine⟨fun i hs=> ?_,by omega⟩
  rcases gr1 i b hs with r | ⟨_,r⟩ | r
  ·exact r3.2.1 i r
  ·have:=i1 b r
   omega
  ·omega) (by omega)) fun a9 W7 hc h9=> ?_) (by kernel_rfl) (fun⟨_,_,h⟩=>ho ⟨_,_,h⟩)
 obtain⟨s2,hS7,⟨eR2,eL2,em2,en2⟩,gr2,mv7⟩:=hc
 have z7:=mv7.size
 have gr: ∀i b,s2.S i b->s.S i b\/(lo<=b/\b<hi)\/W.heap.size<=b:=fun i b hs=>by
  rcases gr2 i b hs with r | ⟨_,r⟩ | r
  ·rcases gr1 i b r with r | ⟨_,r⟩ | r
   ·exact .inl r
   ·have:=i1 b r
    exact .inr (.inl ⟨this.1,by omega⟩)
   ·exact .inr (.inr (by omega))
  ·have:=i2 b r
   exact .inr (.inl ⟨by omega,this.2⟩)
  ·exact .inr (.inr (by omega))
 have mvA:MovC (fun b=>b=q.g12\/s.S 8 b\/(lo<=b/\b<hi)) W W7:=by
  have m6:MovC (fun b=>b=q.g12\/s.S 8 b\/(lo<=b/\b<hi)) W W6:=(mv5.more (T:=fun b=>b=q.g12\/s.S 8 b\/(lo<=b/\b<hi)) (fun b r1 r=>r.elim .inl (fun r=>by omega))).trans mv6 (fun b _ r=>r.elim (fun r=>.inr (.inl r)) (fun r=>by have:=i1 b r;exact .inr (.inr ⟨this.1,by omega⟩)))
  refine m6.trans mv7 (fun b r1 r=> ?_)
  rcases r with r | r
  ·rcases gr1 8 b r with r | ⟨_,r⟩ | r
   ·exact .inr (.inl r)
   ·have:=i1 b r
    exact .inr (.inr ⟨this.1,by omega⟩)
   ·omega
  ·have:=i2 b r
   exact .inr (.inr ⟨by omega,this.2⟩)
 have eL:s2.L=s.L:=eL2.trans eL1
 have em:s2.many=s.many:=em2.trans em1
 have hN7:Nx s0 s2 w W7 (pI q.o PB tn) (qI q.o IB tn+200):=by
  refine⟨hN.mov.trans mvA (fun b r1 r=> ?_),fun i b hs=> ?_,fun k hk=>by rw[eL,em];exact hN.evo k hk,fun k hk=>by rw[eL,em];exact hN.len k hk,by have:=hN.num;omega⟩
  ·rcases r with r | r | r
   ·omega
   ·exact(hN.grew 8 b r).elim (fun r=>⟨8,.inl rfl,r⟩) (fun r=>by omega)
   ·have:=hHd' b r.1 r.2
    omega
  ·rcases gr i b hs with r | r | r
   ·exact hN.grew i b r
   ·have:=hHd' b r.1 r.2
    exact .inr (by omega)
   ·exact .inr (by have:=hN.size;omega)
 have fr7: ∀b,q.lo<=b->b<q.B->∀i,¬s2.S i b:=fun b r1 r2 i hs=>by
  rcases gr i b hs with r | r | r
  ·exact fr b r1 r2 i r
  ·have:=hHd' b r.1 r.2
   omega
  ·omega
 have tf7: ∀b,q.T b->Free s2 b:=fun b r i hi' hs=>by
  have:=hTl b r
  rcases gr i b hs with r' | r' | r'
  ·exact tf b r i hi' r'
  ·have:=hHd' b r'.1 r'.2
   omega
  ·omega
 have hM7:OvM q (j+1) tn false W7:=by
  have no7: ∀{b},b<q.B->¬s1.S 8 b->¬(s1.S 8 b\/InR lo2 hi2 b):=fun r1 r2 r=>r.elim r2 (fun r=>by have r3:=i2 _ r;have:=hHd' _ (by omega) r3.2;omega)
  have s18: ∀{b},b<q.B->¬s.S 8 b->¬s1.S 8 b:=fun r1 r2 r=>by
   rcases gr1 8 _ r with r | ⟨_,r⟩ | r
   ·exact r2 r
   ·have r3:=i1 _ r
    have:=hHd' _ r3.1 (by omega)
    omega
   ·omega
  exact hM6.keep hq (fun b r1 r2=>mv7.block b (by omega) fun r=>no7 r2 (s18 r2 (fr b r1 r2 8)) r.1) (fun b r=>mv7.block b (by have:=hTl b r;omega) fun r3=>no7 (hTl b r) (s18 (hTl b r) (tf b r 8 (.inl rfl))) r3.1)
 refine ov_b (fun⟨_,_,h⟩=>ho ⟨_,_,h⟩) hq hS7 hM7 hw (by omega) hN7 fr7 tf7 hso hb0 htn hM5 hin (h9.to ⟨rfl,rfl,rfl,rfl,rfl,rfl,rfl,rfl,trivial⟩) fun a' W' s' e g1 g2 g3 g4 g5=> ?_
 have:=hQ a' W' s' e g1 g2 g3 ((mvA.more (fun b _ r=>by
  rcases r with r | r | r
  ·exact .inl (by omega)
  ·exact .inr (.inl ⟨8,r⟩)
  ·exact .inr (.inr (by rw[eHd];exact r)))).trans g4 (fun b r1 r=>by
  rcases r with r | ⟨i,r⟩
  ·exact .inl r
  ·rcases gr i b r with r | r | r
   ·exact .inr (.inl ⟨i,r⟩)
   ·exact .inr (.inr (by rw[eHd];exact r))
   ·omega)) (fun i b r=>by
  rcases g5 i b r with r | r
  ·rcases gr i b r with r | r | r
   ·exact .inl r
   ·exact .inr (.inl (by rw[eHd];exact r))
   ·exact .inr (.inr r)
  ·exact .inr (.inr (by omega)))
 cases e with
 | true=>exact this
 | false=>exact this
end
end Go.Proofs.YtlhfickniegooaaDoor
