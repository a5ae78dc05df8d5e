/-
   Written by an AI agent.
-/
import Derived.Test.YtlhfickniegooaaDoorPk27
import Derived.Test.YtlhfickniegooaaDoorPk14
namespace Go.Proofs.YtlhfickniegooaaDoor
open Go.RowKit Go.Sort
set_option maxRecDepth 100000
def LUp(w:World)(k:Fo)(b j:Nat)(ms:Nat->Nat):Prop:= ∀i a d,i<j->k.get i=some (a,d)->ms (i+1)<=w.heap.size/\∃x:Dm,CellsAt w b (i*11) (a.cells x.pa x.pc x.ia d.len x.ic)/\LN w (ms i) (ms (i+1)) a d x
theorem LUp.step{w w6:World}{k:Fo}{b j:Nat}{ms:Nat->Nat}{a:Hd}{d:Fo}{x:Dm}{cu:Array Value}{t:TypeId}(gH:LUp w k b j ms)(hms:ms j<=w.heap.size/\b<ms 0)(hmo: ∀i,i<j->ms i<=ms (i+1))(hb6:Below w.heap.size w w6)(hget:k.get j=some (a,d))(hB:Blk w6 b t cu)(hsz:j*11+11<=cu.size)(hd:LN w6 w.heap.size w6.heap.size a d x):
  LUp (w6.setCells b (j*11) (a.cells x.pa x.pc x.ia d.len x.ic).toList) k b (j+1) (fun n=>if n<=j then ms n else w6.heap.size):=by
 have hlen:(a.cells x.pa x.pc x.ia d.len x.ic).toList.length=11:=by simp[Hd.cells]
 have hm0: ∀i,i<=j->b<ms i:=fun i hi=>by
  induction i with
  | zero=>exact hms.2
  | succ n ih=>exact Nat.lt_of_lt_of_le (ih (by omega)) (hmo n (by omega))
 intro i c e hi hg
 by_cases hij:i=j
 ·subst hij
  rw[hget] at hg
  injection hg with hg
  injection hg with e1 e2
  subst e1 e2
  have hbm:=hm0 i (Nat.le_refl _)
  have e1:(if i<=i then ms i else w6.heap.size)=ms i:=if_pos (Nat.le_refl _)
  have e2:(if i+1<=i then ms (i+1) else w6.heap.size)=w6.heap.size:=if_neg (by omega)
  refine⟨by show(if i+1<=i then ms (i+1) else w6.heap.size)<=_;rw[e2,setCells_size'];exact Nat.le_refl _,x,fun n v hv=>set_cell hB _ (by rw[hlen];exact hsz) (by simpa using hv), ?_⟩
  show LN _ (if i<=i then ms i else w6.heap.size) (if i+1<=i then ms (i+1) else w6.heap.size) a d x
  rw[e1,e2]
  exact(hd.keep (fun y h1 _=>setCells_other _ _ _ (by omega))).mono hms.1 (Nat.le_refl _)
 ·obtain⟨g1,y,g2,g3⟩:=gH i c e (by omega) hg
  have h1:i<=j:=by omega
  have h2:i+1<=j:=by omega
  simp only[if_pos h1,if_pos h2]
  refine⟨by rw[setCells_size'];exact Nat.le_trans g1 hb6.size,y,fun n v hv=> ?_,g3.keep fun z z1 z2=> ?_⟩
  ·have hn:n<11:=by
    have:n<(c.cells y.pa y.pc y.ia e.len y.ic).size:=(Array.getElem?_eq_some_iff.1 hv).1
    simpa[Hd.cells] using this
   rw[set_out _ (fun _=>by rw[hlen];omega)]
   exact cell_ext (Ext.of_below (B:=0) hb6 (Nat.zero_le _)) (g2 n v hv)
  ·have:=hm0 i h1
   exact(setCells_other _ _ _ (by omega)).trans (hb6.block z (by omega))
theorem Fo.get_lt': ∀{f:Fo} {i:Nat} {p:Hd×Fo},f.get i=some p->i<f.len
 | .nil,_,_,e=>by simp[Fo.get] at e
 | .cons _ _ r,0,_,_=>by show 0<r.len+1;omega
 | .cons _ _ r,i+1,_,e=>by
  have:=Fo.get_lt' (f:=r) e
  show i+1<r.len+1
  omega
set_option maxHeartbeats 8000000 in
theorem lent_dt{d:Dt}(ho:d.h.ok)(hk:d.k.ok)(hl:d.k.len<=1034834473170)(ih: ∀i a e,d.k.get i=some (a,e)->LentC a e){w:World}{S:Nat->Prop}{m:Dm}(hr:rightB d.h d.k=true)(hdd:d.at w S m):
  Calls Tryd.prog 43 #[.agg (d.cs m)] w fun e w'=> ∃x:Dm,e=.returned (.agg (d.cs x))/\(LN w' w.heap.size w'.heap.size d.h d.k x/\Below w.heap.size w w'):=by
 refine calls_ev (vs:=[.agg (d.cs m)]) 85 Tryd.func43 le_body (by kernel_rfl) (by simp) fun a0 h0=> ?_
 unfold leBody
 refine wp_seq (rg_wp (le_r0 h0 rfl fun a1 h1=> ?_))
 have hA1:=Blk.new w 31 (d.cs m)
 have hb1:=bl_alloc (Below.refl w.heap.size w) (.cells (d.cs m) 31)
 generalize w.alloc (.cells (d.cs m) 31)=w1 at h1 hA1 hb1 ⊢
 have lo1:w.heap.size<w1.heap.size:=hA1.lt
 have hZ2:Blk _ w1.heap.size 31 (zD.cs m0):=Blk.new w1 31 zeroC
 have hab1:=bl_alloc (Below.refl w1.heap.size w1) (.cells zeroC 31)
 have hA2:=hA1.below hab1 hA1.lt
 have hb2:=bl_trans hb1 hab1
 show Code.wp _ _ _ a1 (w1.alloc (.cells zeroC 31))
 generalize w1.alloc (.cells zeroC 31)=w2 at hZ2 hA2 hb2 ⊢
 have lo2:w1.heap.size<w2.heap.size:=hZ2.lt
 refine wp_seq (rg_wp (le_r1 h1 rfl (dat_whole hA2) (refRight_any d.h d.k ho hk hl w2 S _ _ _ _ (hdd.old hb2)) fun a2 w3 hb3 h2=> ?_))
 rw[hr] at h2
 refine wp_seq (wp_seq (rg_wp (le_r2 h2 rfl fun a3 h3=>wpo (h3.look 10 rfl) ?_)))
 have hA3:=hA2.below hb3 hA2.lt
 have hZ3:=hZ2.below hb3 hZ2.lt
 have hb03:=bl_trans hb2 hb3
 have hpl:=ho.path
 have lo3:=hb3.size
 have hp9: ∀{u:World},Blk u w.heap.size 31 (d.cs m)->Lds Tryd.prog 22 (.pointer (some ⟨w.heap.size,5+4,none⟩)) (.slice m.pa d.h.path.length m.pc) u:=fun hB=>one_load hB Tryd.underlying22 rfl rfl
 have hi10: ∀{u:World},Blk u w.heap.size 31 (d.cs m)->Lds Tryd.prog 29 (.pointer (some ⟨w.heap.size,10,none⟩)) (.slice m.ia d.k.len m.ic) u:=fun hB=>one_load hB Tryd.underlying29 rfl rfl
 refine wp_seq (rg_wp (le_r4 (np:=d.h.path.length+2) h3 rfl (hp9 hA3) (by omega) (make_int9 _ hpl w3) fun a4 h4=> ?_))
 have hP4: ∃cp,Blk (w3.alloc (.cells (madeCells #[.int .i64 0] (d.h.path.length+2)) 3)) w3.heap.size 3 cp/\cp.size=d.h.path.length+2:=⟨_,Blk.new w3 _ _,size_madeCells _ _⟩
 have hb4:=bl_alloc (Below.refl w3.heap.size w3) (.cells (madeCells #[.int .i64 0] (d.h.path.length+2)) 3)
 generalize w3.alloc (.cells (madeCells #[.int .i64 0] (d.h.path.length+2)) 3)=w4 at hP4 hb4 ⊢
 have hA4:=hA3.below hb4 hA3.lt
 have hZ4:=hZ3.below hb4 hZ3.lt
 have hb04:=bl_trans hb03 hb4
 have lo4:w3.heap.size<w4.heap.size:=by obtain⟨_,h,_⟩:=hP4;exact h.lt
 obtain⟨cp4,hp41,hp42⟩:=hP4
 obtain⟨vc,hcp⟩:=copy_path (pc:=m.pc) (hdd.old hb04).path hp41 hp42
 refine wp_seq (rg_wp (le_r5 h4 rfl rfl (hp9 hA4) hcp fun a5 h5=> ?_))
 have hlm:(d.h.path.map (Value.int .i64)).length=d.h.path.length:=by simp
 have hP5:=set_blk (o:=0) (d.h.path.map (Value.int .i64)) ⟨cp4,hp41,hp42⟩
 have hV5: ∀(j:Nat) (y:Int),d.h.path[j]? =some y->(w4.setCells w3.heap.size 0 (d.h.path.map (Value.int .i64))).cell? ⟨w3.heap.size,j,none⟩=some (.int .i64 y):=fun j y hy=>by
  have:=set_cell (o:=0) hp41 (d.h.path.map (Value.int .i64)) (by rw[hlm];omega) (j:=j) (v:=.int .i64 y) (by simp[hy])
  rwa [Nat.zero_add] at this
 have hA5:=Blk.farL (g:=w.heap.size) (b:=w3.heap.size) (by omega) (d.h.path.map (Value.int .i64)) 0 _ hA4
 have hZ5:=Blk.farL (g:=w1.heap.size) (b:=w3.heap.size) (by omega) (d.h.path.map (Value.int .i64)) 0 _ hZ4
 have hb05:=below_setCells (b:=w3.heap.size) (d.h.path.map (Value.int .i64)) 0 _ hb04 (by omega)
 have lo5:(w4.setCells w3.heap.size 0 (d.h.path.map (Value.int .i64))).heap.size=w4.heap.size:=setCells_size' _ _ _ _
 generalize w4.setCells w3.heap.size 0 (d.h.path.map (Value.int .i64))=w5 at hP5 hV5 hA5 hZ5 hb05 lo5 ⊢
 clear hA4 hZ4 hb04 hp41 hcp hA3 hZ3 hA2 hZ2 hA1
 obtain⟨cp5,hp51,hp52⟩:=hP5
 refine wp_seq (rg_wp (le_r6 h5 rfl rfl (hp9 hA5) (ix_at d.h.path.length rfl Tryd.underlying22 (by kernel_rfl) (by omega) (Nat.mul_one _).symm) (sts1 (there_bk hp51 (by rw[hp52];omega)) (by kernel_rfl) rfl) fun a6 h6=> ?_))
 have hP6:=set_blk (o:=d.h.path.length) [.int .i64 (-71)] ⟨cp5,hp51,hp52⟩
 have hV6: ∀(j:Nat) (y:Int),d.h.path[j]? =some y->(w5.setCells w3.heap.size d.h.path.length [.int .i64 (-71)]).cell? ⟨w3.heap.size,j,none⟩=some (.int .i64 y):=fun j y hy=>by
  have:=(List.getElem?_eq_some_iff.1 hy).1
  rw[set_out _ (fun _=>.inl this)]
  exact hV5 j y hy
 have hM6:=set_cell (o:=d.h.path.length) hp51 [.int .i64 (-71)] (by rw[hp52];simp) (j:=0) rfl
 have hA6:=Blk.farL (g:=w.heap.size) (b:=w3.heap.size) (by omega) [.int .i64 (-71)] d.h.path.length _ hA5
 have hZ6:=Blk.farL (g:=w1.heap.size) (b:=w3.heap.size) (by omega) [.int .i64 (-71)] d.h.path.length _ hZ5
 have hb06:=below_setCells (b:=w3.heap.size) [.int .i64 (-71)] d.h.path.length _ hb05 (by omega)
 have lo6:(w5.setCells w3.heap.size d.h.path.length [.int .i64 (-71)]).heap.size=w4.heap.size:=(setCells_size' _ _ _ _).trans lo5
 generalize w5.setCells w3.heap.size d.h.path.length [.int .i64 (-71)]=w6 at hP6 hV6 hM6 hA6 hZ6 hb06 lo6 ⊢
 clear hA5 hZ5 hb05 hV5 lo5 hp51 hp52
 rw[Nat.add_zero] at hM6
 obtain⟨cp6,hp61,hp62⟩:=hP6
 refine wp_seq (rg_wp (le_r7 h6 rfl rfl (hp9 hA6) (by omega) (ix_at (d.h.path.length+1) (by omega) Tryd.underlying22 (by kernel_rfl) (by omega) (Nat.mul_one _).symm) (sts1 (there_bk hp61 (by rw[hp62];omega)) (by kernel_rfl) rfl) fun a7 h7=> ?_))
 have hP7:=set_blk (o:=d.h.path.length+1) [.int .i64 (-72)] ⟨cp6,hp61,hp62⟩
 have hV7: ∀(j:Nat) (y:Int),d.h.path[j]? =some y->(w6.setCells w3.heap.size (d.h.path.length+1) [.int .i64 (-72)]).cell? ⟨w3.heap.size,j,none⟩=some (.int .i64 y):=fun j y hy=>by
  have:=(List.getElem?_eq_some_iff.1 hy).1
  rw[set_out _ (fun _=>.inl (by omega))]
  exact hV6 j y hy
 have hM7:=(set_out (w:=w6) (g:=w3.heap.size) (o:=d.h.path.length+1) [.int .i64 (-72)] (b:=w3.heap.size) (j:=d.h.path.length) (fun _=>.inl (by omega))).trans hM6
 have hN7:=set_cell (o:=d.h.path.length+1) hp61 [.int .i64 (-72)] (by rw[hp62];simp) (j:=0) rfl
 rw[Nat.add_zero] at hN7
 have hA7:=Blk.farL (g:=w.heap.size) (b:=w3.heap.size) (by omega) [.int .i64 (-72)] (d.h.path.length+1) _ hA6
 have hZ7:=Blk.farL (g:=w1.heap.size) (b:=w3.heap.size) (by omega) [.int .i64 (-72)] (d.h.path.length+1) _ hZ6
 have hb07:=below_setCells (b:=w3.heap.size) [.int .i64 (-72)] (d.h.path.length+1) _ hb06 (by omega)
 have lo7:(w6.setCells w3.heap.size (d.h.path.length+1) [.int .i64 (-72)]).heap.size=w4.heap.size:=(setCells_size' _ _ _ _).trans lo6
 generalize w6.setCells w3.heap.size (d.h.path.length+1) [.int .i64 (-72)]=w7 at hP7 hV7 hM7 hN7 hA7 hZ7 hb07 lo7 ⊢
 clear hA6 hZ6 hb06 hV6 hM6 lo6 hp61 hp62
 refine wp_seq (rg_wp (le_r8 (nl:=d.k.len+2) h7 rfl (hi10 hA7) (by omega) (make_dat9 _ hl w7) fun a8 h8=> ?_))
 have hC8: ∃cb,Blk (w7.alloc (.cells (madeCells zeroC ((d.k.len+2)*11)) 31)) w7.heap.size 31 cb/\cb.size=(d.k.len+2)*11:=⟨_,Blk.new w7 _ _,size_madeCells _ _⟩
 have hb8:=bl_alloc (Below.refl w7.heap.size w7) (.cells (madeCells zeroC ((d.k.len+2)*11)) 31)
 generalize w7.alloc (.cells (madeCells zeroC ((d.k.len+2)*11)) 31)=w8 at hC8 hb8 ⊢
 have lo8:w7.heap.size<w8.heap.size:=by obtain⟨_,h,_⟩:=hC8;exact h.lt
 have hS8:Blk w8 w.heap.size 31 (d.cs m)/\Blk w8 w1.heap.size 31 (zD.cs m0)/\(∃cp,Blk w8 w3.heap.size 3 cp/\cp.size=d.h.path.length+2)/\(∀(j:Nat) (y:Int),d.h.path[j]? =some y->w8.cell? ⟨w3.heap.size,j,none⟩=some (.int .i64 y))/\w8.cell? ⟨w3.heap.size,d.h.path.length,none⟩=some (.int .i64 (-71))/\w8.cell? ⟨w3.heap.size,d.h.path.length+1,none⟩=some (.int .i64 (-72))/\Below w.heap.size w w8:=by
  have e:=Ext.of_below (B:=0) hb8 (Nat.zero_le _)
  obtain⟨cp,p1,p2⟩:=hP7
  exact⟨hA7.below hb8 hA7.lt,hZ7.below hb8 hZ7.lt,⟨cp,p1.below hb8 p1.lt,p2⟩,fun j y hy=>cell_ext e (hV7 j y hy),cell_ext e hM7,cell_ext e hN7,bl_trans hb07 hb8⟩
 clear hA7 hZ7 hP7 hV7 hM7 hN7 hb07
 have keep: ∀{u u':World} {vs:List Value} {o:Nat},u'=u.setCells w7.heap.size o vs->(Blk u w.heap.size 31 (d.cs m)/\Blk u w1.heap.size 31 (zD.cs m0)/\(∃cp,Blk u w3.heap.size 3 cp/\cp.size=d.h.path.length+2)/\(∀(j:Nat) (y:Int),d.h.path[j]? =some y->u.cell? ⟨w3.heap.size,j,none⟩=some (.int .i64 y))/\u.cell? ⟨w3.heap.size,d.h.path.length,none⟩=some (.int .i64 (-71))/\u.cell? ⟨w3.heap.size,d.h.path.length+1,none⟩=some (.int .i64 (-72))/\Below w.heap.size w u)->
   (Blk u' w.heap.size 31 (d.cs m)/\Blk u' w1.heap.size 31 (zD.cs m0)/\(∃cp,Blk u' w3.heap.size 3 cp/\cp.size=d.h.path.length+2)/\(∀(j:Nat) (y:Int),d.h.path[j]? =some y->u'.cell? ⟨w3.heap.size,j,none⟩=some (.int .i64 y))/\u'.cell? ⟨w3.heap.size,d.h.path.length,none⟩=some (.int .i64 (-71))/\u'.cell? ⟨w3.heap.size,d.h.path.length+1,none⟩=some (.int .i64 (-72))/\Below w.heap.size w u'):=fun e h=>by
  subst e
  obtain⟨q1,q2,⟨cp,q3,q3'⟩,q4,q5,q6,q7⟩:=h
  have hne:w3.heap.size≠w7.heap.size:=by omega
  have hs3:=fun(vs:List Value) (o:Nat) (u:World) (j:Nat)=>set_out (w:=u) (g:=w7.heap.size) (o:=o) vs (b:=w3.heap.size) (j:=j) (fun e=>absurd e hne)
  exact⟨Blk.farL (by omega) _ _ _ q1,Blk.farL (by omega) _ _ _ q2,⟨cp,Blk.farL hne _ _ _ q3,q3'⟩,fun j y hy=>(hs3 _ _ _ _).trans (q4 j y hy),(hs3 _ _ _ _).trans q5,(hs3 _ _ _ _).trans q6,below_setCells _ _ _ q7 (by omega)⟩
 obtain⟨cb8,hc81,hc82⟩:=hC8
 refine wp_seq (rg_wp (le_r9 (g45:=w7.heap.size) (o45:=d.k.len*11) h8 rfl rfl (hi10 hS8.1) (ix_at d.k.len rfl Tryd.underlying29 (by kernel_rfl) (by omega) rfl) (sts1 (there_bk hc81 (by rw[hc82];omega)) (by kernel_rfl) rfl) fun a9 h9=> ?_))
 have hS9:=keep rfl hS8 (vs:=[.int .i64 71]) (o:=d.k.len*11+2)
 have hC9:=set_blk (o:=d.k.len*11+2) [.int .i64 71] ⟨cb8,hc81,hc82⟩
 have hM9:=set_cell (o:=d.k.len*11+2) hc81 [.int .i64 71] (by rw[hc82];simp;omega) (j:=0) rfl
 rw[Nat.add_zero] at hM9
 have lo9:(w8.setCells w7.heap.size (d.k.len*11+2) [.int .i64 71]).heap.size=w8.heap.size:=setCells_size' _ _ _ _
 generalize w8.setCells w7.heap.size (d.k.len*11+2) [.int .i64 71]=w9 at hS9 hC9 hM9 lo9 ⊢
 clear hS8 hc81 hc82
 obtain⟨cb9,hc91,hc92⟩:=hC9
 refine wp_seq (rg_wp (le_r10 (g52:=w7.heap.size) (o52:=(d.k.len+1)*11) h9 rfl rfl (hi10 hS9.1) (by omega) (ix_at (d.k.len+1) (by omega) Tryd.underlying29 (by kernel_rfl) (by omega) rfl) (sts1 (there_bk hc91 (by rw[hc92];omega)) (by kernel_rfl) rfl) fun a10 h10=> ?_))
 have hS10:=keep rfl hS9 (vs:=[.int .i64 72]) (o:=(d.k.len+1)*11+2)
 have hC10:=set_blk (o:=(d.k.len+1)*11+2) [.int .i64 72] ⟨cb9,hc91,hc92⟩
 have hM10:=(set_out (w:=w9) (g:=w7.heap.size) (o:=(d.k.len+1)*11+2) [.int .i64 72] (b:=w7.heap.size) (j:=d.k.len*11+2) (fun _=>.inl (by omega))).trans hM9
 have hN10:=set_cell (o:=(d.k.len+1)*11+2) hc91 [.int .i64 72] (by rw[hc92];simp;omega) (j:=0) rfl
 rw[Nat.add_zero] at hN10
 have lo10:(w9.setCells w7.heap.size ((d.k.len+1)*11+2) [.int .i64 72]).heap.size=w8.heap.size:=(setCells_size' _ _ _ _).trans lo9
 generalize w9.setCells w7.heap.size ((d.k.len+1)*11+2) [.int .i64 72]=w10 at hS10 hC10 hM10 hN10 lo10 ⊢
 clear hS9 hc91 hc92 hM9
 refine wp_seq (wp_seq (rg_wp (le_r11 h10 fun a11 h11=> ?_)))
 have h11:Sl 85 a11 [(6,.int .i64 ((0:Nat):Int)),(5,.slice (some ⟨w7.heap.size,0,none⟩) (d.k.len+2) (d.k.len+2)),(4,.slice (some ⟨w3.heap.size,0,none⟩) (d.h.path.length+2) (d.h.path.length+2)),(2,.pointer (some ⟨w1.heap.size,0,none⟩)),(1,.pointer (some ⟨w.heap.size,0,none⟩))]:=h11.to ⟨rfl,rfl,rfl,rfl,rfl,trivial⟩
 refine wp_block ?_
 refine wp_loop (fun a' u=> ∃(j:Nat) (ms:Nat->Nat),j<=d.k.len/\ms 0=w7.heap.size+1/\ms j<=u.heap.size/\(∀i,i<j->ms i<=ms (i+1))/\LUp u d.k w7.heap.size j ms/\
   Sl 85 a' [(6,.int .i64 (j:Int)),(5,.slice (some ⟨w7.heap.size,0,none⟩) (d.k.len+2) (d.k.len+2)),(4,.slice (some ⟨w3.heap.size,0,none⟩) (d.h.path.length+2) (d.h.path.length+2)),(2,.pointer (some ⟨w1.heap.size,0,none⟩)),(1,.pointer (some ⟨w.heap.size,0,none⟩))]/\
   (Blk u w.heap.size 31 (d.cs m)/\Blk u w1.heap.size 31 (zD.cs m0)/\(∃cp,Blk u w3.heap.size 3 cp/\cp.size=d.h.path.length+2)/\(∀(j:Nat) (y:Int),d.h.path[j]? =some y->u.cell? ⟨w3.heap.size,j,none⟩=some (.int .i64 y))/\u.cell? ⟨w3.heap.size,d.h.path.length,none⟩=some (.int .i64 (-71))/\u.cell? ⟨w3.heap.size,d.h.path.length+1,none⟩=some (.int .i64 (-72))/\Below w.heap.size w u)/\
   (∃cb,Blk u w7.heap.size 31 cb/\cb.size=(d.k.len+2)*11)/\u.cell? ⟨w7.heap.size,d.k.len*11+2,none⟩=some (.int .i64 71)/\u.cell? ⟨w7.heap.size,(d.k.len+1)*11+2,none⟩=some (.int .i64 72))
  (fun a' _=>muTo d.k.len (slot a' 6)) ⟨0,fun _=>w7.heap.size+1,Nat.zero_le _,rfl,by show _+1<=_;omega,fun i h=>(by omega),fun i a e h=>(by omega),h11,hS10,hC10,hM10,hN10⟩ ?_
 clear hS10 hC10 hM10 hN10 h11
 rintro a12 u ⟨j,ms,hj,hm0,hmj,hmm,hUp,h12,hS,hC,hM,hN⟩
 rw[h12.look 6 rfl,muTo_int]
 unfold leL0
 by_cases hlt:j<d.k.len
 ·refine wp_seq (wp_seq (rg_wp (le_r12 (b58:=true) h12 rfl rfl (hi10 hS.1) (decide_eq_true (by omega)) fun a13 h13=>wpn (h13.look 58 rfl) ?_)))
  obtain⟨a,e',hget⟩:=Fo.get_lt d.k j hlt
  obtain⟨b1,o1,hia,_,qa,qc,ja,jc,hcs,hda⟩:=(hdd.old hS.2.2.2.2.2.2).kids.get hget
  obtain⟨cb,hc1,hc2⟩:=hC
  have hsz:j*11+11<=cb.size:=by rw[hc2];omega
  refine wp_seq (wp_block (wpl (rg_wp (le_r14 (dx:=⟨a,e'⟩) (mx:=⟨qa,qc,ja,jc⟩) (ia:=some ⟨b1,o1,none⟩) (il:=d.k.len) (ic:=m.ic) (g66:=b1) (o66:=o1+j*11) (g69:=w7.heap.size) (o69:=j*11) (C0:=fun x u'=>LN u' u.heap.size u'.heap.size a e' x/\Below u.heap.size u u') h13 rfl rfl rfl (by rw[<-hia];exact hi10 hS.1) ?ix (ldsA Tryd.underlying31 rfl (by kernel_rfl) (cs:=(Dt.cs ⟨a,e'⟩ ⟨qa,qc,ja,jc⟩).toList) (fun n v hv=>hcs n v (by rw[<-Array.getElem?_toList];exact hv))) (ih j a e' hget u S ⟨qa,qc,ja,jc⟩ (right_get hr hget) hda) (ix_at j rfl Tryd.underlying29 (by kernel_rfl) (by omega) rfl) (fun x u' hc=>dat_put (hc1.below hc.2 hc1.lt) hsz ⟨a,e'⟩ x) fun a14 x u' hc h14=> ?_))))
  case ix=>exact fun w=>ix_at2 j Tryd.underlying29 (by kernel_rfl) hlt w
  have hux:Below u.heap.size u u':=hc.2
  have e:=Ext.of_below (B:=0) hux (Nat.zero_le _)
  have hSu:(Blk u' w.heap.size 31 (d.cs m)/\Blk u' w1.heap.size 31 (zD.cs m0)/\(∃cp,Blk u' w3.heap.size 3 cp/\cp.size=d.h.path.length+2)/\(∀(j:Nat) (y:Int),d.h.path[j]? =some y->u'.cell? ⟨w3.heap.size,j,none⟩=some (.int .i64 y))/\u'.cell? ⟨w3.heap.size,d.h.path.length,none⟩=some (.int .i64 (-71))/\u'.cell? ⟨w3.heap.size,d.h.path.length+1,none⟩=some (.int .i64 (-72))/\Below w.heap.size w u'):=by
   obtain⟨q1,q2,⟨cp,q3,q3'⟩,q4,q5,q6,q7⟩:=hS
   exact⟨q1.below hux q1.lt,q2.below hux q2.lt,⟨cp,q3.below hux q3.lt,q3'⟩,fun j y hy=>cell_ext e (q4 j y hy),cell_ext e q5,cell_ext e q6,bl_trans q7 hux⟩
  have hS2:=keep rfl hSu (vs:=(Dt.cs ⟨a,e'⟩ x).toList) (o:=j*11)
  have hlen:(Dt.cs ⟨a,e'⟩ x).toList.length=11:=rfl
  have hUp2:=LUp.step hUp ⟨hmj,by rw[hm0];omega⟩ hmm hux hget (hc1.below hux hc1.lt) hsz hc.1
  have hC2:=set_blk (o:=j*11) (Dt.cs ⟨a,e'⟩ x).toList ⟨cb,hc1.below hux hc1.lt,hc2⟩
  have hM2:=(set_out (w:=u') (g:=w7.heap.size) (o:=j*11) (Dt.cs ⟨a,e'⟩ x).toList (b:=w7.heap.size) (j:=d.k.len*11+2) (fun _=>.inr (by rw[hlen];omega))).trans (cell_ext e hM)
  have hN2:=(set_out (w:=u') (g:=w7.heap.size) (o:=j*11) (Dt.cs ⟨a,e'⟩ x).toList (b:=w7.heap.size) (j:=(d.k.len+1)*11+2) (fun _=>.inr (by rw[hlen];omega))).trans (cell_ext e hN)
  have hz2:(u'.setCells w7.heap.size (j*11) (Dt.cs ⟨a,e'⟩ x).toList).heap.size=u'.heap.size:=setCells_size' _ _ _ _
  refine wpl (rg_wp (le_r13 h14 rfl (by omega) fun a15 h15=>⟨⟨j+1,fun n=>if n<=j then ms n else u'.heap.size,by omega, ?_, ?_,fun i hi=> ?_,hUp2,h15.to ⟨rfl,rfl,rfl,rfl,rfl,trivial⟩,hS2,hC2,hM2,hN2⟩, ?_⟩))
  ·show(if 0<=j then ms 0 else _)=_
   rw[if_pos (Nat.zero_le _),hm0]
  ·show(if j+1<=j then ms (j+1) else u'.heap.size)<=_
   rw[if_neg (by omega),hz2]
   exact Nat.le_refl _
  ·show(if i<=j then ms i else u'.heap.size)<=(if i+1<=j then ms (i+1) else u'.heap.size)
   rw[if_pos (by omega)]
   by_cases hij:i+1<=j
   ·rw[if_pos hij]
    exact hmm i (by omega)
   ·rw[if_neg hij]
    have:i=j:=by omega
    rw[this]
    exact Nat.le_trans hmj hux.size
  ·rw[h15.look 6 rfl,show((j:Int)+1)=((j+1:Nat):Int) by simp,muTo_int]
   omega
 ·have hjn:j=d.k.len:=by omega
  refine wp_seq (wp_seq (rg_wp (le_r12 (b58:=false) h12 rfl rfl (hi10 hS.1) (decide_eq_false (by omega)) fun a13 h13=>wpx (h13.look 58 rfl) ?_)))
  refine then_exit' (in_block2 ?_)
  obtain⟨hA,hZ,hP,hV,hM1,hN1,hb⟩:=hS
  obtain⟨cb,hc1,hc2⟩:=hC
  have lou:w7.heap.size<u.heap.size:=hc1.lt
  have hF:LNF u (w7.heap.size+1) u.heap.size w7.heap.size 0 d.k:=by
   rw[<-hm0]
   refine LNF.of_get d.k w7.heap.size 0 u.heap.size ms fun i a e hg=> ?_
   have hi:i<j:=by
    rw[hjn]
    exact Fo.get_lt' hg
   obtain⟨q1,x,q2,q3⟩:=hUp i a e hi hg
   exact⟨q1,x,by rw[Nat.zero_add];exact q2,q3⟩
  have hL:LN u w3.heap.size u.heap.size d.h d.k ⟨some ⟨w3.heap.size,0,none⟩,d.h.path.length+2,some ⟨w7.heap.size,0,none⟩,d.k.len+2⟩:=
   ⟨w3.heap.size,w7.heap.size,u.heap.size,rfl,⟨Nat.le_refl _,by omega,lou,Nat.le_refl _⟩,⟨hP,hV,hM1,hN1⟩,⟨⟨cb,hc1,hc2⟩,hM,hN⟩,hF⟩
  show Code.wp _ (.seq (r_le 15) (.seq (r_le 16) (.seq (r_le 17) .ret))) _ a13 u
  refine wp_seq (rg_wp (le_r15 h13 rfl rfl (hp9 hA) (sl_to (sz:=1) Tryd.underlying22 (by kernel_rfl) (by omega) rfl) (sts1 (there_bk hA (by show 5+4+1<=11;omega)) (by kernel_rfl) rfl) fun a14 h14=> ?_))
  have hA1:Blk (u.setCells w.heap.size (5+4) [.slice (some ⟨w3.heap.size,0,none⟩) d.h.path.length (d.h.path.length+2)]) w.heap.size 31 (d.cs ⟨some ⟨w3.heap.size,0,none⟩,d.h.path.length+2,m.ia,m.ic⟩):=Blk.setL [.slice (some ⟨w3.heap.size,0,none⟩) d.h.path.length (d.h.path.length+2)] 9 _ _ hA
  have hZ1:=Blk.farL (g:=w1.heap.size) (b:=w.heap.size) (by omega) [.slice (some ⟨w3.heap.size,0,none⟩) d.h.path.length (d.h.path.length+2)] (5+4) _ hZ
  have hL1:LN (u.setCells w.heap.size (5+4) [.slice (some ⟨w3.heap.size,0,none⟩) d.h.path.length (d.h.path.length+2)]) w3.heap.size u.heap.size d.h d.k _:=hL.keep fun y hy _=>setCells_other _ _ _ (by omega)
  have hb1':=below_setCells (b:=w.heap.size) [.slice (some ⟨w3.heap.size,0,none⟩) d.h.path.length (d.h.path.length+2)] (5+4) _ hb (Nat.le_refl _)
  have hz1:(u.setCells w.heap.size (5+4) [.slice (some ⟨w3.heap.size,0,none⟩) d.h.path.length (d.h.path.length+2)]).heap.size=u.heap.size:=setCells_size' _ _ _ _
  generalize u.setCells w.heap.size (5+4) [.slice (some ⟨w3.heap.size,0,none⟩) d.h.path.length (d.h.path.length+2)]=u1 at hA1 hZ1 hL1 hb1' hz1 ⊢
  refine wp_seq (rg_wp (le_r16 h14 rfl rfl (one_load hA1 Tryd.underlying29 rfl (v:=.slice m.ia d.k.len m.ic) rfl) (sl_to (sz:=11) Tryd.underlying29 (by kernel_rfl) (by omega) rfl) (sts1 (there_bk hA1 (by show 10+1<=11;omega)) (by kernel_rfl) rfl) fun a15 h15=> ?_))
  have hA2:Blk (u1.setCells w.heap.size 10 [.slice (some ⟨w7.heap.size,0,none⟩) d.k.len (d.k.len+2)]) w.heap.size 31 (d.cs ⟨some ⟨w3.heap.size,0,none⟩,d.h.path.length+2,some ⟨w7.heap.size,0,none⟩,d.k.len+2⟩):=Blk.setL [.slice (some ⟨w7.heap.size,0,none⟩) d.k.len (d.k.len+2)] 10 _ _ hA1
  have hZ2:=Blk.farL (g:=w1.heap.size) (b:=w.heap.size) (by omega) [.slice (some ⟨w7.heap.size,0,none⟩) d.k.len (d.k.len+2)] 10 _ hZ1
  have hL2:LN (u1.setCells w.heap.size 10 [.slice (some ⟨w7.heap.size,0,none⟩) d.k.len (d.k.len+2)]) w3.heap.size u.heap.size d.h d.k _:=hL1.keep fun y hy _=>setCells_other _ _ _ (by omega)
  have hb2':=below_setCells (b:=w.heap.size) [.slice (some ⟨w7.heap.size,0,none⟩) d.k.len (d.k.len+2)] 10 _ hb1' (Nat.le_refl _)
  have hz2:(u1.setCells w.heap.size 10 [.slice (some ⟨w7.heap.size,0,none⟩) d.k.len (d.k.len+2)]).heap.size=u.heap.size:=(setCells_size' _ _ _ _).trans hz1
  generalize u1.setCells w.heap.size 10 [.slice (some ⟨w7.heap.size,0,none⟩) d.k.len (d.k.len+2)]=u2 at hA2 hZ2 hL2 hb2' hz2 ⊢
  refine wp_seq (rg_wp (le_r17 h15 rfl rfl (dat_whole hA2) (dat_put hZ2 (Nat.le_refl _) d _) fun a16 h16=>wp_ret ?_))
  refine ret_c rfl h16 rfl (dat_whole (dat_over hZ2 rfl d _)) ⟨_,rfl, ?_,below_setCells _ _ _ hb2' (by omega)⟩
  rw[setCells_size',hz2]
  exact(hL2.keep fun y hy _=>setCells_other _ _ _ (by omega)).mono (by omega) (Nat.le_refl _)
theorem lent_all: ∀(f:Fo),f.ok->∀i h k,f.get i=some (h,k)->LentC h k
 | .nil,_,i,h,k,e=>by simp[Fo.get] at e
 | .cons h k r,ho,0,h',k',e=>by
  simp only[Fo.get,Option.some.injEq,Prod.mk.injEq] at e
  obtain⟨rfl,rfl⟩:=e
  exact fun w S m hr hd=>lent_dt (d:=⟨h,k⟩) ho.1 ho.2.1 ho.2.2.2 (lent_all k ho.2.1) hr hd
 | .cons h k r,ho,i+1,h',k',e=>lent_all r ho.2.2.1 i h' k' e
theorem lent_any{d:Dt}{w:World}{S:Nat->Prop}{m:Dm}(ho:d.ok)(hr:rB d=true)(hd:d.at w S m):
  Calls Tryd.prog 43 #[.agg (d.cs m)] w fun e w'=> ∃x:Dm,e=.returned (.agg (d.cs x))/\(LN w' w.heap.size w'.heap.size d.h d.k x/\Below w.heap.size w w'):=lent_dt ho.h ho.k ho.len (lent_all d.k ho.k) hr hd
end Go.Proofs.YtlhfickniegooaaDoor

namespace Go.Proofs.YtlhfickniegooaaDoor
open Go.RowKit Go.Sort
set_option maxRecDepth 100000
theorem Moved.refl9(O:Nat->Prop)(w:World):Moved O w w:=Moved.of_below (Below.refl _ _)
def MovC(S:Nat->Prop)(w w':World):Prop:=Moved (fun b=>S b/\Cel w b) w w'
theorem MovC.of_below{S:Nat->Prop}{w w':World}(h:Below w.heap.size w w'):MovC S w w':=Moved.of_below h
theorem Cel.same{w w':World}{b:Nat}(h:Cel w' b)(e:w'.heap[b]? =w.heap[b]?):Cel w b:=let⟨t,cs,h⟩:=h;⟨t,cs,e.symm.trans h⟩
theorem MovC.trans{S T:Nat->Prop}{a b c:World}(h:MovC S a b)(k:MovC T b c)(hT: ∀x,x<a.heap.size->T x->S x):MovC S a c:=
 ⟨Nat.le_trans h.size k.size,k.os.trans h.os,k.tape.trans h.tape,k.output.trans h.output,fun x hx hn=>by
  have e1:=h.block x hx hn
  refine(k.block x (Nat.lt_of_lt_of_le hx h.size) (fun q=>hn ⟨hT x hx q.1,q.2.same e1⟩)).trans e1⟩
theorem MovC.set{S:Nat->Prop}{a b:World}(h:MovC S a b){g:Nat}(hg:g<a.heap.size->S g)(hc:Cel b g)(o:Nat)(vs:List Value):MovC S a (b.setCells g o vs):=
 ⟨by rw[setCells_size'];exact h.size,(below_setCells (B:=0) vs o _ (Below.refl 0 b) (Nat.zero_le _)).os.trans h.os,(below_setCells (B:=0) vs o _ (Below.refl 0 b) (Nat.zero_le _)).tape.trans h.tape,(below_setCells (B:=0) vs o _ (Below.refl 0 b) (Nat.zero_le _)).output.trans h.output,fun x hx hn=>by
  have e1:=h.block x hx hn
  refine(setCells_other _ _ _ (fun e=>hn ?_)).trans e1
  subst e
  exact⟨hg hx,hc.same e1⟩⟩
theorem MovC.more{S T:Nat->Prop}{a b:World}(h:MovC S a b)(hT: ∀x,x<a.heap.size->S x->T x):MovC T a b:=⟨h.size,h.os,h.tape,h.output,fun x hx hn=>h.block x hx (fun q=>hn ⟨hT x hx q.1,q.2⟩)⟩
theorem MovC.stay{S:Nat->Prop}{a b:World}(h:MovC S a b){g:Nat}{t:TypeId}{cs:Array Value}(k:Blk a g t cs)(hn: ¬S g):Blk b g t cs:=(h.block g k.lt (fun q=>hn q.1)).trans k
theorem MovC.below{S:Nat->Prop}{a b c:World}(h:MovC S a b)(k:Below b.heap.size b c):MovC S a c:=h.trans (MovC.of_below (S:=fun _=>False) k) (fun _ _ h=>h.elim)
theorem MovC.dat{S T:Nat->Prop}{a b:World}(h:MovC S a b){d:Dt}{m:Dm}(k:d.at a T m)(hn: ∀x,T x->¬S x):d.at b T m:=k.keep (fun x hx hl=>h.block x hl (fun q=>hn x hx q.1)) (fun _ h _=>h)
def InR(lo hi:Nat)(b:Nat):Prop:=lo<=b/\b<hi
def BackC(h:Hd)(k:Fo):Prop:= ∀(w:World) (S:Nat->Prop) (m:Dm) (lo hi:Nat) (x:Dm),rightB h k=true->DatAt w S h k m.pa m.pc m.ia m.ic->LN w lo hi h k x->(∀b,S b->¬InR lo hi b)->hi<=w.heap.size->
 Calls Tryd.prog 48 #[.agg (h.cells x.pa x.pc x.ia k.len x.ic),.agg (h.cells m.pa m.pc m.ia k.len m.ic)] w fun e w'=>e=.returned (.bool true)/\MovC (InR lo hi) w w'
theorem back_no{d:Dt}{m x:Dm}{w:World}{S:Nat->Prop}(ho:d.ok)(hr:rB d=false)(hd:d.at w S m):Calls Tryd.prog 48 #[.agg (d.cs x),.agg (d.cs m)] w fun e w'=>e=.returned (.bool true)/\Below w.heap.size w w':=by
 refine calls_ev (vs:=[.agg (d.cs x),.agg (d.cs m)]) 155 Tryd.func48 bk_body (by kernel_rfl) (by simp) fun a0 h0=> ?_
 unfold bkBody
 refine wp_seq (rg_wp (bk_r0 h0 rfl rfl fun a1 h1=> ?_))
 have hb1:=bl_alloc (Below.refl w.heap.size w) (.cells (d.cs x) 31)
 generalize w.alloc (.cells (d.cs x) 31)=w1 at h1 hb1 ⊢
 have hD2:=Blk.new w1 31 (d.cs m)
 have hb2:=bl_trans hb1 (bl_alloc (Below.refl w1.heap.size w1) (.cells (d.cs m) 31))
 generalize w1.alloc (.cells (d.cs m) 31)=w2 at hD2 hb2 ⊢
 refine wp_seq (rg_wp (bk_r1 h1 rfl (dat_whole hD2) (refRight_any d.h d.k ho.h ho.k ho.len w2 S _ _ _ _ (hd.old hb2)) fun a2 w3 hb3 h2=> ?_))
 rw[show rightB d.h d.k=false from hr] at h2
 refine wp_seq (wp_seq (rg_wp (bk_r2 h2 rfl fun a3 h3=>wp_cond_true (h3.look 17 rfl) ?_)))
 refine wp_seq (rg_wp (bk_r3 h3 fun a4 h4=>wp_ret (then_ret ?_)))
 exact ret1 rfl h4 rfl ⟨rfl,bl_trans hb2 hb3⟩
theorem LNF.mono_hi{w:World}: ∀{f:Fo} {lo hi hi' b o:Nat},LNF w lo hi b o f->hi<=hi'->LNF w lo hi' b o f
 | .nil,_,_,_,_,_,_,_=>trivial
 | .cons _ _ _,_,_,_,_,_,⟨m,x,hm,hc,hd,h6⟩,h=>⟨m,x,Nat.le_trans hm h,hc,hd,LNF.mono_hi h6 h⟩
set_option maxHeartbeats 8000000 in
theorem back_dt{d:Dt}(ho:d.h.ok)(hk:d.k.ok)(hl:d.k.len<=1034834473170)(ih: ∀i a e,d.k.get i=some (a,e)->BackC a e){w:World}{S:Nat->Prop}{m x:Dm}{lo hi:Nat}(hr:rightB d.h d.k=true)(hdd:d.at w S m)(hL:LN w lo hi d.h d.k x)(hS: ∀b,S b->¬InR lo hi b)(hhi:hi<=w.heap.size):
  Calls Tryd.prog 48 #[.agg (d.cs x),.agg (d.cs m)] w fun e w'=>e=.returned (.bool true)/\MovC (InR lo hi) w w':=by
 refine calls_ev (vs:=[.agg (d.cs x),.agg (d.cs m)]) 155 Tryd.func48 bk_body (by kernel_rfl) (by simp) fun a0 h0=> ?_
 unfold bkBody
 refine wp_seq (rg_wp (bk_r0 h0 rfl rfl fun a1 h1=> ?_))
 have hX1:=Blk.new w 31 (d.cs x)
 have hb1:=bl_alloc (Below.refl w.heap.size w) (.cells (d.cs x) 31)
 generalize w.alloc (.cells (d.cs x) 31)=w1 at h1 hX1 hb1 ⊢
 have lo1:w.heap.size<w1.heap.size:=hX1.lt
 have hD2:=Blk.new w1 31 (d.cs m)
 have hab:=bl_alloc (Below.refl w1.heap.size w1) (.cells (d.cs m) 31)
 have hX2:=hX1.below hab hX1.lt
 have hb2:=bl_trans hb1 hab
 generalize w1.alloc (.cells (d.cs m) 31)=w2 at hD2 hX2 hb2 ⊢
 have lo2:w1.heap.size<w2.heap.size:=hD2.lt
 refine wp_seq (rg_wp (bk_r1 h1 rfl (dat_whole hD2) (refRight_any d.h d.k ho hk hl w2 S _ _ _ _ (hdd.old hb2)) fun a2 w3 hb3 h2=> ?_))
 rw[hr] at h2
 refine wp_seq (wp_seq (rg_wp (bk_r2 h2 rfl fun a3 h3=>wpo (h3.look 17 rfl) ?_)))
 have hX3:=hX2.below hb3 hX2.lt
 have hD3:=hD2.below hb3 hD2.lt
 have hb03:=bl_trans hb2 hb3
 have hL3:LN w3 lo hi d.h d.k x:=hL.keep fun y _ h2=>hb03.block y (by omega)
 have hpl:=ho.path
 obtain⟨p,b,q,rfl,hlt,⟨⟨cp,hP1,hP2⟩,hPv,hPm,hPn⟩,⟨⟨cb,hC1,hC2⟩,hCm,hCn⟩,hF⟩:=hL3
 have hp9: ∀{u:World},Blk u w1.heap.size 31 (d.cs m)->Lds Tryd.prog 22 (.pointer (some ⟨w1.heap.size,5+4,none⟩)) (.slice m.pa d.h.path.length m.pc) u:=fun hB=>one_load hB Tryd.underlying22 rfl rfl
 have hi10: ∀{u:World},Blk u w1.heap.size 31 (d.cs m)->Lds Tryd.prog 29 (.pointer (some ⟨w1.heap.size,10,none⟩)) (.slice m.ia d.k.len m.ic) u:=fun hB=>one_load hB Tryd.underlying29 rfl rfl
 refine wp_seq (rg_wp (bk_r4 h3 rfl (hp9 hD3) fun a4 h4=> ?_))
 refine wp_seq (rg_wp (bk_r5 (np:=d.h.path.length) h4 rfl rfl (one_load hX3 Tryd.underlying22 rfl (v:=.slice (some ⟨p,0,none⟩) d.h.path.length (d.h.path.length+2)) rfl) (by omega) (sl_to (sz:=1) (k:=d.h.path.length+2) Tryd.underlying22 (by kernel_rfl) (by omega) (by omega)) fun a5 h5=> ?_))
 refine wp_seq (rg_wp (bk_r6_tttttt (kd:=d.h.kind) (ty:=d.h.type) (nn:=d.h.n) (ff:=d.h.f) (ss:=d.h.s) (g64:=p) (o64:=d.h.path.length) (g72:=p) (o72:=d.h.path.length+1) (m1:= -71) (m2:= -72) (b74:=true) h5 rfl rfl rfl rfl
  (one_load hX3 Tryd.underlying3 rfl rfl) (one_load hD3 Tryd.underlying3 rfl rfl) (decide_eq_true rfl) (one_load hX3 Tryd.underlying9 rfl rfl) (one_load hD3 Tryd.underlying9 rfl rfl) (decide_eq_true rfl) (one_load hX3 Tryd.underlying3 rfl rfl) (one_load hD3 Tryd.underlying3 rfl rfl) (decide_eq_true rfl) (one_load hX3 Tryd.underlying26 rfl rfl) (one_load hD3 Tryd.underlying26 rfl rfl) (decide_eq_true rfl) (one_load hX3 Tryd.underlying9 rfl rfl) (one_load hD3 Tryd.underlying9 rfl rfl) (decide_eq_true rfl)
  (ix_at d.h.path.length rfl Tryd.underlying22 (by kernel_rfl) (by omega) (Nat.mul_one _).symm) (lds1 Tryd.underlying3 rfl hPm) rfl (by omega) (ix_at (d.h.path.length+1) (by omega) Tryd.underlying22 (by kernel_rfl) (by omega) (Nat.mul_one _).symm) (lds1 Tryd.underlying3 rfl hPn) rfl fun a6 h6=> ?_))
 refine wp_seq (wp_seq (rg_wp (bk_r7 h6 fun a7 h7=> ?_)))
 have h7:Sl 155 a7 [(9,.int .i64 ((0:Nat):Int)),(8,.bool true),(7,.slice (some ⟨p,0,none⟩) (d.h.path.length+2) (d.h.path.length+2)),(6,.int .i64 (d.h.path.length:Int)),(3,.pointer (some ⟨w1.heap.size,0,none⟩)),(2,.pointer (some ⟨w.heap.size,0,none⟩))]:=h7.to ⟨rfl,rfl,rfl,rfl,rfl,rfl,trivial⟩
 refine wp_block ?_
 have hplt:=hP1.lt
 refine wp_loop (fun a' u=> ∃j:Nat,j<=d.h.path.length+2/\Sl 155 a' [(9,.int .i64 (j:Int)),(8,.bool true),(7,.slice (some ⟨p,0,none⟩) (d.h.path.length+2) (d.h.path.length+2)),(6,.int .i64 (d.h.path.length:Int)),(3,.pointer (some ⟨w1.heap.size,0,none⟩)),(2,.pointer (some ⟨w.heap.size,0,none⟩))]/\
   (∀(i:Nat) (y:Int),j<=i->d.h.path[i]? =some y->u.cell? ⟨p,i,none⟩=some (.int .i64 y))/\(∃cp,Blk u p 3 cp/\cp.size=d.h.path.length+2)/\MovC (fun y=>y=p) w3 u)
  (fun a' _=>muTo (d.h.path.length+2) (slot a' 9)) ⟨0,by omega,h7,fun i y _ hy=>hPv i y hy,⟨cp,hP1,hP2⟩,Moved.refl9 _ _⟩ ?_
 rintro a8 u ⟨j,hj,h8,hV,⟨cu,hU1,hU2⟩,hM⟩
 rw[h8.look 9 rfl,muTo_int]
 unfold bkL1
 have hne1:w1.heap.size≠p:=by omega
 have hDu:=hM.stay hD3 hne1
 by_cases hjl:j<d.h.path.length+2
 ·refine wp_seq (wp_seq (rg_wp (bk_r8 (b79:=true) h8 rfl rfl (by omega) (decide_eq_true (by omega)) fun a9 h9=>wpn (h9.look 79 rfl) ?_)))
  have nxt: ∀{a':Act} {l':List (Nat×Value)} {mm:Nat} (Q:Exit->Act->World->Prop),Sl 155 a' l'->AllL l' [(9,.int .i64 (j:Int)),(8,.bool true),(7,.slice (some ⟨p,0,none⟩) (d.h.path.length+2) (d.h.path.length+2)),(6,.int .i64 (d.h.path.length:Int)),(3,.pointer (some ⟨w1.heap.size,0,none⟩)),(2,.pointer (some ⟨w.heap.size,0,none⟩))]->
    (∀a'' u',(∃j:Nat,j<=d.h.path.length+2/\Sl 155 a'' [(9,.int .i64 (j:Int)),(8,.bool true),(7,.slice (some ⟨p,0,none⟩) (d.h.path.length+2) (d.h.path.length+2)),(6,.int .i64 (d.h.path.length:Int)),(3,.pointer (some ⟨w1.heap.size,0,none⟩)),(2,.pointer (some ⟨w.heap.size,0,none⟩))]/\
   (∀(i:Nat) (y:Int),j<=i->d.h.path[i]? =some y->u'.cell? ⟨p,i,none⟩=some (.int .i64 y))/\(∃cp,Blk u' p 3 cp/\cp.size=d.h.path.length+2)/\MovC (fun y=>y=p) w3 u')/\muTo (d.h.path.length+2) (slot a'' 9)<d.h.path.length+2-j->Q .normal a'' u')->
    (r_bk 12).wp Tryd.prog (Exit.inBlock 1 (Exit.then ((r_bk 9).wp Tryd.prog Q) Q)) a' (u.drewN mm):=fun{a' l' mm} Q h' hl hQ=>by
   have hUm:=hU1.drewN mm
   refine wpl (rg_wp (bk_r12 (g100:=p) (o100:=j) (h'.to hl) rfl rfl (ix_at j rfl Tryd.underlying22 (by kernel_rfl) hjl (Nat.mul_one _).symm) (sts1 (there_bk hUm (by rw[hU2];omega)) (by kernel_rfl) rfl) fun a12 h12=> ?_))
   show(r_bk 9).wp Tryd.prog Q a12 _
   refine wpl (rg_wp (bk_r9 h12 rfl (by omega) fun a13 h13=>hQ a13 _ ⟨⟨j+1,by omega,h13.to ⟨rfl,rfl,rfl,rfl,rfl,rfl,trivial⟩,fun i y hi hy=> ?_,set_blk _ ⟨cu,hUm,hU2⟩,(hM.below (below_drewN (Below.refl _ _) mm)).set (fun _=>rfl) ⟨_,_,hUm⟩ _ _⟩, ?_⟩))
   ·rw[set_out _ (fun _=>.inr (by show j+1<=i;omega))]
    exact hV i y (by omega) hy
   ·rw[h13.look 9 rfl,show((j:Int)+1)=((j+1:Nat):Int) by simp,muTo_int]
    omega
  refine wp_seq (wp_block (wp_seq (wp_seq ?_)))
  by_cases hjn:j<d.h.path.length
  ·obtain⟨y,hy⟩: ∃y,d.h.path[j]? =some y:=⟨d.h.path[j],by simp[hjn]⟩
   rcases(hM.dat (hdd.old hb03) (fun z hz e=>hS z hz ⟨by omega,by omega⟩)).path with e0 | ⟨bp,op,hpa,_,hpc⟩
   ·rw[e0] at hy
    cases hy
   ·refine rg_wp (bk_r10_t (g88:=p) (o88:=j) (x:=y) (y:=y) (pa:=some ⟨bp,op,none⟩) (pl:=d.h.path.length) (pc:=m.pc) (g94:=bp) (o94:=op+j*1) (b96:=false) h9 rfl rfl rfl rfl (decide_eq_true (by omega)) (ix_at j rfl Tryd.underlying22 (by kernel_rfl) hjl (Nat.mul_one _).symm) (lds1 Tryd.underlying3 rfl (hV j y (Nat.le_refl _) hy)) (by rw[<-hpa];exact hp9 hDu) (fun w=>ix_at2 j Tryd.underlying22 (by kernel_rfl) hjn w) (lds1 Tryd.underlying3 rfl (by rw[Nat.mul_one];exact hpc j y hy)) (decide_eq_false (by simp)) fun a10 mm h10=>wpo (h10.look 97 rfl) ?_)
    exact nxt _ h10 ⟨rfl,rfl,rfl,rfl,rfl,rfl,trivial⟩ fun a'' u' h=>h
  ·refine rg_wp (bk_r10_f h9 rfl rfl (decide_eq_false (by omega)) fun a10 mm h10=>wpo (h10.look 97 rfl) ?_)
   exact nxt _ h10 ⟨rfl,rfl,rfl,rfl,rfl,rfl,trivial⟩ fun a'' u' h=>h
 ·refine wp_seq (wp_seq (rg_wp (bk_r8 (b79:=false) h8 rfl rfl (by omega) (decide_eq_false (by omega)) fun a9 h9=>wpx (h9.look 79 rfl) ?_)))
  refine then_exit' (in_block2 ?_)
  show Code.wp _ (.seq (r_bk 13) (.seq (r_bk 14) (.seq (r_bk 15) (.seq (.seq (r_bk 16) (.block 2 (.loop bkL0))) (.seq (r_bk 23) .ret))))) _ a9 u
  have hXu:=hM.stay hX3 (show w.heap.size≠p by omega)
  have hCu:=hM.stay hC1 (show b≠p by omega)
  have kb:=hCu.trans hC1.symm
  refine wp_seq (rg_wp (bk_r13 h9 rfl (hi10 hDu) fun a10 h10=> ?_))
  refine wp_seq (rg_wp (bk_r14 (nk:=d.k.len) h10 rfl rfl (one_load hXu Tryd.underlying29 rfl (v:=.slice (some ⟨b,0,none⟩) d.k.len (d.k.len+2)) rfl) (by omega) (sl_to (sz:=11) (k:=d.k.len+2) Tryd.underlying29 (by kernel_rfl) (by omega) (by omega)) fun a11 h11=> ?_))
  refine wp_seq (rg_wp (bk_r15_ttt (g113:=b) (o113:=d.k.len*11) (m1:=71) (g122:=b) (o122:=(d.k.len+1)*11) (m2:=72) h11 rfl rfl rfl (ix_at d.k.len rfl Tryd.underlying29 (by kernel_rfl) (by omega) rfl) (lds1 Tryd.underlying3 rfl ((cell_same kb).trans hCm)) rfl (by omega) (ix_at (d.k.len+1) (by omega) Tryd.underlying29 (by kernel_rfl) (by omega) rfl) (lds1 Tryd.underlying3 rfl ((cell_same kb).trans hCn)) rfl fun a12 h12=> ?_))
  refine wp_seq (wp_seq (rg_wp (bk_r16 h12 fun a13 h13=> ?_)))
  have h13:Sl 155 a13 [(12,.int .i64 ((0:Nat):Int)),(11,.slice (some ⟨b,0,none⟩) (d.k.len+2) (d.k.len+2)),(10,.int .i64 (d.k.len:Int)),(8,.bool true),(3,.pointer (some ⟨w1.heap.size,0,none⟩))]:=h13.to ⟨rfl,rfl,rfl,rfl,rfl,trivial⟩
  have hMu:MovC (InR lo hi) w u:=(MovC.of_below hb03).trans hM (fun y hy e=>⟨by omega,by omega⟩)
  have hFu:LNF u (b+1) hi b (0*11) d.k:=by
   have hz:=hb03.size
   rw[Nat.zero_mul]
   refine LNF.mono_hi (LNF.keep d.k (b+1) q b 0 hF (fun y h1 h2=>hM.block y (by omega) (fun e=>by have:=e.1;omega)) (fun n v _ hn=>(cell_same kb).trans hn)) (by omega)
  refine wp_block ?_
  refine wp_loop (fun a' u=> ∃j l:Nat,j<=d.k.len+2/\Sl 155 a' [(12,.int .i64 (j:Int)),(11,.slice (some ⟨b,0,none⟩) (d.k.len+2) (d.k.len+2)),(10,.int .i64 (d.k.len:Int)),(8,.bool true),(3,.pointer (some ⟨w1.heap.size,0,none⟩))]/\b<l/\
   (j<=d.k.len->LNF u l hi b (j*11) (d.k.drop j))/\(∃cp,Blk u b 31 cp/\cp.size=(d.k.len+2)*11)/\Blk u w1.heap.size 31 (d.cs m)/\MovC (InR lo hi) w u)
   (fun a' _=>muTo (d.k.len+2) (slot a' 12)) ⟨0,b+1,by omega,h13,by omega,fun _=>by rw[Fo.drop_zero];exact hFu,⟨cb,hCu,hC2⟩,hDu,hMu⟩ ?_
  clear hFu hMu hDu hCu kb hXu h13 h12 h11 h10 h9 h8 hM hU1 hV
  rintro a14 v ⟨j,l,hj,h14,hbl,hF,hC,hD,hM⟩
  rw[h14.look 12 rfl,muTo_int]
  unfold bkL0
  have hws:=hM.size
  by_cases hjl:j<d.k.len+2
  ·refine wp_seq (wp_seq (rg_wp (bk_r17 (b130:=true) h14 rfl rfl (by omega) (decide_eq_true (by omega)) fun a15 h15=>wpn (h15.look 130 rfl) ?_)))
   have nxt: ∀{a':Act} {l':List (Nat×Value)} {v':World} {l2:Nat} (Q:Exit->Act->World->Prop),Sl 155 a' l'->AllL l' [(12,.int .i64 (j:Int)),(11,.slice (some ⟨b,0,none⟩) (d.k.len+2) (d.k.len+2)),(10,.int .i64 (d.k.len:Int)),(8,.bool true),(3,.pointer (some ⟨w1.heap.size,0,none⟩))]->
     b<l2->(j+1<=d.k.len->LNF v' l2 hi b ((j+1)*11) (d.k.drop (j+1)))->(∃cp,Blk v' b 31 cp/\cp.size=(d.k.len+2)*11)->Blk v' w1.heap.size 31 (d.cs m)->MovC (InR lo hi) w v'->
     (∀a'' u',(∃j l:Nat,j<=d.k.len+2/\Sl 155 a'' [(12,.int .i64 (j:Int)),(11,.slice (some ⟨b,0,none⟩) (d.k.len+2) (d.k.len+2)),(10,.int .i64 (d.k.len:Int)),(8,.bool true),(3,.pointer (some ⟨w1.heap.size,0,none⟩))]/\b<l/\
   (j<=d.k.len->LNF u' l hi b (j*11) (d.k.drop j))/\(∃cp,Blk u' b 31 cp/\cp.size=(d.k.len+2)*11)/\Blk u' w1.heap.size 31 (d.cs m)/\MovC (InR lo hi) w u')/\muTo (d.k.len+2) (slot a'' 12)<d.k.len+2-j->Q .normal a'' u')->
     (r_bk 22).wp Tryd.prog (Exit.inBlock 3 (Exit.then ((r_bk 18).wp Tryd.prog Q) Q)) a' v':=fun{a' l' v' l2} Q h' hl hb2 hF2 hC2 hD2 hM2 hQ=>by
    obtain⟨cp,q1,q2⟩:=hC2
    refine wpl (rg_wp (bk_r22 (g153:=b) (o153:=j*11) (h'.to hl) rfl rfl (ix_at j rfl Tryd.underlying29 (by kernel_rfl) hjl rfl) (stsA (there_bk q1 (by rw[q2];show j*11+11<=_;omega)) (by kernel_rfl) (by kernel_rfl)) fun a16 h16=> ?_))
    show(r_bk 18).wp Tryd.prog Q a16 _
    refine wpl (rg_wp (bk_r18 h16 rfl (by omega) fun a17 h17=>hQ a17 _ ⟨⟨j+1,l2,by omega,h17.to ⟨rfl,rfl,rfl,rfl,rfl,trivial⟩,hb2,fun hjk=> ?_,set_blk _ ⟨cp,q1,q2⟩,Blk.farL (by omega) _ _ _ hD2,hM2.set (fun _=>⟨by omega,by omega⟩) ⟨_,_,q1⟩ _ _⟩, ?_⟩))
    ·refine LNF.keep _ _ _ _ _ (hF2 hjk) (fun y h1 h2=>setCells_other _ _ _ (by omega)) (fun n z hn hz=> ?_)
     rw[set_out _ (fun _=>.inr (by show j*11+11<=n;omega))]
     exact hz
    ·rw[h17.look 12 rfl,show((j:Int)+1)=((j+1:Nat):Int) by simp,muTo_int]
     omega
   refine wp_seq (wp_block (wp_seq (wp_seq (rg_wp (bk_r19 (b135:=decide (j<d.k.len)) h15 rfl rfl (by rw[decide_eq_decide];omega) fun a16 h16=> ?_)))))
   by_cases hjk:j<d.k.len
   ·rw[decide_eq_true hjk] at h16
    refine wp_cond_true (h16.look 135 rfl) ?_
    obtain⟨a,e',hget⟩:=Fo.get_lt d.k j hjk
    have hFj:=hF (by omega)
    rw[Fo.drop_get d.k j a e' hget,LNF_cons] at hFj
    obtain⟨m',x',hm',hcs,hd',hrest⟩:=hFj
    have hlm:=hd'.lt
    obtain⟨b1,o1,hia,hSb,qa,qc,ja,jc,hcd,hda⟩:=(hM.dat hdd hS).kids.get hget
    have hlol:lo<=l:=by omega
    have hdr:MovC (InR l m') v (v.drewN 1):=MovC.of_below (below_drewN (Below.refl _ _) 1)
    obtain⟨cp,q1,q2⟩:=hC
    have hSl: ∀y,S y->¬InR l m' y:=fun y hy e=>hS y hy ⟨by have:=e.1;omega,by have:=e.2;omega⟩
    refine wp_seq (rg_wp (bk_r20 (C:=fun u=>MovC (InR l m') v u) (C0:=fun u=>MovC (InR l m') v u) (g138:=b) (o138:=j*11) (ax:=⟨a,e'⟩) (max:=x') (ia:=some ⟨b1,o1,none⟩) (il:=d.k.len) (ic:=m.ic) (g143:=b1) (o143:=o1+j*11) (dx:=⟨a,e'⟩) (mx:=⟨qa,qc,ja,jc⟩) (b13:=true) h16 rfl rfl rfl hdr (ix_at j rfl Tryd.underlying29 (by kernel_rfl) hjl rfl)
     (fun u hu=>ldsA Tryd.underlying31 rfl (by kernel_rfl) (cs:=(Dt.cs ⟨a,e'⟩ x').toList) (fun n z hz=>(cell_same (hu.block b q1.lt (fun e=>by have:=e.1.1;omega))).trans (hcs n z (by rw[<-Array.getElem?_toList];exact hz))))
     (fun u hu=>by rw[<-hia];exact hi10 (hu.stay hD (fun e=>by have:=e.2;omega))) (fun w=>ix_at2 j Tryd.underlying29 (by kernel_rfl) hjk w)
     (fun u hu=>ldsA Tryd.underlying31 rfl (by kernel_rfl) (cs:=(Dt.cs ⟨a,e'⟩ ⟨qa,qc,ja,jc⟩).toList) (fun n z hz=>by
      have hcell:=hcd n z (by rw[<-Array.getElem?_toList];exact hz)
      exact(cell_same (hu.block b1 (cell_lt hcell) (fun e=>hSl b1 hSb e.1))).trans hcell))
     ((ih j a e' hget (v.drewN 1) S ⟨qa,qc,ja,jc⟩ l m' x' (right_get hr hget) (hdr.dat (d:=⟨a,e'⟩) (m:=⟨qa,qc,ja,jc⟩) hda hSl) (hd'.keep fun y h1 h2=>rfl) hSl (by show m'<=v.heap.size;omega)).mono fun e w' hh=>⟨hh.1,hdr.trans hh.2 (fun _ _ h=>h)⟩) (fun _ h=>h) fun a17 v' hv' h17=> ?_))
    refine wpl (rg_wp (bk_r21_tt h17 rfl rfl fun a18 h18=> ?_))
    have kb':=hv'.block b q1.lt (fun e=>by have:=e.1.1;omega)
    refine nxt (l2:=m') _ h18 ⟨rfl,rfl,rfl,rfl,rfl,trivial⟩ (by omega) (fun _=> ?_) ⟨cp,kb'.trans q1,q2⟩ (hv'.stay hD (fun e=>by have:=e.2;omega)) (hM.trans hv' (fun y _ e=>⟨by have:=e.1;omega,by have:=e.2;omega⟩)) fun a'' u' h=>h
    rw[Nat.add_mul,Nat.one_mul]
    exact LNF.keep _ _ _ _ _ hrest (fun y h1 h2=>hv'.block y (by omega) (fun e=>by have:=e.1.2;omega)) (fun n z _ hz=>(cell_same kb').trans hz)
   ·rw[decide_eq_false hjk] at h16
    refine wpo (h16.look 135 rfl) ?_
    exact nxt (l2:=l) _ h16 ⟨rfl,rfl,rfl,rfl,rfl,trivial⟩ hbl (fun h=>by omega) hC hD hM fun a'' u' h=>h
  ·refine wp_seq (wp_seq (rg_wp (bk_r17 (b130:=false) h14 rfl rfl (by omega) (decide_eq_false (by omega)) fun a15 h15=>wpx (h15.look 130 rfl) ?_)))
   refine then_exit' (in_block2 ?_)
   show Code.wp _ (.seq (r_bk 23) .ret) _ a15 v
   refine wp_seq (rg_wp (bk_r23 h15 rfl fun a16 h16=>wp_ret ?_))
   exact ret1 rfl h16 rfl ⟨rfl,hM⟩
theorem back_all: ∀(f:Fo),f.ok->∀i h k,f.get i=some (h,k)->BackC h k
 | .nil,_,i,h,k,e=>by simp[Fo.get] at e
 | .cons h k r,ho,0,h',k',e=>by
  simp only[Fo.get,Option.some.injEq,Prod.mk.injEq] at e
  obtain⟨rfl,rfl⟩:=e
  exact fun w S m lo hi x hr hd hL hS hh=>back_dt (d:=⟨h,k⟩) ho.1 ho.2.1 ho.2.2.2 (back_all k ho.2.1) hr hd hL hS hh
 | .cons h k r,ho,i+1,h',k',e=>back_all r ho.2.2.1 i h' k' e
theorem back_any{d:Dt}{w:World}{S:Nat->Prop}{m x:Dm}{lo hi:Nat}(ho:d.ok)(hr:rB d=true)(hd:d.at w S m)(hL:LN w lo hi d.h d.k x)(hS: ∀b,S b->¬InR lo hi b)(hhi:hi<=w.heap.size):
  Calls Tryd.prog 48 #[.agg (d.cs x),.agg (d.cs m)] w fun e w'=>e=.returned (.bool true)/\MovC (InR lo hi) w w':=back_dt ho.h ho.k ho.len (back_all d.k ho.k) hr hd hL hS hhi
end Go.Proofs.YtlhfickniegooaaDoor
