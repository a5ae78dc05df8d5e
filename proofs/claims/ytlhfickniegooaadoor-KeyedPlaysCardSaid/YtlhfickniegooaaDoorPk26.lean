/-
   Written by an AI agent.
-/
import Derived.Test.YtlhfickniegooaaDoorPk25
import Derived.Laws.OwnMore
namespace Go.Proofs.YtlhfickniegooaaDoor
open Go.RowKit
set_option maxRecDepth 100000
def zD:Dt:=pD 0 ⟨#[]⟩ 0 0 ⟨#[]⟩
theorem zD_ok:zD.ok:=pD_ok (by unfold okInt;omega) (by unfold okInt;omega) (by omega) (by omega) (by show(0:Nat)<=_;omega) (by show(0:Nat)<=_;omega)
theorem zD_at(w:World)(S:Nat->Prop):zD.at w S m0:=pD_at _ _ _ _ _ _ _
theorem zD_right:rB zD=true:=by kernel_rfl
theorem at_none{L:List Re}{d:Dt}(h:L.find? (fun y=>eqO y.k d)=none):atI L d= -1:=by
 unfold atI
 rw[List.findIdx?_eq_none_iff.2 (fun x hx=>by have:=List.find?_eq_none.1 h x hx;simpa using this)]
theorem at_some{L:List Re}{d:Dt}{y:Re}(h:L.find? (fun y=>eqO y.k d)=some y): ∃X Z,L=X++y::Z/\(∀x∈X,eqO x.k d=false)/\atI L d=(X.length:Int)/\eqO y.k d=true:=by
 obtain⟨hy,X,Z,hL,hX⟩:=List.find?_eq_some_iff_append.1 h
 refine⟨X,Z,hL,fun x hx=>by have:=hX x hx;simpa using this, ?_,hy⟩
 unfold atI
 have:L.findIdx? (fun x=>eqO x.k d)=some X.length:=by
  rw[List.findIdx?_eq_some_iff_getElem]
  refine⟨by rw[hL];simp, ?_,fun j hj=> ?_⟩
  ·simp only[hL,List.getElem_append_right (Nat.le_refl _),Nat.sub_self,List.getElem_cons_zero]
   exact hy
  ·have e:L[j]'(by rw[hL];simp;omega)=X[j]:=by simp only[hL,List.getElem_append_left hj]
   rw[e]
   have:=hX _ (List.getElem_mem hj)
   simpa using this
 rw[this]
def getI(L:List Re)(d:Dt):Option Dt:=if rB d&&kB d then(L.find? fun y=>eqO y.k d).map (·.v) else none
theorem wrong_one(d:Dt):(wrongA d zD).none=(rB d&&kB d):=by rw[wrong_none,zD_right,Bool.and_true]
def RGet(L:List Re)(d:Dt)(D:Nat->Prop)(w:World)(e:Ending)(w':World):Prop:=Below w.heap.size w w'/\∃mx,e=.returned (.tuple #[.agg (((getI L d).getD zD).cs mx),.bool (getI L d).isSome,.agg (wrongA d zD).cs])/\((getI L d).getD zD).at w' D mx
theorem dat_over{w:World}{g:Nat}{t:TypeId}{cs:Array Value}(h:Blk w g t cs)(hz:cs.size=11)(x:Dt)(mx:Dm):Blk (w.setCells g 0 (x.cs mx).toList) g t (x.cs mx):=over_dat h hz x mx
theorem dat_put{w:World}{g o:Nat}{t:TypeId}{cs:Array Value}(h:Blk w g t cs)(hz:o+11<=cs.size)(x:Dt)(mx:Dm):(Instr.storeAt 31 (.pointer (some ⟨g,o,none⟩)) (.agg (x.cs mx))).run Tryd.prog w=.ok () (w.setCells g o (x.cs mx).toList):=dat_store h hz
set_option maxHeartbeats 2000000 in
theorem rget_any{w:World}{gr:Nat}{L:List Re}{many:Int}{D O:Nat->Prop}(hR:RefAt w gr L many D O)(hL:L.length<=9223372036854775806){d:Dt}{md:Dm}{S:Nat->Prop}(ho:d.ok)(hd:d.at w S md):
  Calls Tryd.prog 44 #[.pointer (some ⟨gr,0,none⟩),.agg (d.cs md)] w (RGet L d D w):=by
 refine calls_ev (vs:=[.pointer (some ⟨gr,0,none⟩),.agg (d.cs md)]) 35 Tryd.func44 e3_body (by kernel_rfl) (by simp) fun a0 h0=> ?_
 unfold e3Body
 refine wp_seq (rg_wp (e3_r0 h0 rfl fun a1 h1=> ?_))
 have hA1:=Blk.new w 31 (d.cs md)
 have hb1:=bl_alloc (Below.refl w.heap.size w) (.cells (d.cs md) 31)
 generalize w.alloc (.cells (d.cs md) 31)=w1 at h1 hA1 hb1 ⊢
 have lo1:w.heap.size<w1.heap.size:=hA1.lt
 have hZ2:Blk _ w1.heap.size 31 (zD.cs m0):=Blk.new w1 31 zeroC
 have hab1:=bl_alloc (Below.refl w1.heap.size w1) (.cells zeroC 31)
 have hA2:=hA1.below hab1 hA1.lt
 have hb2:=bl_trans hb1 hab1
 have e2:w1.alloc (.cells #[.int .i64 0,.string (⟨#[]⟩),.int .i64 0,.int .u64 0,.string (⟨#[]⟩),.int .i64 0,.int .i64 0,.int .i64 0,.int .i64 0,.slice none 0 0,.slice none 0 0] 31)=w1.alloc (.cells zeroC 31):=rfl
 rw[e2] at h1 ⊢
 generalize w1.alloc (.cells zeroC 31)=w2 at h1 hZ2 hA2 hb2 ⊢
 have lo2:w1.heap.size<w2.heap.size:=hZ2.lt
 have hE3:Blk _ w2.heap.size erT (noneE:E9).cs:=Blk.new w2 _ _
 have hab2:=bl_alloc (Below.refl w2.heap.size w2) (.cells (noneE:E9).cs erT)
 have hA3:=hA2.below hab2 hA2.lt
 have hZ3:=hZ2.below hab2 hZ2.lt
 have hb3:=bl_trans hb2 hab2
 have e3:w2.alloc (.cells #[.int .i64 0,.int .i64 0,.string ⟨#[]⟩,.string ⟨#[]⟩,.string ⟨#[]⟩] 116)=w2.alloc (.cells (noneE:E9).cs erT):=rfl
 rw[e3]
 generalize w2.alloc (.cells (noneE:E9).cs erT)=w3 at hE3 hA3 hZ3 hb3 ⊢
 have lo3:w2.heap.size<w3.heap.size:=hE3.lt
 refine wp_seq (rg_wp (e3_r1 (C0:=fun u=>Below w3.heap.size w3 u) (ec:=(wrongA d zD).c) (ep:=0) (es:=⟨#[]⟩) (ew:=(wrongA d zD).w) (em:=(wrongA d zD).m) h1 rfl (dat_whole hA3) (wrong9_any (v:=zD) (mv:=m0) ho zD_ok (hd.old hb3) (zD_at w3 (fun _=>False))) (fun w4 _=>err_sto (Blk.new w4 _ noneE.cs) (wrongA d zD)) fun a2 w4 hb4 h2=> ?_))
 have hG7:=err_over (Blk.new w4 erT noneE.cs) (wrongA d zD)
 have hb5:=below_setCells (b:=w4.heap.size) (wrongA d zD).cs.toList 0 _ (bl_alloc hb4 (.cells (noneE:E9).cs erT)) hb4.size
 have e5:(w4.alloc (.cells #[.int .i64 0,.int .i64 0,.string ⟨#[]⟩,.string ⟨#[]⟩,.string ⟨#[]⟩] 116)).setCells w4.heap.size 0 [.int .i64 (wrongA d zD).c,.int .i64 0,.string ⟨#[]⟩,.string (wrongA d zD).w,.string (wrongA d zD).m]=(w4.alloc (.cells (noneE:E9).cs erT)).setCells w4.heap.size 0 (wrongA d zD).cs.toList:=rfl
 rw[e5]
 have lo4:=hb4.size
 generalize (w4.alloc (.cells (noneE:E9).cs erT)).setCells w4.heap.size 0 (wrongA d zD).cs.toList=w5 at hG7 hb5 ⊢
 refine wp_seq (rg_wp (e3_r2 (C0:=fun u=>Below w5.heap.size w5 u) h2 rfl (err_load hG7) (none9_any (wrongA d zD) w5) fun a3 w6 hb6 h3=> ?_))
 have hb36:=bl_trans hb5 hb6
 have hG:=hG7.below hb6 hG7.lt
 have hA:=hA3.below hb36 hA3.lt
 have hZ:=hZ3.below hb36 hZ3.lt
 have hE:=hE3.below hb36 hE3.lt
 have hb06:=bl_trans hb3 hb36
 rw[wrong_one] at h3
 have fin: ∀{a':Act} {l':List (Nat×Value)} {u:World} {b:Bool} {x:Dt} {mx:Dm},Below w6.heap.size w6 u->Sl 35 a' l'->l'.lookup 4=some (.pointer (some ⟨w1.heap.size,0,none⟩))->l'.lookup 5=some (.bool b)->l'.lookup 6=some (.pointer (some ⟨w2.heap.size,0,none⟩))->x.at w D mx->x=(getI L d).getD zD->b=(getI L d).isSome->
   bodyPost Tryd.prog Tryd.f44 (RGet L d D w) .ret a' ((u.setCells w1.heap.size 0 (x.cs mx).toList).setCells w2.heap.size 0 (wrongA d zD).cs.toList):=fun{a' l' u b x mx} hb h' q4 q5 q6 hx ex eb=>by
  have k4:=Blk.farL (g:=w1.heap.size) (b:=w2.heap.size) (by omega) (wrongA d zD).cs.toList 0 _ (dat_over (hZ.below hb hZ.lt) rfl x mx)
  have k6:=err_over (Blk.farL (g:=w2.heap.size) (b:=w1.heap.size) (by omega) (x.cs mx).toList 0 _ (hE.below hb hE.lt)) (wrongA d zD)
  have hbl:=below_setCells (b:=w2.heap.size) (wrongA d zD).cs.toList 0 _ (below_setCells (b:=w1.heap.size) (x.cs mx).toList 0 _ (bl_trans hb06 hb) (by omega)) (by omega)
  exact ret_ctc rfl h' q4 q5 q6 (dat_whole k4) (err_load k6) ⟨hbl,mx,by rw[ex,eb],ex ▸ hx.old hbl⟩
 have hd61:Below w6.heap.size w6 (w6.drewN 1):=below_drewN (Below.refl _ _) 1
 cases hn:(rB d&&kB d) with
 | false=>
  rw[hn] at h3
  have hgi:getI L d=none:=by unfold getI;rw[hn];rfl
  refine wp_seq (wp_seq (rg_wp (e3_r3 h3 rfl fun a4 h4=>wp_cond_true (h4.look 16 rfl) ?_)))
  refine wp_seq (rg_wp (e3_r4 (C:=fun u=>Blk u w4.heap.size erT (wrongA d zD).cs) (g7:=w4.heap.size) (ec:=(wrongA d zD).c) (ep:=0) (es:=⟨#[]⟩) (ew:=(wrongA d zD).w) (em:=(wrongA d zD).m) h4 rfl rfl rfl (hG.drewN 1) (fun u hu=>err_load hu) (dat_put (x:=zD) (mx:=m0) (hZ.drewN 1) (Nat.le_refl _)) (Blk.farL (by omega) _ _ _ (hG.drewN 1)) (err_sto (Blk.farL (by omega) _ _ _ (hE.drewN 1)) (wrongA d zD)) fun a5 h5=>wp_ret (then_ret ?_)))
  exact fin (x:=zD) (mx:=m0) hd61 h5 rfl rfl rfl (zD_at _ _) (by rw[hgi];rfl) (by rw[hgi];rfl)
 | true=>
  rw[hn] at h3
  have hrk:rB d=true/\kB d=true:=by simpa using hn
  refine wp_seq (wp_seq (rg_wp (e3_r3 h3 rfl fun a4 h4=>wpo (h4.look 16 rfl) ?_)))
  refine wp_seq (rg_wp (e3_r5 (C0:=fun u=>Below w6.heap.size w6 u) h4 rfl rfl (dat_whole hA) (at_any (hR.old hb06) hL ho (hd.old hb06) hrk.1 hrk.2) fun a5 w7 hb7 h5=> ?_))
  have hd71:Below w7.heap.size w7 (w7.drewN 1):=below_drewN (Below.refl _ _) 1
  cases hf:L.find? (fun y=>eqO y.k d) with
  | none=>
   have hgi:getI L d=none:=by unfold getI;rw[hn,hf];rfl
   rw[at_none hf] at h5
   refine wp_seq (wp_seq (rg_wp (e3_r6 (b23:=true) h5 rfl rfl fun a6 h6=>wp_cond_true (h6.look 23 rfl) ?_)))
   refine wp_seq (rg_wp (e3_r7 (C:=fun u=>Blk u w4.heap.size erT (wrongA d zD).cs) (g7:=w4.heap.size) (ec:=(wrongA d zD).c) (ep:=0) (es:=⟨#[]⟩) (ew:=(wrongA d zD).w) (em:=(wrongA d zD).m) h6 rfl rfl rfl ((hG.below hb7 hG.lt).drewN 1) (fun u hu=>err_load hu) (dat_put (x:=zD) (mx:=m0) ((hZ.below hb7 hZ.lt).drewN 1) (Nat.le_refl _)) (Blk.farL (by omega) _ _ _ ((hG.below hb7 hG.lt).drewN 1)) (err_sto (Blk.farL (by omega) _ _ _ ((hE.below hb7 hE.lt).drewN 1)) (wrongA d zD)) fun a7 h7=>wp_ret (then_ret ?_)))
   exact fin (x:=zD) (mx:=m0) (bl_trans hb7 hd71) h7 rfl rfl rfl (zD_at _ _) (by rw[hgi];rfl) (by rw[hgi];rfl)
  | some y=>
   have hgi:getI L d=some y.v:=by unfold getI;rw[hn,hf];rfl
   obtain⟨X,Z,hXZ,_,hat,_⟩:=at_some hf
   have hLy:L[X.length]? =some y:=by rw[hXZ];simp
   rw[hat] at h5
   refine wp_seq (wp_seq (rg_wp (e3_r6 (b23:=false) h5 rfl (decide_eq_false (by omega)) fun a6 h6=>wpo (h6.look 23 rfl) ?_)))
   obtain⟨s,hBr,hRow,hso⟩:=hR.row
   obtain⟨g,cur,hg,hsd,hsn,hlt,_,hgl,hBg,_,hra⟩:=hRow.at hLy
   have hrv:=re_val hra
   have hb07:=bl_trans hb06 (bl_trans hb7 hd71)
   have hG7':=(hG.below hb7 hG.lt).drewN 1
   have hym:=List.mem_of_getElem? hLy
   refine wp_seq (rg_wp (e3_r8 (C:=fun u=>Blk u w4.heap.size erT (wrongA d zD).cs/\Below w.heap.size w u) (g31:=g) (o31:=X.length*23) (dl:=some ⟨g,0,none⟩) (nl:=s.n) (ql:=s.c) (dv:=y.v) (mv:=y.dv) (g7:=w4.heap.size) (ec:=(wrongA d zD).c) (ep:=0) (es:=⟨#[]⟩) (ew:=(wrongA d zD).w) (em:=(wrongA d zD).m) h6 rfl rfl rfl rfl rfl ⟨hG7',hb07⟩ (fun u hu=>one_load (hBr.below hu.2 hBr.lt) Tryd.underlying54 rfl (by show some s.v=_;unfold S3.v;rw[hsd])) (ix_at X.length rfl Tryd.underlying54 (by kernel_rfl) (by rw[hRow.2];exact hlt) rfl)
    (fun u hu=>ldsA Tryd.underlying31 rfl (by kernel_rfl) (cs:=(y.v.cs y.dv).toList) (fun i v hv=>cell_ext (Ext.of_below (B:=0) hu.2 (Nat.zero_le _)) (hrv i v hv))) (fun u hu=>err_load hu.1) (dat_put (x:=y.v) (mx:=y.dv) ((hZ.below hb7 hZ.lt).drewN 1) (Nat.le_refl _)) ⟨Blk.farL (by omega) _ _ _ hG7',below_setCells _ _ _ hb07 (by omega)⟩ (err_sto (Blk.farL (by omega) _ _ _ ((hE.below hb7 hE.lt).drewN 1)) (wrongA d zD)) fun a7 h7=>wp_ret ?_))
   exact fin (x:=y.v) (mx:=y.dv) (bl_trans hb7 hd71) h7 rfl rfl rfl (hR.dat y hym).2 (by rw[hgi];rfl) (by rw[hgi];rfl)
end Go.Proofs.YtlhfickniegooaaDoor

namespace Go.Proofs.YtlhfickniegooaaDoor
open Go.RowKit
set_option maxRecDepth 100000
theorem re_info:(Tryd.prog.info? reT).map (fun i=>(i.size,decide (i.bytes<=400),i.zero.map (·.cells.size)))=some (23,true,some 23):=by kernel_rfl
def SrcE(w:World)(d:Option Addr)(n q:Nat)(M:List Re):Prop:=n=M.length/\((d=none/\q=0/\M=[])\/∃a:Addr,d=some a/\∀j u,(M.flatMap fun x=>x.cs.toList)[j]? =some u->w.cell? (a.add j)=some u)
def AppE(w:World)(B:Nat)(s:S3)(L:List Re)(s':S3)(w':World):Prop:=RowE w' B s' L/\w.grownBy w' s.v.ownBlock/\(s'.v.ownBlock=s.v.ownBlock\/s'.v.ownBlock=some w.heap.size)
theorem app_re{w:World}{B:Nat}{s:S3}{L M:List Re}(h:RowE w B s L)(hB:B<=w.heap.size)(hn:L.length+M.length<=300000000000){d:Option Addr}{n q:Nat}(hs:SrcE w d n q M)(ty:TypeId):
    ∃(s':S3) (w':World),(Builtin.append_ #[54,54] ty #[.slice s.d s.n s.c,.slice d n q]).run Tryd.prog w=.ok (S3.v s') w'/\AppE w B s (L++M) s' w':=by
  obtain⟨i,hi,hz⟩:=Option.map_eq_some_iff.1 re_info
  injection hz with hz0 hz
  injection hz with hz1 hz2
  obtain⟨z,hzz,hzs⟩:=Option.map_eq_some_iff.1 hz2
  have hb:i.bytes<=400:=by simpa using hz1
  obtain⟨rfl,hs⟩:=hs
  rcases hs with⟨rfl,rfl,rfl⟩ | ⟨a,rfl,hs⟩
  · refine⟨s,w,run_append_owned_none (P:=Tryd.prog) (w:=w) B 54 ty reT i 23 Tryd.underlying54 hi s.v L.length _ h.1, ?_, ?_,.inl rfl⟩
    · rw[List.append_nil]
      exact h
    · exact⟨rfl,rfl,rfl,Nat.le_refl _,fun _ _ _=>rfl⟩
  · have hm:(L.length+M.length)*i.bytes<=(L.length+M.length)*400:=Nat.mul_le_mul_left _ hb
    have hfl:(M.flatMap fun x=>x.cs.toList).length=M.length*23:=by
      clear hs hn hm
      induction M with
      | nil=>rfl
      | cons x M ih=>rw[List.flatMap_cons,List.length_append,ih,re_len,List.length_cons];omega
    obtain⟨v',w',hr,ho,hg,_,hblk⟩:=run_append_own_at (P:=Tryd.prog) (w:=w) B 54 ty reT i z 23 i.bytes Tryd.underlying54 hi hzz hz0 rfl hzs (by omega) s.v L.length _ h.1
      a M.length q (M.flatMap fun x => x.cs.toList) hfl hs (fun u hu => by
        obtain⟨x,_,hx⟩:=List.mem_flatMap.1 hu
        exact re_one x u hx) (by simp only[maxLen];omega) (by omega) hB
    have hS: ∃s':S3,v'=s'.v/\s'.n=L.length+M.length:=by
      rcases ho.2 with⟨rfl,h0⟩ | ⟨g,cap,cur,rfl,_⟩
      · exact⟨⟨none,0,0⟩,rfl,h0.symm⟩
      · exact⟨⟨some ⟨g,0,none⟩,L.length+M.length,cap⟩,rfl,rfl⟩
    obtain⟨s',rfl,hsn⟩:=hS
    refine⟨s',w',hr,⟨?_,by rw[List.length_append];exact hsn⟩,hg,hblk⟩
    rw[List.length_append,List.flatMap_append]
    exact ho
theorem addr_add(g o j:Nat):(⟨g,o,none⟩:Addr).add j=⟨g,o+j,none⟩:=by
 unfold Addr.add
 split<;>simp_all
theorem RowE.src{w:World}{B:Nat}{s:S3}{L:List Re}(h:RowE w B s L):SrcE w s.d s.n s.c L:=by
 refine⟨h.2, ?_⟩
 rcases h.1.2 with⟨h1,h0⟩ | ⟨g,cap,cur,hv,hB,hh,hc,_,hz,ht⟩
 ·have hd:s.d=none/\s.c=0:=by
   have:Value.slice s.d s.n s.c=_:=h1
   injection this with q1 q2 q3
   exact⟨q1,q3⟩
  exact .inl ⟨hd.1,hd.2,List.eq_nil_of_length_eq_zero h0⟩
 ·have hd:s.d=some ⟨g,0,none⟩:=by
   have:Value.slice s.d s.n s.c=_:=hv
   injection this
  refine .inr ⟨_,hd,fun j u hu=> ?_⟩
  rw[<-ht] at hu
  have hj:=(List.getElem?_eq_some_iff.1 hu).1
  rw[List.length_take] at hj
  rw[List.getElem?_take_of_lt (by omega),Array.getElem?_toList] at hu
  rw[addr_add,Nat.zero_add]
  exact((show Blk w g reT cur from hh).cell j).trans hu
theorem grown_none{w w':World}{v:Value}(hg:w.grownBy w' v.ownBlock)(hv:v.ownBlock=none):Below w.heap.size w w':=⟨hg.os,hg.tape,hg.output,hg.size,fun k hk=>hg.block k hk (by rw[hv];simp)⟩
theorem rentries_any{w:World}{gr:Nat}{L:List Re}{many:Int}{D O:Nat->Prop}(hR:RefAt w gr L many D O)(hL:L.length<=200000000000):
  Calls Tryd.prog 39 #[.pointer (some ⟨gr,0,none⟩)] w fun e w'=>Below w.heap.size w w'/\∃s:S3,e=.returned (.slice s.d s.n s.c)/\RowE w' w.heap.size s L:=by
 refine calls_ev (vs:=[.pointer (some ⟨gr,0,none⟩)]) 8 Tryd.func39 e6_body (by kernel_rfl) (by simp) fun a0 h0=> ?_
 unfold e6Body
 refine wp_seq (rg_wp (e6_r0 h0 fun a1 h1=> ?_))
 obtain⟨s,hBr,hRow,hso⟩:=hR.row
 refine wp_seq (rg_wp (e6_r1 (dl:=s.d) (nl:=s.n) (ql:=s.c) (C0:=fun u s' u'=>AppE u w.heap.size ⟨none,0,0⟩ ([]++L) s' u') h1 rfl (one_load hBr Tryd.underlying54 rfl rfl) (fun ty=>app_re (RowE.nil w _) (Nat.le_refl _) (by simp only[List.length_nil];omega) hRow.src ty) fun a2 s2 w2 hc h2=>wp_ret ?_))
 exact ret1 rfl h2 rfl ⟨grown_none hc.2.1 rfl,s2,rfl,hc.1⟩
def dropI(L:List Re)(d:Dt):List Re:=if rB d&&kB d then L.eraseP (fun y=>eqO y.k d) else L
def RDrop(gr:Nat)(L:List Re)(many:Int)(D O:Nat->Prop)(d:Dt)(w:World)(e:Ending)(w':World):Prop:=e=.returned (.tuple #[.bool (getI L d).isSome,.agg (wrongA d zD).cs])/\∃O',RefAt w' gr (dropI L d) many D O'/\Moved O w w'/\Grew w O O'
theorem refAt_gone{w:World}{gr:Nat}{L:List Re}{many:Int}{D O:Nat->Prop}(hR:RefAt w gr L many D O)(X:List Re)(y:Re)(Z:List Re)(h:L=X++y::Z){w':World}{s':S3}{O':Nat->Prop}(hD: ∀b,D b->w'.heap[b]? =w.heap[b]?)(hs:w.heap.size<=w'.heap.size)
  (h1:Blk w' gr rfT #[s'.v,.int .i64 many]) (h2:RowE w' 0 s' (X++Z)) (h3: ∀g,s'.v.ownBlock=some g->O' g/\g≠gr) (h4:O' gr) (h5: ∀b,O' b->b<w'.heap.size) (h6: ∀b,D b->¬O' b):RefAt w' gr (X++Z) many D O':=by
 have hin: ∀x∈X++Z,x∈L:=fun x hx=>by
  rw[h]
  simp only[List.mem_append,List.mem_cons] at hx ⊢
  rcases hx with hx | hx
  ·exact .inl hx
  ·exact .inr (.inr hx)
 exact{row:=⟨s',h1,h2,h3⟩,own:=h4,dat:=fun x hx=>⟨(hR.dat x (hin x hx)).1.keep (fun b hb _=>hD b hb) (fun _ h _=>h),(hR.dat x (hin x hx)).2.keep (fun b hb _=>hD b hb) (fun _ h _=>h)⟩,oks:=fun x hx=>hR.oks x (hin x hx),dlt:=fun b hb=>Nat.lt_of_lt_of_le (hR.dlt b hb) hs,olt:=h5,out:=h6}
theorem sl_to{P:Program}{t:TypeId}{sz g n c k:Nat}(ht:P.underlying t=some (.slice (P.elem t)))(hi:(P.info? (P.elem t)).map (·.size)=some sz)(hk:k<=c){x:Int}(hx:x=k)(w:World):(Instr.sliceAt t (.slice (some ⟨g,0,none⟩) n c) none (some (.int .i64 x)) none).run P w=.ok (.slice (some ⟨g,0,none⟩) k c) w:=by
 subst hx
 obtain⟨i,hi1,hi2⟩:=Option.map_eq_some_iff.1 hi
 rw[run_sliceAt_slice _ _ _ _ _ _ ht,run_slice_h _ _ _ _ _ ht _ _ (by omega) (by omega)]
 have e:(if c=0 then some (⟨g,0,none⟩:Addr) else some ((⟨g,0,none⟩:Addr).add (0*i.size)))=some ⟨g,0,none⟩:=by
  rw[Nat.zero_mul,addr_add]
  simp
 simp[sizeOf,typeInfo,hi1,Result.andThen,sliced,addr_add]
theorem sl_from{P:Program}{t:TypeId}{sz g n c k:Nat}(ht:P.underlying t=some (.slice (P.elem t)))(hi:(P.info? (P.elem t)).map (·.size)=some sz)(hk:k<=n){x:Int}(hx:x=k)(w:World):(Instr.sliceAt t (.slice (some ⟨g,0,none⟩) n c) (some (.int .i64 x)) none none).run P w=.ok (.slice (some ⟨g,if c=k then 0 else k*sz,none⟩) (n-k) (c-k)) w:=by
 subst hx
 obtain⟨i,hi1,hi2⟩:=Option.map_eq_some_iff.1 hi
 have hi2:i.size=sz:=hi2
 subst hi2
 rw[run_sliceAt_slice _ _ _ _ _ _ ht,run_slice_l _ _ _ _ _ ht _ _ (by omega) (by omega)]
 by_cases hc:c=k
 ·simp[sizeOf,typeInfo,hi1,Result.andThen,sliced,addr_add,hc]
 ·simp[sizeOf,typeInfo,hi1,Result.andThen,sliced,addr_add,hc]
theorem src_to{w:World}{B:Nat}{s:S3}{X Z:List Re}(h:RowE w B s (X++Z)){g:Nat}(hg:s.d=some ⟨g,0,none⟩):SrcE w (some ⟨g,0,none⟩) X.length s.c X:=by
 refine⟨rfl,.inr ⟨_,rfl,fun j u hu=> ?_⟩⟩
 obtain⟨_,h2⟩:=h.src
 rcases h2 with⟨q,_⟩ | ⟨a,q,h2⟩
 ·rw[hg] at q
  cases q
 ·rw[hg] at q
  injection q with q
  subst q
  refine h2 j u ?_
  rw[List.flatMap_append,List.getElem?_append_left (List.getElem?_eq_some_iff.1 hu).1]
  exact hu
theorem flat_len(X:List Re):(X.flatMap fun x=>x.cs.toList).length=X.length*23:=by
 induction X with
 | nil=>rfl
 | cons x X ih=>rw[List.flatMap_cons,List.length_append,ih,re_len,List.length_cons];omega
theorem src_from{w:World}{B:Nat}{s:S3}{X Z:List Re}(h:RowE w B s (X++Z)){g:Nat}(hg:s.d=some ⟨g,0,none⟩){q:Nat}:SrcE w (some ⟨g,if s.c=X.length then 0 else X.length*23,none⟩) (s.n-X.length) q Z:=by
 refine⟨by rw[h.2,List.length_append];omega,.inr ⟨_,rfl,fun j u hu=> ?_⟩⟩
 have hc:s.c≠X.length:=fun e=>by
  rcases h.1.2 with⟨h1,h0⟩ | ⟨g,cap,cur,hv,hB,hh,hc,_⟩
  ·have:Value.slice s.d s.n s.c=_:=h1
   injection this with q1
   rw[hg] at q1
   cases q1
  ·have:Value.slice s.d s.n s.c=_:=hv
   injection this with _ _ q3
   rw[List.length_append] at hc
   have:Z=[]:=List.eq_nil_of_length_eq_zero (by omega)
   rw[this] at hu
   cases hu
 rw[if_neg hc,addr_add]
 obtain⟨_,h2⟩:=h.src
 rcases h2 with⟨q,_⟩ | ⟨a,q,h2⟩
 ·rw[hg] at q
  cases q
 ·rw[hg] at q
  injection q with q
  subst q
  have:=h2 (X.length*23+j) u (by rw[List.flatMap_append,List.getElem?_append_right (by rw[flat_len];omega),flat_len,Nat.add_sub_cancel_left];exact hu)
  rwa [addr_add,Nat.zero_add] at this
end Go.Proofs.YtlhfickniegooaaDoor

namespace Go.Proofs.YtlhfickniegooaaDoor
open Go.RowKit
set_option maxRecDepth 100000
theorem getI_none{L:List Re}{d:Dt}(h:(rB d&&kB d)=false):getI L d=none:=by unfold getI;rw[h];rfl
theorem getI_find{L:List Re}{d:Dt}(h:(rB d&&kB d)=true):getI L d=(L.find? fun y=>eqO y.k d).map (·.v):=by unfold getI;rw[h];rfl
theorem erase_at{X Z:List Re}{y:Re}{p:Re->Bool}(hX: ∀x∈X,p x=false)(hy:p y=true):(X++y::Z).eraseP p=X++Z:=by
 rw[List.eraseP_append_right _ (fun x hx=>by rw[hX x hx];decide),List.eraseP_cons_of_pos hy]
set_option maxHeartbeats 2000000 in
theorem rdrop_any{w:World}{gr:Nat}{L:List Re}{many:Int}{D O:Nat->Prop}(hR:RefAt w gr L many D O)(hL:L.length<=200000000000){d:Dt}{md:Dm}{S:Nat->Prop}(ho:d.ok)(hd:d.at w S md):
  Calls Tryd.prog 47 #[.pointer (some ⟨gr,0,none⟩),.agg (d.cs md)] w (RDrop gr L many D O d w):=by
 refine calls_ev (vs:=[.pointer (some ⟨gr,0,none⟩),.agg (d.cs md)]) 45 Tryd.func47 e5_body (by kernel_rfl) (by simp) fun a0 h0=> ?_
 unfold e5Body
 refine wp_seq (rg_wp (e5_r0 h0 rfl fun a1 h1=> ?_))
 have hA1:=Blk.new w 31 (d.cs md)
 have hb1:=bl_alloc (Below.refl w.heap.size w) (.cells (d.cs md) 31)
 generalize w.alloc (.cells (d.cs md) 31)=w1 at h1 hA1 hb1 ⊢
 have lo1:w.heap.size<w1.heap.size:=hA1.lt
 have hE3:Blk _ w1.heap.size erT (noneE:E9).cs:=Blk.new w1 _ _
 have hab2:=bl_alloc (Below.refl w1.heap.size w1) (.cells (noneE:E9).cs erT)
 have hA3:=hA1.below hab2 hA1.lt
 have hb3:=bl_trans hb1 hab2
 have e3:w1.alloc (.cells #[.int .i64 0,.int .i64 0,.string ⟨#[]⟩,.string ⟨#[]⟩,.string ⟨#[]⟩] 116)=w1.alloc (.cells (noneE:E9).cs erT):=rfl
 rw[e3]
 generalize w1.alloc (.cells (noneE:E9).cs erT)=w3 at hE3 hA3 hb3 ⊢
 have lo3:w1.heap.size<w3.heap.size:=hE3.lt
 refine wp_seq (rg_wp (e5_r1 (C0:=fun u=>Below w3.heap.size w3 u) (ec:=(wrongA d zD).c) (ep:=0) (es:=⟨#[]⟩) (ew:=(wrongA d zD).w) (em:=(wrongA d zD).m) h1 rfl (dat_whole hA3) (wrong9_any (v:=zD) (mv:=m0) ho zD_ok (hd.old hb3) (zD_at w3 (fun _=>False))) (fun w4 _=>err_sto (Blk.new w4 _ noneE.cs) (wrongA d zD)) fun a2 w4 hb4 h2=> ?_))
 have hG7:=err_over (Blk.new w4 erT noneE.cs) (wrongA d zD)
 have hb5:=below_setCells (b:=w4.heap.size) (wrongA d zD).cs.toList 0 _ (bl_alloc hb4 (.cells (noneE:E9).cs erT)) hb4.size
 have e5:(w4.alloc (.cells #[.int .i64 0,.int .i64 0,.string ⟨#[]⟩,.string ⟨#[]⟩,.string ⟨#[]⟩] 116)).setCells w4.heap.size 0 [.int .i64 (wrongA d zD).c,.int .i64 0,.string ⟨#[]⟩,.string (wrongA d zD).w,.string (wrongA d zD).m]=(w4.alloc (.cells (noneE:E9).cs erT)).setCells w4.heap.size 0 (wrongA d zD).cs.toList:=rfl
 rw[e5]
 have lo4:=hb4.size
 generalize (w4.alloc (.cells (noneE:E9).cs erT)).setCells w4.heap.size 0 (wrongA d zD).cs.toList=w5 at hG7 hb5 ⊢
 refine wp_seq (rg_wp (e5_r2 (C0:=fun u=>Below w5.heap.size w5 u) h2 rfl (err_load hG7) (none9_any (wrongA d zD) w5) fun a3 w6 hb6 h3=> ?_))
 have hb36:=bl_trans hb5 hb6
 have hG:=hG7.below hb6 hG7.lt
 have hA:=hA3.below hb36 hA3.lt
 have hE:=hE3.below hb36 hE3.lt
 have hb06:=bl_trans hb3 hb36
 rw[wrong_one] at h3
 have fin: ∀{a':Act} {l':List (Nat×Value)} {u:World} {b:Bool} {L':List Re} {O':Nat->Prop},Blk u w1.heap.size erT (noneE:E9).cs->Moved O w u->RefAt u gr L' many D O'->Grew w O O'->L'=dropI L d->Sl 45 a' l'->l'.lookup 4=some (.bool b)->l'.lookup 5=some (.pointer (some ⟨w1.heap.size,0,none⟩))->¬O' w1.heap.size->b=(getI L d).isSome->
   bodyPost Tryd.prog Tryd.f47 (RDrop gr L many D O d w) .ret a' (u.setCells w1.heap.size 0 (wrongA d zD).cs.toList):=fun{a' l' u b L' O'} hk hM hR' hO eL h' q4 q5 hn eb=>by
  have k6:=err_over hk (wrongA d zD)
  refine ret_tc rfl h' q4 q5 (err_load k6) ⟨by rw[eb],O', ?_,hM.set (.inr (by omega)) _ _,hO⟩
  rw[<-eL]
  refine hR'.keep (by rw[setCells_size'];exact Nat.le_refl _) fun b hb=>setCells_other _ _ _ fun e=> ?_
  rcases hb with hb | hb
  ·exact hn (e ▸ hb)
  ·have:=hR.dlt b hb
   omega
 have none9: ∀{u:World},Below w6.heap.size w6 u->(Blk (u.drewN 1) w1.heap.size erT (noneE:E9).cs/\Moved O w (u.drewN 1))/\RefAt (u.drewN 1) gr L many D O/\¬O w1.heap.size:=fun{u} hb=>by
  have hb0:=bl_trans hb06 hb
  exact⟨⟨(hE.below hb hE.lt).drewN 1,Moved.of_below (below_drewN hb0 1)⟩,hR.old (below_drewN hb0 1),fun h=>by have:=hR.olt _ h;omega⟩
 cases hn:(rB d&&kB d) with
 | false=>
  rw[hn] at h3
  have hgi:getI L d=none:=getI_none hn
  refine wp_seq (wp_seq (rg_wp (e5_r3 h3 rfl fun a4 h4=>wp_cond_true (h4.look 16 rfl) ?_)))
  refine wp_seq (rg_wp (e5_r4 (g6:=w4.heap.size) (ec:=(wrongA d zD).c) (ep:=0) (es:=⟨#[]⟩) (ew:=(wrongA d zD).w) (em:=(wrongA d zD).m) h4 rfl rfl (err_load hG) (err_sto (hE.drewN 1) (wrongA d zD)) fun a5 h5=>wp_ret (then_ret ?_)))
  obtain⟨⟨k1,k2⟩,k3,k4⟩:=none9 (Below.refl _ _)
  exact fin k1 k2 k3 (Grew.refl _ _) (by unfold dropI;rw[hn];rfl) h5 rfl rfl k4 (by rw[hgi];rfl)
 | true=>
  rw[hn] at h3
  have hrk:rB d=true/\kB d=true:=by simpa using hn
  refine wp_seq (wp_seq (rg_wp (e5_r3 h3 rfl fun a4 h4=>wpo (h4.look 16 rfl) ?_)))
  refine wp_seq (rg_wp (e5_r5 (C0:=fun u=>Below w6.heap.size w6 u) h4 rfl rfl (dat_whole hA) (at_any (hR.old hb06) (by omega) ho (hd.old hb06) hrk.1 hrk.2) fun a5 w7 hb7 h5=> ?_))
  cases hf:L.find? (fun y=>eqO y.k d) with
  | none=>
   have hgi:getI L d=none:=by rw[getI_find hn,hf];rfl
   rw[at_none hf] at h5
   refine wp_seq (wp_seq (rg_wp (e5_r6 (b22:=true) h5 rfl rfl fun a6 h6=>wp_cond_true (h6.look 22 rfl) ?_)))
   refine wp_seq (rg_wp (e5_r7 (g6:=w4.heap.size) (ec:=(wrongA d zD).c) (ep:=0) (es:=⟨#[]⟩) (ew:=(wrongA d zD).w) (em:=(wrongA d zD).m) h6 rfl rfl (err_load (hG.below hb7 hG.lt)) (err_sto ((hE.below hb7 hE.lt).drewN 1) (wrongA d zD)) fun a7 h7=>wp_ret (then_ret ?_)))
   obtain⟨⟨k1,k2⟩,k3,k4⟩:=none9 hb7
   refine fin k1 k2 k3 (Grew.refl _ _) ?_ h7 rfl rfl k4 (by rw[hgi];rfl)
   unfold dropI
   rw[hn,if_pos rfl,List.eraseP_of_forall_not (fun x hx=>List.find?_eq_none.1 hf x hx)]
  | some y=>
   have hgi:getI L d=some y.v:=by rw[getI_find hn,hf];rfl
   obtain⟨X,Z,hXZ,hX,hat,hy⟩:=at_some hf
   have hLX:X.length+(Z.length+1)<=200000000000:=by rw[hXZ] at hL;simpa using hL
   have hdr:X++Z=dropI L d:=by
    unfold dropI
    rw[hn,if_pos rfl,hXZ,erase_at hX hy]
   rw[hat] at h5
   refine wp_seq (wp_seq (rg_wp (e5_r6 (b22:=false) h5 rfl (decide_eq_false (by omega)) fun a6 h6=>wpo (h6.look 22 rfl) ?_)))
   refine wp_seq (rg_wp (e5_r8 h6 fun a7 h7=> ?_))
   have hb07:=bl_trans hb06 hb7
   have hR7:=hR.old hb07
   obtain⟨s,hBr,hRow,hso⟩:=hR7.row
   rw[hXZ] at hRow
   obtain⟨g,cur,hg,hsd,hsn,hlt,_,hgl,hBg,_,hra⟩:=hRow.at (j:=X.length) (x:=y) (by simp)
   have hsc:X.length+(Z.length+1)<=s.c:=by
    rcases hRow.1.2 with⟨h1,h0⟩ | ⟨_,cap,cur,hv,hB,hh,hc,_⟩
    ·rw[List.length_append,List.length_cons] at h0
     omega
    ·have:Value.slice s.d s.n s.c=_:=hv
     injection this with _ _ q3
     rw[List.length_append,List.length_cons] at hc
     omega
   have hgO:=hso g hg
   have hsv:s.v=.slice (some ⟨g,0,none⟩) s.n s.c:=by unfold S3.v;rw[hsd]
   refine wp_seq (rg_wp (e5_r9 (dl:=some ⟨g,0,none⟩) (nl:=s.n) (ql:=s.c) (C0:=fun u s' u'=>AppE u w7.heap.size ⟨none,0,0⟩ ([]++X) s' u') h7 rfl rfl rfl (one_load hBr Tryd.underlying54 rfl (by rw[<-hsv];rfl)) (sl_to (sz:=23) Tryd.underlying54 (by kernel_rfl) (by omega) rfl)
    (fun ty=>app_re (RowE.nil w7 _) (Nat.le_refl _) (by simp only[List.length_nil];omega) (src_to hRow hsd) ty) fun a8 s8 w8 hc8 h8=> ?_))
   rw[List.nil_append] at hc8
   have hb8:Below w7.heap.size w7 w8:=grown_none hc8.2.1 rfl
   have hb08:=bl_trans hb07 hb8
   have hR8:=hR7.old hb8
   have hBr8:=hBr.below hb8 hBr.lt
   have hRow8:=hRow.old hb8
   have hlt8:s8.v.ownBlock=none\/∃g8,s8.v.ownBlock=some g8/\w7.heap.size<=g8/\g8<w8.heap.size:=by
    cases e:s8.v.ownBlock with
    | none=>exact .inl rfl
    | some g8=>exact .inr ⟨g8,rfl,row_block hc8.1.1 e⟩
   have grl:gr<w.heap.size:=hR.olt _ hR.own
   have w7l:=hb07.size
   have hC9: ∀(s9:S3) (w9:World),AppE w8 w7.heap.size s8 (X++Z) s9 w9->Below w7.heap.size w7 w9/\(∀g9,s9.v.ownBlock=some g9->w7.heap.size<=g9/\g9<w9.heap.size):=fun s9 w9 hc=>⟨⟨hc.2.1.os.trans hb8.os,hc.2.1.tape.trans hb8.tape,hc.2.1.output.trans hb8.output,Nat.le_trans hb8.size hc.2.1.size,fun k hk=>(hc.2.1.block k (Nat.lt_of_lt_of_le hk hb8.size) (fun e=>by
    rcases hlt8 with q | ⟨g8,q,q2,_⟩
    ·rw[q] at e;cases e
    ·rw[q] at e;injection e with e;omega)).trans (hb8.block k hk)⟩,fun g9 e=>row_block hc.1.1 e⟩
   refine wp_seq (rg_wp (e5_r10 (dl:=some ⟨g,0,none⟩) (nl:=s.n) (ql:=s.c) (C0:=fun u s' u'=>AppE u w7.heap.size s8 (X++Z) s' u') h8 rfl rfl rfl (one_load hBr8 Tryd.underlying54 rfl (by rw[<-hsv];rfl)) (by omega) (sl_from (sz:=23) (k:=X.length+1) Tryd.underlying54 (by kernel_rfl) (by rw[hsn,List.length_append,List.length_cons];omega) (by omega))
    (fun ty=>app_re hc8.1 hb8.size (by omega) (by
     have hRow8':RowE w8 0 s ((X++[y])++Z):=by rw[List.append_assoc];exact hRow8
     have:=src_from hRow8' hsd (q:=s.c-(X.length+1))
     rw[List.length_append] at this
     exact this) ty) (fun s9 w9 hc=>sts1 (there_bk (hBr.below (hC9 s9 w9 hc).1 hBr.lt) (by show 0+1<=2;omega)) (by kernel_rfl) rfl) fun a9 s9 w9 hc9 h9=> ?_))
   obtain⟨hb9,hs9⟩:=hC9 s9 w9 hc9
   have hb09:=bl_trans hb07 hb9
   have hBr9:=blk_over (hBr.below hb9 hBr.lt) [s9.v] rfl
   have hM9:Moved O w (w9.setCells gr 0 [s9.v]):=(Moved.of_below hb09).set (.inl hR.own) 0 [s9.v]
   have hG9:=Blk.farL (g:=w4.heap.size) (b:=gr) (by omega) [s9.v] 0 _ ((hG.below hb7 hG.lt).below hb9 (hG.below hb7 hG.lt).lt)
   have hE9:=Blk.farL (g:=w1.heap.size) (b:=gr) (by omega) [s9.v] 0 _ ((hE.below hb7 hE.lt).below hb9 (hE.below hb7 hE.lt).lt)
   have hR9:RefAt (w9.setCells gr 0 [s9.v]) gr (X++Z) many D (fun b=>O b\/s9.v.ownBlock=some b):=by
    refine refAt_gone (s':=s9) hR X y Z hXZ (fun b hb=>hM9.block b (hR.dlt b hb) (hR.out b hb)) hM9.size hBr9 (RowE.keep (w:=w9) ⟨⟨hc9.1.1.1, ?_⟩,hc9.1.2⟩ fun g9 e=> ?_) (fun g9 e=>⟨.inr e, ?_⟩) (.inl hR.own) (fun b hb=> ?_) fun b hb hh=> ?_
    ·rcases hc9.1.1.2 with q | ⟨g',cap',cur',q1,q2,q3⟩
     ·exact .inl q
     ·exact .inr ⟨g',cap',cur',q1,Nat.zero_le _,q3⟩
    ·have:=hs9 g9 e
     exact setCells_other _ _ _ (by omega)
    ·have:=hs9 g9 e
     omega
    ·rcases hb with hb | hb
     ·exact Nat.lt_of_lt_of_le (hR.olt b hb) hM9.size
     ·rw[setCells_size']
      exact(hs9 b hb).2
    ·rcases hh with hh | hh
     ·exact hR.out b hb hh
     ·have:=(hs9 b hh).1
      have:=hR.dlt b hb
      omega
   have hgw:Grew w O (fun b=>O b\/s9.v.ownBlock=some b):=⟨fun _ h=>.inl h,fun b hb=>hb.imp_right fun h=>Nat.le_trans w7l (hs9 b h).1⟩
   have hno: ¬(O w1.heap.size\/s9.v.ownBlock=some w1.heap.size):=fun h=>by
    rcases h with h | h
    ·have:=hR.olt _ h
     omega
    ·have:=(hs9 _ h).1
     have:=hb7.size
     have:=hb6.size
     have:=hb5.size
     omega
   show Code.wp _ _ _ a9 (w9.setCells gr 0 [s9.v])
   generalize w9.setCells gr 0 [s9.v]=u9 at hBr9 hM9 hG9 hE9 hR9 ⊢
   refine wp_seq (rg_wp (e5_r11 (g6:=w4.heap.size) (ec:=(wrongA d zD).c) (ep:=0) (es:=⟨#[]⟩) (ew:=(wrongA d zD).w) (em:=(wrongA d zD).m) h9 rfl rfl (err_load hG9) (err_sto (hE9.drewN 1) (wrongA d zD)) fun a10 h10=>wp_ret ?_))
   exact fin (hE9.drewN 1) ⟨hM9.size,hM9.os,hM9.tape,hM9.output,hM9.block⟩ (hR9.old (below_drewN (Below.refl _ _) 1)) hgw hdr h10 rfl rfl hno (by rw[hgi];rfl)
end Go.Proofs.YtlhfickniegooaaDoor

namespace Go.Proofs.YtlhfickniegooaaDoor
open Go.RowKit
set_option maxRecDepth 100000
def zR:Re:=⟨zD,zD,m0,m0,0⟩
def turnI(L:List Re)(x:Re):Option Re:=match L.find? (fun y=>eqO y.k x.k) with
 | some y=>some y
 | none=>L.find? (fun y=>decide (y.n=x.n))
theorem re_load{w:World}{g o:Nat}{x:Re}(h:w.rangeAt g o x.cs.toList):Lds Tryd.prog reT (.pointer (some ⟨g,o,none⟩)) (.agg x.cs) w:=ldsA (cs:=x.cs.toList) Tryd.underlying110 rfl (by kernel_rfl) h
theorem re_sto{w:World}{g:Nat}{t:TypeId}{x:Re}(h:Blk w g t x.cs)(y:Re):(Instr.storeAt reT (.pointer (some ⟨g,0,none⟩)) (.agg y.cs)).run Tryd.prog w=.ok () (w.setCells g 0 y.cs.toList):=stsA (there_bk h (Nat.le_refl _)) (by kernel_rfl) (List.all_eq_true.2 (re_one y) |> fun e=>by rw[<-Array.all_toList];exact e)
theorem re_over{w:World}{g:Nat}{t:TypeId}{x:Re}(h:Blk w g t x.cs)(y:Re):Blk (w.setCells g 0 y.cs.toList) g t y.cs:=blk_over h _ (by kernel_rfl)
theorem re_num{w:World}{g o:Nat}{x:Re}(h:w.rangeAt g o x.cs.toList):Lds Tryd.prog 3 (.pointer (some ⟨g,o+22,none⟩)) (.int .i64 x.n) w:=lds1 Tryd.underlying3 rfl (h 22 _ rfl)
theorem range_ext{n0:Nat}{w w':World}{g o:Nat}{vs:List Value}(h:w.rangeAt g o vs)(e:Ext n0 w w'):w'.rangeAt g o vs:=fun j v hv=>cell_ext e (h j v hv)
def RTurn(L:List Re)(x:Re)(w:World)(e:Ending)(w':World):Prop:=Below w.heap.size w w'/\e=.returned (.tuple #[.agg ((turnI L x).getD zR).cs,.bool (turnI L x).isSome])
set_option maxHeartbeats 2000000 in
theorem rturn_any{w:World}{gr:Nat}{L:List Re}{many:Int}{D O:Nat->Prop}(hR:RefAt w gr L many D O)(hL:L.length<=200000000000){x:Re}{S:Nat->Prop}(ho:x.k.ok)(hd:x.k.at w S x.dk)(hr:rB x.k=true)(hk:kB x.k=true):
  Calls Tryd.prog 40 #[.pointer (some ⟨gr,0,none⟩),.agg x.cs] w (RTurn L x w):=by
 refine calls_ev (vs:=[.pointer (some ⟨gr,0,none⟩),.agg x.cs]) 49 Tryd.func40 e7_body (by kernel_rfl) (by simp) fun a0 h0=> ?_
 unfold e7Body
 refine wp_seq (rg_wp (e7_r0 h0 rfl fun a1 h1=> ?_))
 have hA1:=Blk.new w reT x.cs
 have hb1:=bl_alloc (Below.refl w.heap.size w) (.cells x.cs reT)
 generalize w.alloc (.cells x.cs reT)=w1 at h1 hA1 hb1 ⊢
 have lo1:w.heap.size<w1.heap.size:=hA1.lt
 have hZ2:Blk _ w1.heap.size reT zR.cs:=Blk.new w1 _ _
 have hab2:=bl_alloc (Below.refl w1.heap.size w1) (.cells zR.cs reT)
 have hA2:=hA1.below hab2 hA1.lt
 have hb2:=bl_trans hb1 hab2
 show Code.wp _ _ _ a1 (w1.alloc (.cells zR.cs reT))
 generalize w1.alloc (.cells zR.cs reT)=w2 at hZ2 hA2 hb2 ⊢
 have lo2:w1.heap.size<w2.heap.size:=hZ2.lt
 refine wp_seq (rg_wp (e7_r1 (C0:=fun u=>Below w2.heap.size w2 u) h1 rfl rfl (ldsA (cs:=(x.k.cs x.dk).toList) Tryd.underlying31 rfl (by kernel_rfl) (re_key (range_of hA2 0 23 (by rw[List.drop_zero];exact List.take_of_length_le (Nat.le_of_eq (re_len x)))))) (at_any (hR.old hb2) (by omega) ho (hd.old hb2) hr hk) fun a2 w3 hb3 h2=> ?_))
 have hb03:=bl_trans hb2 hb3
 have hR3:=hR.old hb03
 have hZ3:=hZ2.below hb3 hZ2.lt
 have hA3:=hA2.below hb3 hA2.lt
 obtain⟨s,hBr,hRow,hso⟩:=hR3.row
 have fin: ∀{a':Act} {l':List (Nat×Value)} {u:World} {y:Re} {b:Bool},Below w3.heap.size w3 u->Sl 49 a' l'->l'.lookup 4=some (.pointer (some ⟨w1.heap.size,0,none⟩))->l'.lookup 5=some (.bool b)->y=(turnI L x).getD zR->b=(turnI L x).isSome->
   bodyPost Tryd.prog Tryd.f40 (RTurn L x w) .ret a' (u.setCells w1.heap.size 0 y.cs.toList):=fun{a' l' u y b} hb h' q4 q5 ey eb=>by
  have k:=re_over (hZ3.below hb hZ3.lt) y
  exact ret_ct rfl h' q4 q5 (re_load (range_of k 0 23 (by rw[List.drop_zero];exact List.take_of_length_le (Nat.le_of_eq (re_len y))))) ⟨below_setCells _ _ _ (bl_trans hb03 hb) (by omega),by rw[ey,eb]⟩
 cases hf:L.find? (fun y=>eqO y.k x.k) with
 | some y=>
  have ht:turnI L x=some y:=by unfold turnI;rw[hf]
  obtain⟨X,Z,hXZ,_,hat,_⟩:=at_some hf
  rw[hat] at h2
  refine wp_seq (wp_seq (rg_wp (e7_r2 (b13:=true) h2 rfl (decide_eq_true (by omega)) fun a3 h3=>wp_cond_true (h3.look 13 rfl) ?_)))
  obtain⟨g,cur,hg,hsd,hsn,hlt,_,hgl,hBg,_,hra⟩:=hRow.at (j:=X.length) (x:=y) (by rw[hXZ];simp)
  have hsv:s.v=.slice (some ⟨g,0,none⟩) s.n s.c:=by unfold S3.v;rw[hsd]
  refine wp_seq (rg_wp (e7_r3 (dl:=some ⟨g,0,none⟩) (nl:=s.n) (ql:=s.c) (g19:=g) (o19:=X.length*23) (y:=y) h3 rfl rfl rfl (one_load hBr Tryd.underlying54 rfl (by rw[<-hsv];rfl)) (ix_at X.length rfl Tryd.underlying54 (by kernel_rfl) (by rw[hRow.2];exact hlt) rfl) (re_load hra) (re_sto hZ3 y) fun a4 h4=>wp_ret (then_ret ?_)))
  exact fin (Below.refl _ _) h4 rfl rfl (by rw[ht];rfl) (by rw[ht];rfl)
 | none=>
  have ht:turnI L x=L.find? (fun y=>decide (y.n=x.n)):=by unfold turnI;rw[hf]
  rw[at_none hf] at h2
  refine wp_seq (wp_seq (rg_wp (e7_r2 (b13:=false) h2 rfl (decide_eq_false (by omega)) fun a3 h3=>wpo (h3.look 13 rfl) ?_)))
  refine wp_seq (wp_seq (rg_wp (e7_r4 h3 fun a4 h4=> ?_)))
  have h4:Sl 49 a4 [(7,.int .i64 ((0:Nat):Int)),(4,.pointer (some ⟨w1.heap.size,0,none⟩)),(3,.pointer (some ⟨w.heap.size,0,none⟩)),(0,.pointer (some ⟨gr,0,none⟩))]:=h4.to ⟨rfl,rfl,rfl,rfl,trivial⟩
  refine wp_block ?_
  refine wp_loop (fun a' wr=> ∃j:Nat,j<=L.length/\(∀i y,i<j->L[i]? =some y->y.n≠x.n)/\Sl 49 a' [(7,.int .i64 (j:Int)),(4,.pointer (some ⟨w1.heap.size,0,none⟩)),(3,.pointer (some ⟨w.heap.size,0,none⟩)),(0,.pointer (some ⟨gr,0,none⟩))]/\Below w3.heap.size w3 wr)
   (fun a' _=>muTo L.length (slot a' 7)) ⟨0,Nat.zero_le _,fun i x h=>(by omega),h4,Below.refl _ _⟩ ?_
  rintro a5 w5 ⟨j,hj,hno,h5,hb5⟩
  rw[h5.look 7 rfl,muTo_int]
  unfold e7L0
  have hBr5:=hBr.below hb5 hBr.lt
  by_cases hlt:j<L.length
  ·refine wp_seq (wp_seq (rg_wp (e7_r5 (b27:=true) h5 rfl rfl (one_load hBr5 Tryd.underlying54 rfl rfl) (decide_eq_true (by rw[hRow.2];omega)) fun a6 h6=>wpn (h6.look 27 rfl) ?_)))
   obtain⟨y,hy⟩: ∃y,L[j]? =some y:=⟨L[j],by simp[hlt]⟩
   obtain⟨g,cur,hg,hsd,hsn,_,_,hgl,hBg,_,hra⟩:=hRow.at hy
   have hra5:=range_ext hra (Ext.of_below (B:=0) hb5 (Nat.zero_le _))
   have hsv:s.v=.slice (some ⟨g,0,none⟩) s.n s.c:=by unfold S3.v;rw[hsd]
   have hA5:=hA3.below hb5 hA3.lt
   have hx22:Lds Tryd.prog 3 (.pointer (some ⟨w.heap.size,22,none⟩)) (.int .i64 x.n) w5:=one_load hA5 Tryd.underlying3 rfl rfl
   refine wp_seq (wp_block (wp_seq (rg_wp (e7_r7 (dl:=some ⟨g,0,none⟩) (nl:=s.n) (ql:=s.c) (g35:=g) (o35:=j*23) (n1:=y.n) (n2:=x.n) h6 rfl rfl rfl (one_load hBr5 Tryd.underlying54 rfl (by rw[<-hsv];rfl)) (ix_at j rfl Tryd.underlying54 (by kernel_rfl) (by rw[hRow.2];exact hlt) rfl) (re_num hra5) hx22 rfl fun a7 mm h7=> ?_))))
   have hb57:=below_drewN hb5 mm
   by_cases he:y.n=x.n
   ·refine wp_cond_true ((h7.look 40 rfl).trans (by simp[he])) ?_
    refine wp_seq (rg_wp (e7_r8 (dl:=some ⟨g,0,none⟩) (nl:=s.n) (ql:=s.c) (g46:=g) (o46:=j*23) (y:=y) h7 rfl rfl rfl (one_load (hBr5.drewN mm) Tryd.underlying54 rfl (by rw[<-hsv];rfl)) (ix_at j rfl Tryd.underlying54 (by kernel_rfl) (by rw[hRow.2];exact hlt) rfl) (re_load (range_ext hra (Ext.of_below (B:=0) hb57 (Nat.zero_le _)))) (re_sto ((hZ3.below hb5 hZ3.lt).drewN mm) y) fun a8 h8=>wp_ret ?_))
    repeat (first | with_reducible refine then_ret ?_ | with_reducible refine block_ret ?_)
    have hfn:L.find? (fun y=>decide (y.n=x.n))=some y:=by
     rw[List.find?_eq_some_iff_getElem]
     refine⟨by simp[he],j,hlt,(List.getElem?_eq_some_iff.1 hy).2,fun i hi=> ?_⟩
     simpa using hno i L[i] hi (List.getElem?_eq_getElem (by omega))
    exact fin hb57 h8 rfl rfl (by rw[ht,hfn];rfl) (by rw[ht,hfn];rfl)
   ·refine wpc_off ((h7.look 40 rfl).trans (by simp[he])) ?_
    refine wpl (rg_wp (e7_r6 h7 rfl (by omega) fun a8 h8=>⟨⟨j+1,by omega,fun i z hi hz=> ?_,h8.to ⟨rfl,rfl,rfl,rfl,trivial⟩,hb57⟩, ?_⟩))
    ·by_cases hij:i<j
     ·exact hno i z hij hz
     ·have:i=j:=by omega
      subst this
      rw[hy] at hz
      injection hz with hz
      rw[<-hz]
      exact he
    ·rw[h8.look 7 rfl,show((j:Int)+1)=((j+1:Nat):Int) by simp,muTo_int]
     omega
  ·refine wp_seq (wp_seq (rg_wp (e7_r5 (b27:=false) h5 rfl rfl (one_load hBr5 Tryd.underlying54 rfl rfl) (decide_eq_false (by rw[hRow.2];omega)) fun a6 h6=>wpx (h6.look 27 rfl) ?_)))
   refine then_exit' (in_block2 ?_)
   show Code.wp _ (Code.seq (r_e7 9) .ret) _ a6 w5
   have hfn:L.find? (fun y=>decide (y.n=x.n))=none:=by
    rw[List.find?_eq_none]
    intro y hy
    obtain⟨i,hi,e⟩:=List.getElem_of_mem hy
    have:=hno i y (by omega) (by rw[<-e];exact List.getElem?_eq_getElem hi)
    simpa using this
   refine wp_seq (rg_wp (e7_r9 h6 rfl (re_sto (hZ3.below hb5 hZ3.lt) zR) fun a7 h7=>wp_ret ?_))
   exact fin (y:=zR) hb5 h7 rfl rfl (by rw[ht,hfn];rfl) (by rw[ht,hfn];rfl)
end Go.Proofs.YtlhfickniegooaaDoor
