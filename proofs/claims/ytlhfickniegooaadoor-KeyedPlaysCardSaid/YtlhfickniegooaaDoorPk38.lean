/-
   Written by an AI agent.
-/
import Derived.Test.YtlhfickniegooaaDoorPk37
namespace Go.Proofs.YtlhfickniegooaaDoor
open Go.RowKit Go.Sort
set_option maxRecDepth 100000
section
variable {q:OvP} {s:St} {n0 tn:Nat} {a:Act} {W:World} {Q:Exit->Act->World->Prop} {R0:List En} {many0:Int} {df:List Deferred}
set_option maxHeartbeats 4000000 in
theorem ov_end(hq:q.ok)(hS:PS q.c s W)(hM:OvM q n0 tn false W)(hRL:RL R0 q.was many0)(hR0:RtE R0)(hev:Evo q.was many0 (s.L q.k) (s.many q.k))(hoks: ∀x∈q.was,(x.k.ok/\x.v.ok)/\(rB x.k=true/\kB x.k=true)/\rB x.v=true)(fr: ∀b,q.lo<=b->b<q.B->∀i,¬s.S i b)
  (hE:Ended q.wk (s.R q.k) R0 n0) (hn0:n0<=R0.length) (hlen:(s.L q.k).length<=200000000000/\q.was.length<=200000000000) (ha:Sl 133 a [(13,.pointer (some ⟨q.g13,0,none⟩)),(12,.pointer (some ⟨q.g12,0,none⟩)),(11,.pointer (some ⟨q.g11,0,none⟩)),(10,.pointer (some ⟨q.g10,0,none⟩)),(9,.pointer (some ⟨q.g9,0,none⟩)),(8,.pointer (some ⟨q.g8,0,none⟩)),(6,.pointer (some ⟨q.g6,0,none⟩)),(5,.pointer (some ⟨q.g5,0,none⟩))] df)
  (hQ: ∀(a':Act) (W':World) (n':Nat),Sl 133 a' [(10,.pointer (some ⟨q.g10,0,none⟩))] df->PS q.c s W'->OvM q n' tn true W'->MovC (fun b=>b=q.g12\/b=q.g10) W W'->Q .ret a' W'):
  (Code.seq (.block 4 (.loop ovL0)) (.seq (r_ov 39) .ret)).wp Tryd.prog Q a W:=by
 have hR0l:=hRL.len
 have hB12:=hq.in (g:=q.g12) (by simp[OvP.all])
 have hB10:=hq.in (g:=q.g10) (by simp[OvP.all])
 have hRt:=(hS.mem.map q.k hq.hk).rt.1
 have hSL:=hS.rel q.k hq.hk
 have hlo0:=hq.lo0
 have fin: ∀(a':Act) (V:World) (n:Nat),Sl 133 a' [(13,.pointer (some ⟨q.g13,0,none⟩)),(12,.pointer (some ⟨q.g12,0,none⟩)),(11,.pointer (some ⟨q.g11,0,none⟩)),(10,.pointer (some ⟨q.g10,0,none⟩)),(9,.pointer (some ⟨q.g9,0,none⟩)),(8,.pointer (some ⟨q.g8,0,none⟩)),(6,.pointer (some ⟨q.g6,0,none⟩)),(5,.pointer (some ⟨q.g5,0,none⟩))] df->PS q.c s V->OvM q n tn false V->MovC (fun b=>b=q.g12\/b=q.g10) W V->(Code.seq (r_ov 39) .ret).wp Tryd.prog Q a' V:=fun a' V n g1 g2 g3 g4=>by
  refine wp_seq (rg_wp (ov_r39 g1 rfl (g3.s10 true) fun a2 h2=>wp_ret ?_))
  exact hQ a2 _ n (h2.to ⟨rfl,trivial⟩) (g2.moved (MovC.one ⟨_,_,g3.b10⟩ _ _) (fun b e i=>e ▸ fr _ hB10.1 hB10.2 i) (fun b e=>by omega)) (g3.set10 hq true) (g4.set (fun _=>.inr rfl) ⟨_,_,g3.b10⟩ _ _)
 refine wp_seq (wp_block ?_)
 refine wp_loop (fun a' V=> ∃n:Nat,n0<=n/\n<=R0.length/\Sl 133 a' [(13,.pointer (some ⟨q.g13,0,none⟩)),(12,.pointer (some ⟨q.g12,0,none⟩)),(11,.pointer (some ⟨q.g11,0,none⟩)),(10,.pointer (some ⟨q.g10,0,none⟩)),(9,.pointer (some ⟨q.g9,0,none⟩)),(8,.pointer (some ⟨q.g8,0,none⟩)),(6,.pointer (some ⟨q.g6,0,none⟩)),(5,.pointer (some ⟨q.g5,0,none⟩))] df/\PS q.c s V/\OvM q n tn false V/\MovC (fun b=>b=q.g12\/b=q.g10) W V) (fun _ V=>muC R0.length q.g12 V) ⟨n0,Nat.le_refl _,hn0,ha,hS,hM,MovC.of_below (Below.refl _ _)⟩ ?_
 rintro a1 V ⟨n,hn1,hn2,h1,hSV,hMV,hmV⟩
 rw[muC_eq hMV.b12]
 unfold ovL0
 have hsn:q.s3.n=q.was.length:=hMV.row.2
 by_cases hlt:n<R0.length
 ·refine wp_seq (wp_seq (rg_wp (ov_r32 (b112:=true) h1 rfl rfl hMV.l12 hMV.l11 (decide_eq_true (by omega)) fun a2 h2=>wpn (h2.look 112 rfl) ?_)))
  obtain⟨x,hx⟩: ∃x,q.was[n]? =some x:=⟨q.was[n]'(by omega),List.getElem?_eq_getElem _⟩
  have hxm:=List.mem_of_getElem? hx
  obtain⟨g,hix,_,_,hld⟩:=hMV.nth hx
  obtain⟨ox1,ox2,_⟩:=hoks x hxm
  have hwk:q.wk=true:=by
   cases hw:q.wk with
   | true=>rfl
   | false=>
    unfold Ended at hE
    rw[hw,if_neg (by simp)] at hE
    omega
  unfold Ended at hE
  rw[if_pos hwk] at hE
  obtain⟨x',hx',_,hg⟩:=gone_turn hRL hR0 hev hSL hRt hE (i:=n) hn1 hlt (Nat.le_refl _)
  rw[hx] at hx'
  injection hx' with hx'
  subst hx'
  refine wp_seq (wp_block (wp_seq (rg_wp (ov_r34 (wk:=true) h2 rfl (by rw[<-hwk];exact hMV.l8) fun a3 h3=> ?_))))
  refine wp_seq (wp_seq (rg_wp (ov_r35 (wk:=true) h3 rfl (by rw[<-hwk];exact hMV.l8) fun a4 h4=>wp_cond_true (h4.look 117 rfl) ?_)))
  have hdr:=below_drewN (Below.refl V.heap.size V) 1
  have hrt:=rturn_any ((hSV.old hdr).mem.ref q.k hq.hk) hlen.1 ox1.1 ((hMV.dat x hxm).1.old hdr) ox2.1 ox2.2
  refine rg_wp (ov_r36 (C:=fun u=>Below V.heap.size V u) (x:=x) (y:=(turnI (s.L q.k) x).getD zR) (b61:=false) (C0:=fun u=>Below V.heap.size V u) h4 rfl rfl rfl rfl hdr (fun u hu=>(hMV.old hu).l5) (fun u hu=>(hMV.old hu).l6) (ix_r hq.hk q.c.gw) (fun u hu=>(hSV.mem.old hu).ldr hq.hk) (fun u hu=>(hMV.old hu).l11) (fun u hu=>(hMV.old hu).l12) hix (fun u hu=>hld hu)
    (hrt.mono fun e u hh=>⟨by rw[hh.2,hg];rfl,bl_trans hdr hh.1⟩) (fun _ h=>h) fun a5 V2 hb2 h5=> ?_)
  refine wp_seq (rg_wp (ov_r37 (b21:=false) h5 rfl fun a6 h6=>wpc_off (h6.look 132 rfl) (block_norm ?_)))
  have hM2:=hMV.old hb2
  have hS2:=hSV.old hb2
  have m12:OvM q (n+1) tn false (V2.setCells q.g12 0 [.int .i64 ((n:Int)+1)]):=by
   have:=hM2.set12 hq (n+1)
   simpa using this
  show Code.wp _ (r_ov 33) _ a6 V2
  refine wpl (rg_wp (ov_r33 (n:=n) h6 rfl hM2.l12 (by omega) (hM2.s12 _) fun a7 h7=>⟨⟨n+1,by omega,hlt,h7.to ⟨rfl,rfl,rfl,rfl,rfl,rfl,rfl,rfl,trivial⟩,hS2.moved (MovC.one ⟨_,_,hM2.b12⟩ _ _) (fun b e i=>e ▸ fr _ hB12.1 hB12.2 i) (fun b e=>by omega),m12,(hmV.below hb2).set (fun _=>.inl rfl) ⟨_,_,hM2.b12⟩ _ _⟩, ?_⟩))
  show muC _ q.g12 (V2.setCells q.g12 0 [.int .i64 ((n:Int)+1)])<_
  rw[muC_eq m12.b12]
  omega
 ·refine wp_seq (wp_seq (rg_wp (ov_r32 (b112:=false) h1 rfl rfl hMV.l12 hMV.l11 (decide_eq_false (by omega)) fun a2 h2=>wpx (h2.look 112 rfl) ?_)))
  exact then_exit' (in_block2 (fin a2 V n (h2.to ⟨rfl,rfl,rfl,rfl,rfl,rfl,rfl,rfl,trivial⟩) hSV hMV hmV))
end
structure ItG (wk:Bool) (fn:FuncId) {α:Type} (hn:α->Hn) (nxt:List α->Nat) (rs:St->List En) (R0:List En) (gc m:Nat) (w0:World) (Y:St->List α->α->(Nat->Prop)->World->Prop) (E:St->List α->World->Prop):Prop where
 seq:SeqZ Tryd.prog fn #[.pointer (some ⟨gc,0,none⟩)] (fun x=>(hn x).encs) (ItM rs R0 gc m) Y E w0
 eg: ∀args w,(callFunc fn args).run Tryd.prog w=.ok (.enter fn args) w
 nil:nxt []=0
 told: ∀st pre x Hd A,Y st pre x Hd A->∃j,Told wk (rs st) R0 (nxt pre) j (hn x).k (hn x).v/\nxt (pre++[x])=j+1/\(hn x).at Hd A
 ended: ∀st xs A,E st xs A->Ended wk (rs st) R0 (nxt xs)
 yext: ∀B st s x Hd A C,Y st s x Hd A->Ext B A C->Y st s x Hd C
 eext: ∀B st s A C,E st s A->Ext B A C->E st s C
theorem it_all(rs:St->List En)(R0:List En)(gc m:Nat)(w0:World):ItG false 30 (fun x:Hn=>x) List.length rs R0 gc m w0 (AllY R0) (AllE R0) where
 seq:=all_seq rs R0 gc m w0
 eg:=Go.Proofs.enters_of Tryd.func30 (by kernel_rfl) rfl
 nil:=rfl
 told:=fun st pre x Hd A h=>⟨pre.length,allY_told h,by simp,h.2⟩
 ended:=fun st xs A h=>by
  unfold Ended
  rw[if_neg (by simp)]
  exact h
 yext:=fun B st s x Hd A C h e=>⟨h.1,h.2.ext e⟩
 eext:=fun B st s A C h _=>h
theorem it_walk(rs:St->List En)(R0:List En)(gc m:Nat)(w0:World):ItG true 27 Wn.h nx rs R0 gc m w0 (WalkY rs R0) (WalkE rs R0) where
 seq:=walk_seq rs R0 gc m w0
 eg:=Go.Proofs.enters_of Tryd.func27 (by kernel_rfl) rfl
 nil:=rfl
 told:=fun st pre x Hd A h=>⟨x.j,walkY_told h,nx_snoc pre x,h.2.2.2⟩
 ended:=fun st xs A h=>by
  unfold Ended
  rw[if_pos rfl]
  exact h
 yext:=fun B st s x Hd A C h e=>⟨h.1,h.2.1,h.2.2.1,h.2.2.2.ext e⟩
 eext:=fun B st s A C h _=>h
theorem keeps_movC{T:Nat->Prop}{B:Nat}{W W':World}(h:MovC T W W'):KeepsFrom B W W':=⟨h.size,fun k o _ hk ho=>(h.block k (Array.getElem?_eq_some_iff.1 hk).1 (fun⟨_,t,cs,hc⟩=>by
 have hc:W.heap[k]? =some (.cells cs t (0,0)):=hc
 rw[hk] at hc
 injection hc with hc
 subst hc
 cases ho)).trans hk⟩
theorem Nx.ext{s s':St}{w w' w2:World}{p q B:Nat}(h:Nx s s' w w' p q)(e:Ext B w' w2)(hB:w.heap.size<=B):Nx s s' w w2 p q:=⟨Moved.ext h.mov e hB,h.grew,h.evo,h.len,h.num⟩
end Go.Proofs.YtlhfickniegooaaDoor

namespace Go.Proofs.YtlhfickniegooaaDoor
open Go.RowKit Go.Sort
set_option maxRecDepth 100000
theorem Sl.yield2{n:Nat}{a:Act}{l:List (Nat×Value)}{df:List Deferred}(h:Sl n a l df)(p q:Nat)(hp:p<n)(hq:q<n)(v z:Value):Sl n {tmps:=(#[p,q].zip #[v,z]).foldl (fun t (x:Nat×Value)=>t.setIfInBounds x.1 x.2) a.tmps,defers:=[]} ((q,z)::dropL [q] ((p,v)::dropL [p] l)):=by
 have h2:=(h.yield1 p hp v).yield1 q hq z
 have e:(#[p,q].zip #[v,z]).foldl (fun t (x:Nat×Value)=>t.setIfInBounds x.1 x.2) a.tmps=(#[q].zip #[z]).foldl (fun t (x:Nat×Value)=>t.setIfInBounds x.1 x.2) ((#[p].zip #[v]).foldl (fun t (x:Nat×Value)=>t.setIfInBounds x.1 x.2) a.tmps):=by simp
 rw[e]
 exact h2
theorem results_cell{P:Program}{fn:Func}{a:Act}{w:World}{n c:Nat}{l:List (Nat×Value)}{df:List Deferred}{ty:TypeId}{p:Addr}{z:Value}(hr:fn.results=#[.cell c ty])(hs:Sl n a l df)(e3:l.lookup c=some (.pointer (some p)))(hl:Lds P ty (.pointer (some p)) z w):(results fn a.tmps).run P w=.ok z w:=by
 have h1:=hs.look c e3
 unfold slot at h1
 simp only[Array.getD_eq_getD_getElem?] at h1
 simp[results,hr,h1,asAddr,var_run hl]
theorem eql_fn(fn:FuncId)(g:Nat)(w:World):(binOp .eql 41 (.func (.func fn) #[] #[.pointer (some ⟨g,0,none⟩)]) .nilFunc).run Tryd.prog w=.ok (.bool false) w:=by kernel_rfl
def OvR(c:PlC)(s0:St)(w:World)(PB QO:Nat)(e:Ending)(w':World):Prop:=e=.returned (.bool true)/\∃s',PS c s' w'/\Nx s0 s' w w' PB QO
section
variable {q:OvP} {s0:St} {M N0 PB IB gc:Nat} {a:Act} {w wB:World} {R0:List En} {many0:Int} {α:Type} {fn:FuncId} {hn:α->Hn} {nxt:List α->Nat} {Y:St->List α->α->(Nat->Prop)->World->Prop} {E:St->List α->World->Prop}
set_option maxHeartbeats 8000000 in
theorem ov_range(it:ItG q.wk fn hn nxt (fun st=>st.R q.k) (s0.R q.k) gc (q.c.gm q.k) wB Y E)(hq:q.ok)(hown:OwnAt q.c.w0)(hS:PS q.c s0 wB)(hM:OvM q 0 0 false wB)(hw:w.heap.size=q.lo)(hB:wB.heap.size=q.B)(hN:Nx s0 s0 w wB 0 0)(hSl: ∀i b,s0.S i b->b<q.lo)
  (hwas:q.was=s0.L q.k) (hT:q.T=fun b=>s0.S (4*q.k+2) b) (hgc:Blk w gc mpT #[pv (q.c.gm q.k)]) (fgc:Free s0 gc) (hbw:Below w.heap.size w wB)
  (hso:SpOk q.c.w0 q.o) (hb0:BdO s0 M N0) (hM5:M<=5000) (hNN:N0+3000000+IB<=100000000000) (hin:q.o.inn≠0->InnerC q.c q.k q.o M (N0+1100000) PB IB) (hPB:PB<=1000)
  (ha:Sl 133 a [(2,.func (.func fn) #[] #[.pointer (some ⟨gc,0,none⟩)]),(13,.pointer (some ⟨q.g13,0,none⟩)),(12,.pointer (some ⟨q.g12,0,none⟩)),(11,.pointer (some ⟨q.g11,0,none⟩)),(10,.pointer (some ⟨q.g10,0,none⟩)),(9,.pointer (some ⟨q.g9,0,none⟩)),(8,.pointer (some ⟨q.g8,0,none⟩)),(6,.pointer (some ⟨q.g6,0,none⟩)),(5,.pointer (some ⟨q.g5,0,none⟩))]):
  (Code.seq (.seq (r_ov 6) (.block 0 (.rangeFunc (.tmp 31) #[32,33] (.seq (r_ov 7) (r_ov 8)) (.block 1 (.seq (r_ov 9) (.seq (r_ov 10) (.seq (.block 2 (.loop ovL1)) ovA))))))) (.seq (.block 4 (.loop ovL0)) (.seq (r_ov 39) .ret))).wp Tryd.prog
   (bodyPostM Fence.wide 9 Tryd.prog Tryd.f31 (OvR q.c s0 w PB (1000000+IB))) a wB:=by
 have hlo0:=hq.lo0
 have hloB:=hq.loB
 have hRL:=hS.rel q.k hq.hk
 have hRf:=hS.mem.ref q.k hq.hk
 have hRt:=(hS.mem.map q.k hq.hk).rt.1
 have hRlen:=hRL.len
 have hb0k:=hb0.1 q.k hq.hk
 rw[<-hwas] at hRL hRlen
 have hoks: ∀x∈q.was,(x.k.ok/\x.v.ok)/\(rB x.k=true/\kB x.k=true)/\rB x.v=true:=fun x hx=>hRf.oks x (hwas ▸ hx)
 have hwl:q.was.length<=M:=by rw[hwas];exact hb0k.1
 have hB10:=hq.in (g:=q.g10) (by simp[OvP.all])
 have hB12:=hq.in (g:=q.g12) (by simp[OvP.all])
 have qBd: ∀t,t<=M->qI q.o IB t<=1000000+IB:=fun t ht=>by unfold qI;split<;>omega
 have pBd: ∀t,pI q.o PB t<=PB:=fun t=>by unfold pI;split<;>omega
 have out: ∀(a':Act) (W:World) (s':St) (n tn:Nat),Sl 133 a' [(10,.pointer (some ⟨q.g10,0,none⟩))] [{target:=.collected wB.heap.size,args:=#[]}]->PS q.c s' W->OvM q n tn true W->Nx s0 s' w W PB (1000000+IB)->W.heap[wB.heap.size]? =some (.deferred (some []))->
   LeavesInM Fence.wide 9 Tryd.prog Tryd.f31 a'.tmps (OvR q.c s0 w PB (1000000+IB)) a'.defers .returning W:=fun a' W s' n tn g1 g2 g3 g4 g5=>by
  rw[g1.defers]
  exact leaves_ok (ds:=[wB.heap.size]) wB.heap.size _ (by simp) (fun D hD'=>by rw[List.mem_singleton.1 hD'];exact⟨Nat.le_refl _,g5⟩) fun W' hx=>⟨.bool true,results_cell rfl g1 rfl (one_load (g3.b10.ext hx) Tryd.underlying4 rfl rfl),rfl,s',g2.ext hx (by omega),g4.ext hx (by omega)⟩
 refine wp_seq (wp_seq (rg_wp (ov_r6 ha rfl fun a1 h1=> ?_)))
 refine wp_block ?_
 refine range_z (σ:=St) (g:=.tmp 31) (ps:=#[32,33]) (gf:=fn) (lb:=#[.pointer (some ⟨gc,0,none⟩)]) (h1.look 31 rfl) it.eg it.seq (Below.refl _ _) (fun _=>rfl)
  (fun st b=>b<q.B\/∃i,st.S i b)
  (fun st pre A=>PS q.c st A/\OvM q (nxt pre) pre.length false A/\Nx s0 st w A (pI q.o PB pre.length) (qI q.o IB pre.length)/\q.B<=A.heap.size/\(∀b,q.lo<=b->b<q.B->∀i,¬st.S i b)/\pre.length<=nxt pre/\nxt pre<=(s0.R q.k).length/\(pre=[]->st.R q.k=s0.R q.k))
  (fun c st pre A=>c=.ret/\PS q.c st A/\(∃n tn,OvM q n tn true A)/\Nx s0 st w A PB (1000000+IB)) ?hI ?hIx ?hM ?hO (fun st s x Hd A C h e=>it.yext _ st s x Hd A C h e) s0 ?h0
  (fun st x Hd a' A=> ∃g14 g15,Sl 133 a' [(15,.pointer (some ⟨g15,0,none⟩)),(14,.pointer (some ⟨g14,0,none⟩)),(13,.pointer (some ⟨q.g13,0,none⟩)),(12,.pointer (some ⟨q.g12,0,none⟩)),(11,.pointer (some ⟨q.g11,0,none⟩)),(10,.pointer (some ⟨q.g10,0,none⟩)),(9,.pointer (some ⟨q.g9,0,none⟩)),(8,.pointer (some ⟨q.g8,0,none⟩)),(6,.pointer (some ⟨q.g6,0,none⟩)),(5,.pointer (some ⟨q.g5,0,none⟩))]/\Blk A g14 dtT ((hn x).k.cs (hn x).dk)/\Blk A g15 dtT ((hn x).v.cs (hn x).dv)/\(q.B<=g14/\(∀i,¬st.S i g14)/\¬Hd g14)/\(q.B<=g15/\(∀i,¬st.S i g15)/\¬Hd g15)) ?hAx ?ha ?hb ?hd ?hs (fun st s A C h e=>it.eext _ st s A C h e)
 case hI=>
  rintro st pre A C ⟨q1,q2,q3,q4,q5,q6,q7,q8⟩ e
  exact⟨q1.ext e (by omega),q2.ext e,q3.ext e (by omega),Nat.le_trans q4 e.size,q5,q6,q7,q8⟩
 case hIx=>
  rintro c st pre A C ⟨q1,q2,⟨n,tn,q3⟩,q4⟩ e
  exact⟨q1,q2.ext e (by omega),⟨n,tn,q3.ext e⟩,q4.ext e (by omega)⟩
 case hM=>
  rintro st pre A ⟨q1,q2,q3,q4,q5,q6,q7,q8⟩
  have hc:=q3.blk hgc fgc
  have hl:=q3.len q.k hq.hk
  have hrl:=(q1.rel q.k hq.hk).len
  have:=pBd pre.length
  exact⟨by rw[hc.cell];rfl,⟨_,_,q1.mem.map q.k hq.hk⟩,by show(st.R q.k).length<=_;omega,q8,q1.mem.own hown⟩
 case hO=>
  rintro st pre A ⟨q1,q2,q3,q4,q5,q6,q7,q8⟩ b hb
  rcases hb with hb | ⟨i,hb⟩
  ·omega
  ·exact(q1.mem.low i b hb).2
 case h0=>
  refine⟨hS,by rw[it.nil];exact hM, ?_,by omega,fun b r1 r2 i hs=>by have:=hSl i b hs;omega,by rw[it.nil];exact Nat.le_refl _,by rw[it.nil];exact Nat.zero_le _,fun _=>rfl⟩
  exact hN.more (Nat.zero_le _) (Nat.zero_le _)
 case hAx=>
  rintro st x Hd a' A C ⟨g14,g15,x1,x2,x3,x4,x5⟩ e
  exact⟨g14,g15,x1,x2.ext e,x3.ext e,x4,x5⟩
 case ha=>
  rintro l st pre x Hd W Kn ⟨q1,q2,q3,q4,q5,q6,q7,q8⟩ hy hHd hK
  refine wpsI (ov_r7 (dk:=(hn x).k) (mk:=(hn x).dk) (h1.yield2 32 33 (by omega) (by omega) _ _) rfl (dat_put (Blk.new W dtT zeroC) (Nat.le_refl _) _ _) fun a2 h2=> ?_) (by kernel_rfl) (fun⟨_,_,h⟩=>h)
  have hB2:=dat_over (Blk.new W dtT zeroC) rfl (hn x).k (hn x).dk
  have hb2:Below W.heap.size W ((W.alloc (.cells zeroC dtT)).setCells W.heap.size 0 ((hn x).k.cs (hn x).dk).toList):=below_setCells _ _ _ (bl_alloc (Below.refl _ _) _) (Nat.le_refl _)
  show Code.wpIn _ _ _ _ _ a2 ((W.alloc (.cells zeroC dtT)).setCells W.heap.size 0 ((hn x).k.cs (hn x).dk).toList)
  generalize (W.alloc (.cells zeroC dtT)).setCells W.heap.size 0 ((hn x).k.cs (hn x).dk).toList=W2 at hB2 hb2 ⊢
  have l2:=hB2.lt
  refine rg_in (ov_r8 (dv:=(hn x).v) (mv:=(hn x).dv) h2 rfl (dat_put (Blk.new W2 dtT zeroC) (Nat.le_refl _) _ _) fun a3 h3=> ?_) (by kernel_rfl) (fun⟨_,_,h⟩=>h)
  have hB3:=dat_over (Blk.new W2 dtT zeroC) rfl (hn x).v (hn x).dv
  have hb3:Below W2.heap.size W2 ((W2.alloc (.cells zeroC dtT)).setCells W2.heap.size 0 ((hn x).v.cs (hn x).dv).toList):=below_setCells _ _ _ (bl_alloc (Below.refl _ _) _) (Nat.le_refl _)
  have sl: ∀i b,st.S i b->b<W.heap.size:=fun i b r=>(q1.mem.low i b r).2
  exact hK a3 _ (bl_trans hb2 hb3) ⟨_,_,h3.to ⟨rfl,rfl,rfl,rfl,rfl,rfl,rfl,rfl,rfl,rfl,trivial⟩,hB2.below hb3 l2,hB3,⟨q4,fun i r=>by have:=sl i _ r;omega,fun r=>by have:=(hHd _ r).2;omega⟩,⟨by omega,fun i r=>by have:=sl i _ r;omega,fun r=>by have:=(hHd _ r).2;omega⟩⟩
 case hb=>
  rintro l st pre x Hd a2 W ⟨q1,q2,q3,q4,q5,q6,q7,q8⟩ hy hHd ⟨g14,g15,x1,x2,x3,x4,x5⟩
  obtain⟨j,ht,hnx,hxat⟩:=it.told st pre x Hd W hy
  have htl:=ht.lt
  have tf: ∀b,q.T b->Free st b:=fun b hb=>by
   rw[hT] at hb
   refine q3.free (by have:=hSl _ b hb;omega) (fun i hi hs=> ?_)
   have e:i≠4*q.k+2:=fun e=>by
    subst e
    unfold wr at hi
    have:=hq.hk
    omega
   exact hS.mem.dis i _ b e hs hb
  refine ov_round (fun⟨_,_,h⟩=>h) hq q1 q2 hw q4 q3 q5 tf hRL hRt (by rw[hwas];exact q3.evo q.k hq.hk) hoks ht hxat hHd x2 x3 x4 x5 hso hb0 (by omega) hM5 hNN hwl hin hPB x1 fun a' W' s' e g1 g2 g3 g4 g5=> ?_
  have hst:Step (fun(st:St) b=>b<q.B\/∃i,st.S i b) st s' Hd W W':=⟨Moved.more g4 (fun b r=>by
   rcases r.1 with r | r | r
   ·exact .inl (.inl r)
   ·exact .inl (.inr r)
   ·exact .inr r),fun b r=>by
   rcases r with r | ⟨i,r⟩
   ·exact .inl (.inl r)
   ·rcases g5 i b r with r | r | r
    ·exact .inl (.inr ⟨i,r⟩)
    ·exact .inr (.inl r)
    ·exact .inr (.inr r)⟩
  have hlen:(pre++[x]).length=pre.length+1:=by simp
  cases e with
  | true=>exact⟨keeps_movC g4,s',⟨rfl,g1,⟨_,_,g2⟩,g3.more (pBd _) (qBd _ (by omega))⟩,hst⟩
  | false=>
   refine⟨keeps_movC g4,s',⟨g1,by rw[hnx,hlen];exact g2,by rw[hlen];exact g3,Nat.le_trans q4 g4.size,fun b r1 r2 i hs=> ?_,by rw[hnx,hlen];omega,by rw[hnx];omega,fun h=>absurd h (by simp)⟩,hst⟩
   rcases g5 i b hs with r | r | r
   ·exact q5 b r1 r2 i r
   ·exact(hHd b r).1 (.inl r2)
   ·omega
 case hd=>
  rintro st xs W hE ⟨q1,q2,q3,q4,q5,q6,q7,q8⟩ hD
  have hDlt:=(Array.getElem?_eq_some_iff.1 hD).1
  refine block_norm ?_
  have h5:Sl 133 {a1 with defers:={target:=.collected wB.heap.size,args:=#[]}::a1.defers} [(13,.pointer (some ⟨q.g13,0,none⟩)),(12,.pointer (some ⟨q.g12,0,none⟩)),(11,.pointer (some ⟨q.g11,0,none⟩)),(10,.pointer (some ⟨q.g10,0,none⟩)),(9,.pointer (some ⟨q.g9,0,none⟩)),(8,.pointer (some ⟨q.g8,0,none⟩)),(6,.pointer (some ⟨q.g6,0,none⟩)),(5,.pointer (some ⟨q.g5,0,none⟩))] [{target:=.collected wB.heap.size,args:=#[]}]:=by
   have h6:=h1.to (l0:=[(13,.pointer (some ⟨q.g13,0,none⟩)),(12,.pointer (some ⟨q.g12,0,none⟩)),(11,.pointer (some ⟨q.g11,0,none⟩)),(10,.pointer (some ⟨q.g10,0,none⟩)),(9,.pointer (some ⟨q.g9,0,none⟩)),(8,.pointer (some ⟨q.g8,0,none⟩)),(6,.pointer (some ⟨q.g6,0,none⟩)),(5,.pointer (some ⟨q.g5,0,none⟩))]) ⟨rfl,rfl,rfl,rfl,rfl,rfl,rfl,rfl,trivial⟩
   exact⟨h6.size,by simp[h6.defers],h6.known⟩
  have hll:=q3.len q.k hq.hk
  have:=pBd xs.length
  refine ov_end hq q1 q2 hRL hRt (by rw[hwas];exact q3.evo q.k hq.hk) hoks q5 (it.ended st xs W hE) q7 ⟨by omega,by omega⟩ h5 fun a' W' n' g1 g2 g3 g4=> ?_
  refine out a' W' st n' xs.length g1 g2 g3 ((q3.more (pBd _) (qBd _ (by omega))).post g4 (fun b r e=>by omega)) ?_
  refine(g4.block _ hDlt (fun r=> ?_)).trans hD
  rcases r.1 with e | e
  ·omega
  ·omega
 case hs=>
  rintro c st pre W ⟨rfl,q2,⟨n,tn,q3⟩,q4⟩ hD
  refine wp_ret ?_
  have h5:Sl 133 {a1 with defers:={target:=.collected wB.heap.size,args:=#[]}::a1.defers} [(10,.pointer (some ⟨q.g10,0,none⟩))] [{target:=.collected wB.heap.size,args:=#[]}]:=by
   have h6:=h1.to (l0:=[(10,.pointer (some ⟨q.g10,0,none⟩))]) ⟨rfl,trivial⟩
   exact⟨h6.size,by simp[h6.defers],h6.known⟩
  exact out _ W st n tn h5 q2 q3 q4 hD
end
end Go.Proofs.YtlhfickniegooaaDoor

namespace Go.Proofs.YtlhfickniegooaaDoor
open Go.RowKit Go.Sort
set_option maxRecDepth 100000
theorem RowE.zero{w:World}{B:Nat}{s:S3}{L:List Re}(h:RowE w B s L):RowE w 0 s L:=⟨⟨h.1.1,h.1.2.imp_right fun⟨g,cap,cur,q1,_,q3⟩=>⟨g,cap,cur,q1,Nat.zero_le _,q3⟩⟩,h.2⟩
section
variable {c:PlC} {s0:St} {k M N0 PB IB gc:Nat} {w:World} {wk:Bool} {o:Sp} {α:Type} {fn:FuncId} {hn:α->Hn} {nxt:List α->Nat} {Y:St->List α->α->(Nat->Prop)->World->Prop} {E:St->List α->World->Prop}
set_option maxHeartbeats 8000000 in
theorem over_g(it: ∀wB,ItG wk fn hn nxt (fun st=>st.R k) (s0.R k) gc (c.gm k) wB Y E)(hown:OwnAt c.w0)(hS:PS c s0 w)(hk:k<2)(hgc:Blk w gc mpT #[pv (c.gm k)])(fgc:Free s0 gc)(hso:SpOk c.w0 o)(hb0:BdO s0 M N0)(hM5:M<=5000)(hNN:N0+3000000+IB<=100000000000)(hin:o.inn≠0->InnerC c k o M (N0+1100000) PB IB)(hPB:PB<=1000):
  Calls Tryd.prog 31 #[.pointer (some ⟨c.gw,0,none⟩),.int .i64 (k:Int),.func (.func fn) #[] #[.pointer (some ⟨gc,0,none⟩)],.bool wk,.agg o.cs] w (OvR c s0 w PB (1000000+IB)):=by
 have hSl: ∀i b,s0.S i b->b<w.heap.size:=fun i b r=>(hS.mem.low i b r).2
 have hw0:=hS.mem.bel.size
 have hb0k:=hb0.1 k hk
 refine calls_evM (vs:=[.pointer (some ⟨c.gw,0,none⟩),.int .i64 (k:Int),.func (.func fn) #[] #[.pointer (some ⟨gc,0,none⟩)],.bool wk,.agg o.cs]) 133 Tryd.func31 ov_body (by kernel_rfl) (by simp) fun a0 h0=> ?_
 unfold ovBody
 refine wp_seq (rg_wp (ov_r0 (gw:=c.gw) (k:=k) (wk:=wk) (o:=o) h0 rfl rfl rfl rfl fun a1 h1=> ?_))
 obtain⟨o5,ho5⟩: ∃x:Obj,x=.cells #[.pointer (some ⟨c.gw,0,none⟩)] 47:=⟨_,rfl⟩
 obtain⟨o6,ho6⟩: ∃x:Obj,x=.cells #[.int .i64 (k:Int)] 3:=⟨_,rfl⟩
 obtain⟨o8,ho8⟩: ∃x:Obj,x=.cells #[.bool wk] 4:=⟨_,rfl⟩
 obtain⟨o9,ho9⟩: ∃x:Obj,x=.cells o.cs 59:=⟨_,rfl⟩
 obtain⟨o10,ho10⟩: ∃x:Obj,x=.cells #[.bool false] 4:=⟨_,rfl⟩
 have b5:=((((Blk.new w 47 #[.pointer (some ⟨c.gw,0,none⟩)]).alloc o6).alloc o8).alloc o9).alloc o10
 have b6:=(((Blk.new (w.alloc o5) 3 #[.int .i64 (k:Int)]).alloc o8).alloc o9).alloc o10
 have b8:=((Blk.new ((w.alloc o5).alloc o6) 4 #[.bool wk]).alloc o9).alloc o10
 have b9:=(Blk.new (((w.alloc o5).alloc o6).alloc o8) 59 o.cs).alloc o10
 have b10:=Blk.new ((((w.alloc o5).alloc o6).alloc o8).alloc o9) 4 #[.bool false]
 rw[<-ho5] at b5 h1
 rw[<-ho6] at b6 h1
 rw[<-ho8] at b8 h1
 rw[<-ho9] at b9 h1
 rw[<-ho10] at b10
 have hb5:Below w.heap.size w (((((w.alloc o5).alloc o6).alloc o8).alloc o9).alloc o10):=bl_alloc (bl_alloc (bl_alloc (bl_alloc (bl_alloc (Below.refl _ _) _) _) _) _) _
 have z5:(((((w.alloc o5).alloc o6).alloc o8).alloc o9).alloc o10).heap.size=w.heap.size+5:=by simp only[World.size_alloc]
 show Code.wp _ _ _ a1 (((((w.alloc (.cells #[.pointer (some ⟨c.gw,0,none⟩)] 47)).alloc (.cells #[.int .i64 (k:Int)] 3)).alloc (.cells #[.bool wk] 4)).alloc (.cells o.cs 59)).alloc (.cells #[.bool false] 4))
 rw[<-ho5,<-ho6,<-ho8,<-ho9,<-ho10]
 simp only[World.size_alloc] at b6 b8 b9 b10 h1
 generalize ((((w.alloc o5).alloc o6).alloc o8).alloc o9).alloc o10=w5 at b5 b6 b8 b9 b10 hb5 z5 ⊢
 have hS5:=hS.old hb5
 refine wp_seq (wp_seq (rg_wp (ov_r1 (b23:=false) h1 rfl (eql_fn fn gc) fun a2 h2=>wpo (h2.look 23 rfl) ?_)))
 have hdr:Below w5.heap.size w5 (w5.drewN 1):=below_drewN (Below.refl _ _) 1
 have hent: ∀u,Below w5.heap.size w5 u->Calls Tryd.prog 39 #[.pointer (some ⟨c.gr k,0,none⟩)] u fun e w'=> ∃q:S3,e=.returned (.slice q.d q.n q.c)/\(Below u.heap.size u w'/\RowE w' u.heap.size q (s0.L k)):=fun u hu=>(rentries_any ((hS5.old hu).mem.ref k hk) (by omega)).mono fun e w' ⟨q1,q,q2,q3⟩=>⟨q,q2,q1,q3⟩
 have go: ∀(a':Act) (u:World) (g11:Nat) (s3:S3),Sl 133 a' [(11,.pointer (some ⟨g11,0,none⟩)),(10,.pointer (some ⟨w.heap.size+1+1+1+1,0,none⟩)),(9,.pointer (some ⟨w.heap.size+1+1+1,0,none⟩)),(8,.pointer (some ⟨w.heap.size+1+1,0,none⟩)),(6,.pointer (some ⟨w.heap.size+1,0,none⟩)),(5,.pointer (some ⟨w.heap.size,0,none⟩)),(2,.func (.func fn) #[] #[.pointer (some ⟨gc,0,none⟩)])]->Below w5.heap.size w5 u->Blk u g11 54 #[.slice s3.d s3.n s3.c]->w5.heap.size<=g11->RowE u w5.heap.size s3 (s0.L k)->(∀g,s3.v.ownBlock=some g->g≠g11)->
   (Code.seq (r_ov 4) (.seq (r_ov 5) (.seq (.seq (r_ov 6) (.block 0 (.rangeFunc (.tmp 31) #[32,33] (.seq (r_ov 7) (r_ov 8)) (.block 1 (.seq (r_ov 9) (.seq (r_ov 10) (.seq (.block 2 (.loop ovL1)) ovA))))))) (.seq (.block 4 (.loop ovL0)) (.seq (r_ov 39) .ret))))).wp Tryd.prog (bodyPostM Fence.wide 9 Tryd.prog Tryd.f31 (OvR c s0 w PB (1000000+IB))) a' u:=fun a' u g11 s3 g0 hbu b11 l11 hrow hne=>by
  have z11:=b11.lt
  have zu:=hbu.size
  refine wp_seq (rg_wp (ov_r4 g0 (one_store (Blk.new u 3 #[.int .i64 0]) (by kernel_rfl) (by show 0<1;omega) rfl) fun a4 h4=> ?_))
  have b12:Blk ((u.alloc (.cells #[.int .i64 0] 3)).setCells u.heap.size 0 [.int .i64 0]) u.heap.size 3 #[.int .i64 ((0:Nat):Int)]:=(Blk.new u 3 #[.int .i64 0]).set_ 0 _
  have hb12:Below u.heap.size u ((u.alloc (.cells #[.int .i64 0] 3)).setCells u.heap.size 0 [.int .i64 0]):=below_setCells _ _ _ (bl_alloc (Below.refl _ _) _) (Nat.le_refl _)
  show Code.wp _ _ _ a4 ((u.alloc (.cells #[.int .i64 0] 3)).setCells u.heap.size 0 [.int .i64 0])
  generalize (u.alloc (.cells #[.int .i64 0] 3)).setCells u.heap.size 0 [.int .i64 0]=u2 at b12 hb12 ⊢
  have z12:=b12.lt
  refine wp_seq (rg_wp (ov_r5 h4 (one_store (Blk.new u2 3 #[.int .i64 0]) (by kernel_rfl) (by show 0<1;omega) rfl) fun a5 h5=> ?_))
  have b13:Blk ((u2.alloc (.cells #[.int .i64 0] 3)).setCells u2.heap.size 0 [.int .i64 0]) u2.heap.size 3 #[.int .i64 ((0:Nat):Int)]:=(Blk.new u2 3 #[.int .i64 0]).set_ 0 _
  have hb13:Below u2.heap.size u2 ((u2.alloc (.cells #[.int .i64 0] 3)).setCells u2.heap.size 0 [.int .i64 0]):=below_setCells _ _ _ (bl_alloc (Below.refl _ _) _) (Nat.le_refl _)
  show Code.wp _ _ _ a5 ((u2.alloc (.cells #[.int .i64 0] 3)).setCells u2.heap.size 0 [.int .i64 0])
  generalize (u2.alloc (.cells #[.int .i64 0] 3)).setCells u2.heap.size 0 [.int .i64 0]=wB at b13 hb13 ⊢
  have z13:=b13.lt
  have hbuB:=bl_trans hb12 hb13
  have hb5B:=bl_trans hbu hbuB
  have hbB:=bl_trans hb5 hb5B
  have hown3: ∀g,s3.v.ownBlock=some g->w5.heap.size<=g/\g<u.heap.size:=fun g hg=>row_block hrow.1 hg
  obtain⟨q,hq⟩: ∃q:OvP,q=⟨c,k,wk,o,w.heap.size,w.heap.size+1,w.heap.size+1+1,w.heap.size+1+1+1,w.heap.size+1+1+1+1,g11,u.heap.size,u2.heap.size,s3,s0.L k,fun b=>s0.S (4*k+2) b,w.heap.size,wB.heap.size⟩:=⟨_,rfl⟩
  have hqok:q.ok:=by
   rw[hq]
   refine⟨hk,fun g hg=> ?_,fun g hg=> ?_,fun g hg=> ?_,fun g hg=> ?_,fun g hg=> ?_,fun b hb=>hSl _ b hb,hw0,hbB.size⟩
   ·simp only[OvP.all,List.mem_cons,List.not_mem_nil,or_false] at hg
    show w.heap.size<=g/\g<wB.heap.size
    omega
   ·simp only[List.mem_cons,List.not_mem_nil,or_false] at hg
    show g≠u.heap.size
    omega
   ·simp only[List.mem_cons,List.not_mem_nil,or_false] at hg
    show g≠u2.heap.size
    omega
   ·simp only[List.mem_cons,List.not_mem_nil,or_false] at hg
    show g≠w.heap.size+1+1+1+1
    omega
   ·have:=hown3 g hg
    have:=hne g hg
    refine⟨?_, ?_, ?_, ?_, ?_⟩
    ·show w.heap.size<=g;omega
    ·show g<wB.heap.size;omega
    ·show g≠u.heap.size;omega
    ·show g≠u2.heap.size;omega
    ·show g≠w.heap.size+1+1+1+1;omega
  have hRf:=(hS.old hbB).mem.ref k hk
  have hM:OvM q 0 0 false wB:=by
   rw[hq]
   exact⟨b5.below hb5B b5.lt,b6.below hb5B b6.lt,b8.below hb5B b8.lt,b9.below hb5B b9.lt,b10.below hb5B b10.lt,b11.below hbuB b11.lt,b12.below hb13 b12.lt,b13,hrow.zero.old hbuB,fun x hx=>hRf.dat x hx⟩
  have key:=ov_range (q:=q) (s0:=s0) (M:=M) (N0:=N0) (PB:=PB) (IB:=IB) (gc:=gc) (a:=a5) (w:=w) (wB:=wB) (fn:=fn) (hn:=hn) (nxt:=nxt) (Y:=Y) (E:=E) (by rw[hq];exact it wB) hqok (by rw[hq];exact hown) (by rw[hq];exact hS.old hbB) hM (by rw[hq]) (by rw[hq]) (Nx.of_below hbB 0 0) (fun i b r=>by rw[hq];exact hSl i b r) (by rw[hq]) (by rw[hq]) (by rw[hq];exact hgc) fgc hbB (by rw[hq];exact hso) hb0 hM5 hNN (by rw[hq];exact hin) hPB (by rw[hq];exact h5.to ⟨rfl,rfl,rfl,rfl,rfl,rfl,rfl,rfl,rfl,trivial⟩)
  rw[hq] at key
  exact key
 refine wp_seq (rg_wp (ov_r3 (C:=fun u=>Below w5.heap.size w5 u) (C0:=fun b q u=>Below b.heap.size b u/\RowE u b.heap.size q (s0.L k)) (g28:=c.gw) (o28:=2+k) (gr:=c.gr k) h2 rfl rfl hdr (fun u hu=>one_load (b5.below hu b5.lt) Tryd.underlying47 rfl rfl) (fun u hu=>one_load (b6.below hu b6.lt) Tryd.underlying3 rfl rfl) (ix_r hk c.gw) (fun u hu=>(hS5.mem.old hu).ldr hk)
  (hent _ hdr) (fun q u hc=>bl_trans hdr hc.1) (fun q u hc=>bl_alloc (bl_trans hdr hc.1) _) (fun q u hc=>one_store (Blk.new u 54 #[.slice none 0 0]) (by kernel_rfl) (by show 0<1;omega) rfl) (bl_alloc hdr _)
  (hent _ (bl_alloc hdr _)) (fun q u hc=>bl_trans (bl_alloc hdr _) hc.1) (fun q u hc=>one_store ((Blk.new (w5.drewN 1) 54 #[.slice none 0 0]).below hc.1 (Blk.new (w5.drewN 1) 54 #[.slice none 0 0]).lt) (by kernel_rfl) (by show 0<1;omega) rfl) (fun a3 q u hc h3=> ?_) (fun a3 q u hc h3=> ?_)))
 ·have hbu:=bl_trans hdr hc.1
  have hrow:RowE u w5.heap.size q (s0.L k):=hc.2
  have zu:=hbu.size
  have hb2:Below u.heap.size u ((u.alloc (.cells #[.slice none 0 0] 54)).setCells u.heap.size 0 [.slice q.d q.n q.c]):=below_setCells _ _ _ (bl_alloc (Below.refl _ _) _) (Nat.le_refl _)
  exact go a3 _ u.heap.size q (h3.to ⟨rfl,rfl,rfl,rfl,rfl,rfl,rfl,trivial⟩) (bl_trans hbu hb2) ((Blk.new u 54 #[.slice none 0 0]).set_ 0 _) zu (hrow.old hb2) (fun g hg=>by have:=(row_block hrow.1 hg).2;omega)
 ·have hbu:=bl_trans (bl_alloc hdr (.cells #[.slice none 0 0] 54)) hc.1
  have hz1:((w5.drewN 1).alloc (.cells #[.slice none 0 0] 54)).heap.size=w5.heap.size+1:=World.size_alloc _ _
  have hrow:=hc.2
  rw[hz1] at hrow
  have hB:=(Blk.new (w5.drewN 1) 54 #[.slice none 0 0]).below hc.1 (Blk.new (w5.drewN 1) 54 #[.slice none 0 0]).lt
  have hB:Blk u w5.heap.size 54 #[.slice none 0 0]:=hB
  refine go a3 _ w5.heap.size q (h3.to ⟨rfl,rfl,rfl,rfl,rfl,rfl,rfl,trivial⟩) (below_setCells _ _ _ hbu (Nat.le_refl _)) (hB.set_ 0 _) (Nat.le_refl _) ?_ (fun g hg=>by have:=(row_block hrow.1 hg).1;omega)
  have hk2: ∀g,q.v.ownBlock=some g->(u.setCells w5.heap.size 0 [.slice q.d q.n q.c]).heap[g]? =u.heap[g]? :=fun g hg=>setCells_other _ _ _ (by have:=(row_block hrow.1 hg).1;omega)
  have h9:=hrow.keep hk2
  exact⟨⟨h9.1.1,h9.1.2.imp_right fun⟨g,cap,cur,q1,q2,q3⟩=>⟨g,cap,cur,q1,by omega,q3⟩⟩,h9.2⟩
end
end Go.Proofs.YtlhfickniegooaaDoor

namespace Go.Proofs.YtlhfickniegooaaDoor
open Go.RowKit Go.Sort
set_option maxRecDepth 100000
def leaveS(lv:Int):Sp:=⟨0,0,zD,zD,lv,0,0,zD,zD,m0,m0,m0,m0⟩
theorem okz:okInt 0:=by unfold okInt;omega
theorem leaveS_ok(w0:World){lv:Int}(h:okInt lv):SpOk w0 (leaveS lv):=⟨okz,okz,h,okz,okz,⟨zD_ok,zD_at _ _⟩,⟨zD_ok,zD_at _ _⟩,⟨zD_ok,zD_at _ _⟩,⟨zD_ok,zD_at _ _⟩⟩
theorem range_sp{w:World}{g:Nat}{t:TypeId}{o:Sp}{i:Nat}{d:Dt}{m:Dm}(h:Blk w g t o.cs)(e:(o.cs.toList.drop i).take 11=(d.cs m).toList):Lds Tryd.prog 31 (.pointer (some ⟨g,i,none⟩)) (.agg (d.cs m)) w:=dat_load h e
section
variable {c:PlC} {s:St} {k M N:Nat} {w:World} {o:Sp}
theorem BdO.bd(h:BdO s M N)(hM:M<=5001)(hN:N<=100000000000):Bd s:=⟨fun k hk=>by
 have:=h.1 k hk
 refine⟨?_, ?_, ?_⟩<;>omega,Nat.le_trans h.2 hN⟩
theorem SpOk.dat{w:World}(h:PM c s w){d:Dt}{m:Dm}(hd:d.at c.w0 (fun b=>b<c.w0.heap.size) m):d.at w (fun b=>b<c.w0.heap.size) m:=hd.old h.bel
theorem over_all{N0 PB IB gc:Nat}(hown:OwnAt c.w0)(hS:PS c s w)(hk:k<2)(hgc:Blk w gc mpT #[pv (c.gm k)])(fgc:Free s gc)(hso:SpOk c.w0 o)(hb0:BdO s M N0)(hM5:M<=5000)(hNN:N0+3000000+IB<=100000000000)(hin:o.inn≠0->InnerC c k o M (N0+1100000) PB IB)(hPB:PB<=1000):
  Calls Tryd.prog 31 #[.pointer (some ⟨c.gw,0,none⟩),.int .i64 (k:Int),.func (.func 30) #[] #[.pointer (some ⟨gc,0,none⟩)],.bool false,.agg o.cs] w (OvR c s w PB (1000000+IB)):=
 over_g (fun wB=>it_all (fun st=>st.R k) (s.R k) gc (c.gm k) wB) hown hS hk hgc fgc hso hb0 hM5 hNN hin hPB
theorem over_walk{N0 PB IB gc:Nat}(hown:OwnAt c.w0)(hS:PS c s w)(hk:k<2)(hgc:Blk w gc mpT #[pv (c.gm k)])(fgc:Free s gc)(hso:SpOk c.w0 o)(hb0:BdO s M N0)(hM5:M<=5000)(hNN:N0+3000000+IB<=100000000000)(hin:o.inn≠0->InnerC c k o M (N0+1100000) PB IB)(hPB:PB<=1000):
  Calls Tryd.prog 31 #[.pointer (some ⟨c.gw,0,none⟩),.int .i64 (k:Int),.func (.func 27) #[] #[.pointer (some ⟨gc,0,none⟩)],.bool true,.agg o.cs] w (OvR c s w PB (1000000+IB)):=
 over_g (fun wB=>it_walk (fun st=>st.R k) (s.R k) gc (c.gm k) wB) hown hS hk hgc fgc hso hb0 hM5 hNN hin hPB
theorem OvR.plus{PB QO PB' QO':Nat}{w' w2:World}{e:Ending}(h:OvR c s w' PB QO e w2)(hb:Below w.heap.size w w')(hP:PB<=PB')(hQ:QO<=QO'):OvR c s w PB' QO' e w2:=
 let⟨h1,s',h2,h3⟩:=h;⟨h1,s',h2,(Nx.of_below hb 0 0).trans h3 (by omega) (by omega)⟩
set_option maxHeartbeats 4000000 in
theorem inner_any(hown:OwnAt c.w0)(hk:k<2)(hso:SpOk c.w0 o)(hM5:M<=5000)(hNN:N+3000000<=100000000000):InnerC c k o M N 2 1000200:=by
 intro w s hS hb0
 show Calls _ _ _ _ (OvR c s w 2 1000200)
 refine calls_ev (vs:=[.pointer (some ⟨c.gw,0,none⟩),.int .i64 (k:Int),.agg o.cs]) 71 Tryd.func42 in9_body (by kernel_rfl) (by simp) fun a0 h0=> ?_
 unfold in9Body
 refine wp_seq (rg_wp (in9_r0 h0 rfl fun a1 h1=> ?_))
 have hB:=Blk.new w 59 o.cs
 have hb1:=bl_alloc (Below.refl w.heap.size w) (.cells o.cs 59)
 show Code.wp _ _ _ a1 (w.alloc (.cells o.cs 59))
 generalize w.alloc (.cells o.cs 59)=w1 at hB hb1 ⊢
 have hS1:=hS.old hb1
 have z1:=hb1.size
 have hBl:=hB.lt
 have nf: ∀{b},w.heap.size<=b->Free s b:=fun hb=>hS.mem.newF hb
 have hd2: ∀{u:World} {s':St},PM c s' u->o.k2.at u (fun b=>b<c.w0.heap.size) o.dk2/\o.v2.at u (fun b=>b<c.w0.heap.size) o.dv2:=fun h=>⟨SpOk.dat h hso.k2.2,SpOk.dat h hso.v2.2⟩
 have lk: ∀{u:World},Blk u w.heap.size 59 o.cs->Lds Tryd.prog 31 (.pointer (some ⟨w.heap.size,27,none⟩)) (.agg (o.k2.cs o.dk2)) u:=fun h=>range_sp h rfl
 have lv: ∀{u:World},Blk u w.heap.size 59 o.cs->Lds Tryd.prog 31 (.pointer (some ⟨w.heap.size,38,none⟩)) (.agg (o.v2.cs o.dv2)) u:=fun h=>range_sp h rfl
 refine wp_seq (wp_seq (rg_wp (in9_r1 (inn:=o.inn) (b11:=decide (o.inn=5)) h1 rfl (sp_load hB Tryd.underlying3 rfl rfl) rfl fun a2 h2=> ?_)))
 by_cases k5:o.inn=5
 ·rw[decide_eq_true k5] at h2
  refine wp_cond_true (h2.look 11 rfl) ?_
  have hdr:=below_drewN (Below.refl w1.heap.size w1) 1
  refine wp_seq (rg_wp (in9_r2 (C:=fun u=>Below w1.heap.size w1 u) (g18:=c.gw) (o18:=k) (gm:=c.gm k) (lv:=o.leave) (b24:=true) (C0:=fun x u=>w1.heap.size<=x/\Blk u x mpT #[pv (c.gm k)]/\Below w1.heap.size w1 u) (C1:=fun u=> ∃s',PS c s' u/\Nx s s' w u 2 1000200) h2 rfl rfl rfl hdr (ix_m hk c.gw) (fun u hu=>(hS1.mem.old hu).ldm hk) (fun u hu=>sp_load (hB.below hu hBl) Tryd.underlying3 rfl rfl)
   ((kallm_any (w1.drewN 1) (c.gm k)).mono fun e u hh=>⟨(w1.drewN 1).heap.size,hh.1,Nat.le_refl _,hh.2.1,bl_trans hdr hh.2.2⟩) (fun x u hc=>hc.2.2) (fun x u hc=>(over_all (N0:=N) (PB:=0) (IB:=0) (o:=leaveS o.leave) hown (hS1.old hc.2.2) hk hc.2.1 (nf (by omega)) (leaveS_ok _ hso.leave) hb0 hM5 hNN (fun h=>absurd rfl h) (Nat.zero_le _)).mono fun e u' hh=>hh.plus (bl_trans hb1 hc.2.2) (by omega) (by omega)) fun a3 x u u' _ hc h3=>wp_ret ?_))
  exact ret1 rfl h3 rfl ⟨rfl,hc⟩
 ·rw[decide_eq_false k5] at h2
  refine wpo (h2.look 11 rfl) ?_
  refine wp_seq (wp_seq (rg_wp (in9_r3 (inn:=o.inn) (b27:=decide (o.inn=6)) h2 rfl (sp_load hB Tryd.underlying3 rfl rfl) rfl fun a3 h3=> ?_)))
  by_cases k6:o.inn=6
  ·rw[decide_eq_true k6] at h3
   refine wp_cond_true (h3.look 27 rfl) ?_
   have hdr:=below_drewN (Below.refl w1.heap.size w1) 1
   refine wp_seq (rg_wp (in9_r4 (C:=fun u=>Below w1.heap.size w1 u) (g34:=c.gw) (o34:=k) (gm:=c.gm k) (lv:=o.leave) (b24:=true) (C0:=fun x u=>w1.heap.size<=x/\Blk u x mpT #[pv (c.gm k)]/\Below w1.heap.size w1 u) (C1:=fun u=> ∃s',PS c s' u/\Nx s s' w u 2 1000200) h3 rfl rfl rfl hdr (ix_m hk c.gw) (fun u hu=>(hS1.mem.old hu).ldm hk) (fun u hu=>sp_load (hB.below hu hBl) Tryd.underlying3 rfl rfl)
    ((kwalk_any (w1.drewN 1) (c.gm k)).mono fun e u hh=>⟨(w1.drewN 1).heap.size,hh.1,Nat.le_refl _,hh.2.1,bl_trans hdr hh.2.2⟩) (fun x u hc=>hc.2.2) (fun x u hc=>(over_walk (N0:=N) (PB:=0) (IB:=0) (o:=leaveS o.leave) hown (hS1.old hc.2.2) hk hc.2.1 (nf (by omega)) (leaveS_ok _ hso.leave) hb0 hM5 hNN (fun h=>absurd rfl h) (Nat.zero_le _)).mono fun e u' hh=>hh.plus (bl_trans hb1 hc.2.2) (by omega) (by omega)) fun a4 x u u' _ hc h4=>wp_ret ?_))
   exact ret1 rfl h4 rfl ⟨rfl,hc⟩
  ·rw[decide_eq_false k6] at h3
   refine wpo (h3.look 27 rfl) ?_
   refine wp_seq (wp_seq (rg_wp (in9_r5 (inn:=o.inn) (b43:=decide (o.inn=9)) h3 rfl (sp_load hB Tryd.underlying3 rfl rfl) rfl fun a4 h4=> ?_)))
   by_cases k9:o.inn=9
   ·rw[decide_eq_true k9] at h4
    refine wp_cond_true (h4.look 43 rfl) ?_
    refine wp_seq (rg_wp (in9_r6 (d:=o.k2) (m:=o.dk2) (v:=o.v2) (mv:=o.dv2) (b50:=true) (C0:=fun u=> ∃s',PS c s' u/\Nx s s' w1 u 1 100) h4 rfl rfl rfl (lk hB) (lv hB) (does_any hown hS1 hk (hb0.bd (by omega) (by omega)) hso.k2.1 hso.v2.1 (hd2 hS1.mem).1 (hd2 hS1.mem).2) fun a5 w2 hc h5=> ?_))
    obtain⟨s2,hS2,hN2⟩:=hc
    have hB2:Blk w2 w.heap.size 59 o.cs:=hN2.blk hB (nf (Nat.le_refl _))
    have hbd2:Bd s2:=⟨fun j hj=>by
     have e1:=hb0.1 j hj
     have e2:=hN2.len j hj
     have e3:=(hN2.evo j hj).1
     refine⟨?_, ?_, ?_⟩<;>omega,by
     have e1:=hb0.2
     have e2:=hN2.num
     omega⟩
    refine wp_seq (rg_wp (in9_r7 (d:=o.k2) (m:=o.dk2) (v:=o.v2) (mv:=o.dv2) (b57:=true) (C0:=fun u=> ∃s',PS c s' u/\Nx s2 s' w2 u 1 100) h5 rfl rfl rfl (lk hB2) (lv hB2) (does_any hown hS2 hk hbd2 hso.k2.1 hso.v2.1 (hd2 hS2.mem).1 (hd2 hS2.mem).2) fun a6 w3 hc h6=> ?_))
    obtain⟨s3,hS3,hN3⟩:=hc
    refine wp_seq (rg_wp (in9_r8_t h6 rfl rfl fun a7 h7=>wp_ret ?_))
    exact ret1 rfl h7 rfl ⟨rfl,s3,hS3,((Nx.of_below hb1 0 0).trans hN2 (p2:=1) (q2:=100) (by omega) (by omega)).trans hN3 (by omega) (by omega)⟩
   ·rw[decide_eq_false k9] at h4
    refine wpo (h4.look 43 rfl) ?_
    refine wp_seq (rg_wp (in9_r9 (inn:=o.inn) (d:=o.k2) (m:=o.dk2) (v:=o.v2) (mv:=o.dv2) (b70:=true) (C0:=fun u=> ∃s',PS c s' u/\Nx s s' w1 u 1 100) h4 rfl rfl rfl (sp_load hB Tryd.underlying3 rfl rfl) (lk hB) (lv hB) (does_any hown hS1 hk (hb0.bd (by omega) (by omega)) hso.k2.1 hso.v2.1 (hd2 hS1.mem).1 (hd2 hS1.mem).2) fun a5 w2 hc h5=>wp_ret ?_))
    obtain⟨s2,hS2,hN2⟩:=hc
    exact ret1 rfl h5 rfl ⟨rfl,s2,hS2,(Nx.of_below hb1 0 0).trans hN2 (by omega) (by omega)⟩
set_option maxHeartbeats 4000000 in
theorem step_any(hown:OwnAt c.w0)(hS:PS c s w)(hso:SpOk c.w0 o)(hb0:BdO s M N)(hM5:M<=5000)(hNN:N+10000000<=100000000000):
  Calls Tryd.prog 16 #[.pointer (some ⟨c.gw,0,none⟩),.agg o.cs] w (OvR c s w 2 2000200):=by
 obtain⟨k,hkk⟩: ∃k,k=pkN o.on 2:=⟨_,rfl⟩
 have hk:k<2:=hkk ▸ pkN_lt _ (by omega)
 have hin:o.inn≠0->InnerC c k o M (N+1100000) 2 1000200:=fun _=>inner_any hown hk hso hM5 (by omega)
 refine calls_ev (vs:=[.pointer (some ⟨c.gw,0,none⟩),.agg o.cs]) 70 Tryd.func16 st9_body (by kernel_rfl) (by simp) fun a0 h0=> ?_
 unfold st9Body
 refine wp_seq (rg_wp (st9_r0 h0 rfl fun a1 h1=> ?_))
 have hB:=Blk.new w 59 o.cs
 have hb1:=bl_alloc (Below.refl w.heap.size w) (.cells o.cs 59)
 show Code.wp _ _ _ a1 (w.alloc (.cells o.cs 59))
 generalize w.alloc (.cells o.cs 59)=w1 at hB hb1 ⊢
 have hS1:=hS.old hb1
 have z1:=hb1.size
 have hBl:=hB.lt
 have nf: ∀{b},w.heap.size<=b->Free s b:=fun hb=>hS.mem.newF hb
 have f9: ∀{g},s.S 9 g->Free s g:=fun hg i hi hs=>hS.mem.dis i 9 _ (by unfold wr at hi;omega) hs hg
 have l9: ∀{u:World},Blk u w.heap.size 59 o.cs->Lds Tryd.prog 59 (.pointer (some ⟨w.heap.size,0,none⟩)) (.agg o.cs) u:=fun h=>ldsA (cs:=o.cs.toList) Tryd.underlying59 rfl (by kernel_rfl) (range_of h 0 49 rfl)
 refine wp_seq (rg_wp (st9_r1 (on:=o.on) (k:=k) (C0:=fun u=>u=w1) h1 rfl (sp_load hB Tryd.underlying3 rfl rfl) ((kpick_any hso.on (n:=2) (by omega) w1).mono fun e v hh=>⟨by rw[hkk];exact hh.1,hh.2⟩) fun a2 w2 hx h2=> ?_))
 subst hx
 refine wp_seq (wp_seq (rg_wp (st9_r2 (kind:=o.kind) h2 rfl (sp_load hB Tryd.underlying3 rfl rfl) fun a3 h3=> ?_)))
 refine wp_block ?_
 refine wp_seq (rg_wp (st9_r3 (b12:=decide (o.kind=5)) h3 rfl rfl fun a4 h4=> ?_))
 have hdr:=below_drewN (Below.refl w2.heap.size w2) 1
 by_cases k5:o.kind=5
 ·rw[decide_eq_true k5] at h4
  refine wp_cond_true (h4.look 11 rfl) ?_
  refine wp_seq (rg_wp (st9_r4 (C:=fun u=>Below w2.heap.size w2 u) (g19:=c.gw) (o19:=k) (gm:=c.gm k) (o:=o) (b23:=true) (C0:=fun x u=>w2.heap.size<=x/\Blk u x mpT #[pv (c.gm k)]/\Below w2.heap.size w2 u) (C1:=fun u=> ∃s',PS c s' u/\Nx s s' w u 2 2000200) h4 rfl rfl rfl hdr (ix_m hk c.gw) (fun u hu=>(hS1.mem.old hu).ldm hk) (fun u hu=>l9 (hB.below hu hBl))
   ((kallm_any (w2.drewN 1) (c.gm k)).mono fun e u hh=>⟨(w2.drewN 1).heap.size,hh.1,Nat.le_refl _,hh.2.1,bl_trans hdr hh.2.2⟩) (fun x u hc=>hc.2.2) (fun x u hc=>(over_all (N0:=N) (PB:=2) (IB:=1000200) hown (hS1.old hc.2.2) hk hc.2.1 (nf (by omega)) hso hb0 hM5 (by omega) hin (by omega)).mono fun e u' hh=>hh.plus (bl_trans hb1 hc.2.2) (by omega) (by omega)) fun a5 x u u' _ hc h5=>wp_ret ?_))
  exact ret1 rfl h5 rfl ⟨rfl,hc⟩
 ·rw[decide_eq_false k5] at h4
  refine wp_cond_false (h4.look 11 rfl) ?_
  refine wp_seq (rg_wp (st9_r5 (b25:=decide (o.kind=6)) h4 rfl rfl fun a5 h5=> ?_))
  by_cases k6:o.kind=6
  ·rw[decide_eq_true k6] at h5
   refine wp_cond_true (h5.look 24 rfl) ?_
   refine wp_seq (rg_wp (st9_r6 (C:=fun u=>Below w2.heap.size w2 u) (g32:=c.gw) (o32:=k) (gm:=c.gm k) (o:=o) (b23:=true) (C0:=fun x u=>w2.heap.size<=x/\Blk u x mpT #[pv (c.gm k)]/\Below w2.heap.size w2 u) (C1:=fun u=> ∃s',PS c s' u/\Nx s s' w u 2 2000200) h5 rfl rfl rfl hdr (ix_m hk c.gw) (fun u hu=>(hS1.mem.old hu).ldm hk) (fun u hu=>l9 (hB.below hu hBl))
    ((kwalk_any (w2.drewN 1) (c.gm k)).mono fun e u hh=>⟨(w2.drewN 1).heap.size,hh.1,Nat.le_refl _,hh.2.1,bl_trans hdr hh.2.2⟩) (fun x u hc=>hc.2.2) (fun x u hc=>(over_walk (N0:=N) (PB:=2) (IB:=1000200) hown (hS1.old hc.2.2) hk hc.2.1 (nf (by omega)) hso hb0 hM5 (by omega) hin (by omega)).mono fun e u' hh=>hh.plus (bl_trans hb1 hc.2.2) (by omega) (by omega)) fun a6 x u u' _ hc h6=>wp_ret ?_))
   exact ret1 rfl h6 rfl ⟨rfl,hc⟩
  ·rw[decide_eq_false k6] at h5
   refine wp_cond_false (h5.look 24 rfl) ?_
   refine wp_seq (rg_wp (st9_r7 (b38:=decide (o.kind=7)) h5 rfl rfl fun a6 h6=> ?_))
   have hSd:=hS1.old hdr
   by_cases k7:o.kind=7
   ·rw[decide_eq_true k7] at h6
    refine wp_cond_true (h6.look 37 rfl) ?_
    refine wp_seq (rg_wp (st9_r8 (C:=fun u=>Below w2.heap.size w2 u) (g45:=c.gw) (o45:=4+k) (gc:=c.ga k) (o:=o) (b23:=true) (C0:=fun u=> ∃s',PS c s' u/\Nx s s' w u 2 2000200) h6 rfl rfl rfl hdr (ix_a hk c.gw) (fun u hu=>(hS1.mem.old hu).lda hk) (fun u hu=>l9 (hB.below hu hBl))
     ((over_all (N0:=N) (PB:=2) (IB:=1000200) hown hSd hk (hSd.mem.cel k hk).1.1 (f9 (hS.mem.cel k hk).1.2) hso hb0 hM5 (by omega) hin (by omega)).mono fun e u' hh=>hh.plus (bl_trans hb1 hdr) (by omega) (by omega)) fun a7 u hc h7=>wp_ret ?_))
    exact ret1 rfl h7 rfl ⟨rfl,hc⟩
   ·rw[decide_eq_false k7] at h6
    refine wp_cond_false (h6.look 37 rfl) ?_
    refine wp_seq (rg_wp (st9_r9 (b50:=decide (o.kind=8)) h6 rfl rfl fun a7 h7=> ?_))
    by_cases k8:o.kind=8
    ·rw[decide_eq_true k8] at h7
     refine wp_cond_true (h7.look 49 rfl) ?_
     refine wp_seq (rg_wp (st9_r10 (C:=fun u=>Below w2.heap.size w2 u) (g57:=c.gw) (o57:=6+k) (gc:=c.gk k) (o:=o) (b23:=true) (C0:=fun u=> ∃s',PS c s' u/\Nx s s' w u 2 2000200) h7 rfl rfl rfl hdr (ix_k hk c.gw) (fun u hu=>(hS1.mem.old hu).ldk hk) (fun u hu=>l9 (hB.below hu hBl))
      ((over_walk (N0:=N) (PB:=2) (IB:=1000200) hown hSd hk (hSd.mem.cel k hk).2.1 (f9 (hS.mem.cel k hk).2.2) hso hb0 hM5 (by omega) hin (by omega)).mono fun e u' hh=>hh.plus (bl_trans hb1 hdr) (by omega) (by omega)) fun a8 u hc h8=>wp_ret ?_))
     exact ret1 rfl h8 rfl ⟨rfl,hc⟩
    ·rw[decide_eq_false k8] at h7
     refine wpc_off (h7.look 49 rfl) (block_norm ?_)
     have hd:=SpOk.dat hS1.mem hso.k.2
     have hv:=SpOk.dat hS1.mem hso.v.2
     refine wp_seq (rg_wp (st9_r11 (kind:=o.kind) (d:=o.k) (m:=o.dk) (v:=o.v) (mv:=o.dv) (b23:=true) (C0:=fun u=> ∃s',PS c s' u/\Nx s s' w2 u 1 100) h7 rfl rfl rfl (sp_load hB Tryd.underlying3 rfl rfl) (range_sp hB rfl) (range_sp hB rfl) (does_any hown hS1 hk (hb0.bd (by omega) (by omega)) hso.k.1 hso.v.1 hd hv) fun a8 u hc h8=>wp_ret ?_))
     obtain⟨s2,hS2,hN2⟩:=hc
     exact ret1 rfl h8 rfl ⟨rfl,s2,hS2,(Nx.of_below hb1 0 0).trans hN2 (by omega) (by omega)⟩
end
end Go.Proofs.YtlhfickniegooaaDoor
