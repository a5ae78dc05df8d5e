/-
   Written by an AI agent.
-/
import Derived.Test.YtbjegfpfmnleeaaGreatDoorQw27
import Derived.Test.YtbjegfpfmnleeaaGreatDoorQw14
namespace Go.Proofs.YtbjegfpfmnleeaaGreatDoor
open Go.RowKit Go.Maps
set_option maxRecDepth 100000
theorem Sl.yield2{n:Nat}{a:Act}{l:List (Nat×Value)}{df:List Deferred}(h:Sl n a l df)(p q:Nat)(hp:p<n)(hq:q<n)(v z:Value):Sl n {tmps:=(#[p,q].zip #[v,z]).foldl (fun t (x:Nat×Value)=>t.setIfInBounds x.1 x.2) a.tmps,defers:=[]} ((q,z)::dropL [q] ((p,v)::dropL [p] l)):=by
 have h2:=(h.yield1 p hp v).yield1 q hq z
 have e:(#[p,q].zip #[v,z]).foldl (fun t (x:Nat×Value)=>t.setIfInBounds x.1 x.2) a.tmps=(#[q].zip #[z]).foldl (fun t (x:Nat×Value)=>t.setIfInBounds x.1 x.2) ((#[p].zip #[v]).foldl (fun t (x:Nat×Value)=>t.setIfInBounds x.1 x.2) a.tmps):=by simp
 rw[e]
 exact h2
theorem results_slot{P:Program}{fn:Func}{a:Act}{w:World}{n c:Nat}{l:List (Nat×Value)}{df:List Deferred}{z:Value}(hr:fn.results=#[.tmp c])(hs:Sl n a l df)(e3:l.lookup c=some z):(results fn a.tmps).run P w=.ok z w:=by
 have h1:=hs.look c e3
 unfold slot at h1
 simp only[Array.getD_eq_getD_getElem?] at h1
 simp[results,hr,h1]
theorem MapAt.ext{w w':World}{m:Nat}{R:List En}{D O:Nat->Prop}{B:Nat}(h:MapAt w m R D O)(e:Ext B w w'):MapAt w' m R D O:=
 let⟨hb,n,H,N,b,A,n0,n1,hR,h4,h5,h6,o1,o2,o3,o4⟩:=h
 ⟨hb,n,H,N,b,A,n0,n1,hR.ext e,h4,h5,h6,o1,o2,o3,fun b hb=>Nat.lt_of_lt_of_le (o4 b hb) e.size⟩
theorem keeps_cel{S:Nat->Prop}{B:Nat}{W W':World}(h:Moved S W W')(hS: ∀b,S b->∃t cs,Blk W b t cs):KeepsFrom B W W':=⟨h.size,fun k o _ hk ho=>(h.block k (Array.getElem?_eq_some_iff.1 hk).1 (fun q=>by
 obtain⟨t,cs,hc⟩:=hS k q
 have hc:W.heap[k]? =some (.cells cs t (0,0)):=hc
 rw[hk] at hc
 injection hc with hc
 subst hc
 cases ho)).trans hk⟩
theorem app_ty{P:Program}{A:Array TypeId}{t:TypeId}{B:Array Value}{w w':World}{v:Value}(h:(Builtin.append_ A t B).run P w=.ok v w')(t':TypeId):(Builtin.append_ A t' B).run P w=.ok v w':=h
abbrev zB:Array Value:=#[.int .i64 0,.string ⟨#[]⟩,.int .i64 0,.int .u64 0,.string ⟨#[]⟩,.int .i64 0,.int .i64 0,.int .i64 0,.int .i64 0,.slice none 0 0,.slice none 0 0,.int .i64 0,.string ⟨#[]⟩,.int .i64 0,.int .u64 0,.string ⟨#[]⟩,.int .i64 0,.int .i64 0,.int .i64 0,.int .i64 0,.slice none 0 0,.slice none 0 0]
theorem app_two{w:World}{B n:Nat}{s:S3}{xs:List Value}(h:ARow w B datT 11 s n xs)(hn:n<=1000000000)(hB:B<=w.heap.size):
  ∃(g c:Nat) (w':World),(∀ty,(Builtin.append_ #[23,23] ty #[.slice s.d s.n s.c,.slice (some ⟨w.heap.size,0,none⟩) 2 2]).run Tryz.prog (w.alloc (.cells zB datT))=.ok (.slice (some ⟨g,0,none⟩) (n+2) c) w')/\ARow w' B datT 11 ⟨some ⟨g,0,none⟩,n+2,c⟩ (n+2) (xs++zB.toList)/\Moved (fun b=>s.v.ownBlock=some b) w w'/\(s.v.ownBlock=some g\/w.heap.size<g):=by
 obtain⟨i,hi,hz0,hz1,hz2⟩:=parts3 dat_i3
 have hx:=Blk.new w datT zB
 have hcl:zB.toList.length=2*11:=rfl
 have hcell: ∀(j:Nat) (u:Value),zB.toList[j]? =some u->(w.alloc (.cells zB datT)).cell? ((⟨w.heap.size,0,none⟩:Addr).add j)=some u:=fun j u hu=>by
  rw[add_j,Nat.zero_add,hx.cell,<-Array.getElem?_toList]
  exact hu
 have hw1:(w.alloc (.cells zB datT)).heap.size=w.heap.size+1:=World.size_alloc _ _
 have h1: ∀u∈zB.toList,u.oneCell'=true:=by decide
 obtain⟨v',w',hr,ho,hg,_,hblk⟩:=run_append_own_at (P:=Tryz.prog) (w:=w.alloc (.cells zB datT)) B 23 0 datT i _ 11 136 Tryz.underlying23 hi hz0 hz1 hz2 rfl (by omega) s.v n xs (row_below h.2 (bl_alloc (Below.refl _ _) _)) ⟨w.heap.size,0,none⟩ 2 2 zB.toList hcl hcell h1 (by simp only[maxLen];omega) (by omega) (by omega)
 obtain⟨s',rfl,hs'⟩:=ARow.of_v ho
 rcases ARow.cases hs' with⟨_,h0,_⟩ | ⟨g,cs,e1,e2,e3,_⟩
 ·omega
 ·obtain⟨d,k,c⟩:=s'
  injection e1 with e1 e4 e5
  subst e1 e4
  refine⟨g,c,w',fun ty=>app_ty hr ty,hs',⟨by have:=hg.size;omega,hg.os,hg.tape,hg.output,fun b hb hn=>(hg.block b (by omega) (fun e=>hn e.symm)).trans (Below.heap_alloc _ _ _ hb)⟩, ?_⟩
  rcases hblk with h | h
  ·exact .inl (h.symm.trans e2)
  ·rw[e2] at h
   injection h with h
   exact .inr (by omega)
theorem ARow.put{w:World}{B sz n g c:Nat}{t:TypeId}{A V Z:List Value}(h:ARow w B t sz ⟨some ⟨g,0,none⟩,n,c⟩ n (A++V++Z)){vs:List Value}(hv:vs.length=V.length){o:Nat}(ho:o=A.length):ARow (w.setCells g o vs) B t sz ⟨some ⟨g,0,none⟩,n,c⟩ n (A++vs++Z):=by
 subst ho
 rcases ARow.cases h with⟨e,_⟩ | ⟨g',cs,e1,e2,e3,e4,e5,e6,e7,e8⟩
 ·cases e
 ·injection e2 with e2
  have e2:g=g':=e2
  subst e2
  refine⟨rfl, ?_,.inr ⟨g,c,_,rfl,e3,Blk.setL vs A.length _ _ e4,e5,e6,by rw[foldSet_size];exact e7, ?_⟩⟩
  ·have:=h.2.1
   simp only[List.length_append] at this ⊢
   omega
  ·have hl:=h.2.1
   have hsz:cs.size=c*sz:=e7
   have hcn:n*sz<=c*sz:=Nat.mul_le_mul_right sz e5
   apply List.ext_getElem?
   intro j
   by_cases hj:j<n*sz
   ·have h8:(cs.toList.take (n*sz))[j]? =(A++V++Z)[j]? :=by rw[e8]
    rw[List.getElem?_take_of_lt hj,Array.getElem?_toList] at h8
    rw[List.getElem?_take_of_lt hj,Array.getElem?_toList,fold_get]
    by_cases h1:j<A.length
    ·rw[if_neg (by omega),h8,List.append_assoc,List.append_assoc,List.getElem?_append_left h1,List.getElem?_append_left h1]
    ·by_cases h2:j<A.length+vs.length
     ·rw[if_pos (by omega),List.append_assoc,List.getElem?_append_right (by omega),List.getElem?_append_left (by omega)]
     ·rw[if_neg (by omega),h8,List.append_assoc,List.append_assoc,List.getElem?_append_right (by omega),List.getElem?_append_right (by omega),List.getElem?_append_right (by omega),List.getElem?_append_right (by omega),hv]
   ·rw[List.getElem?_take_eq_none (by omega),List.getElem?_eq_none (by simp only[List.length_append] at hl ⊢;omega)]
def hnC(x:Hn):List Value:=(x.k.cs x.dk).toList++(x.v.cs x.dv).toList
def pairF(p:Fd×Fd):List Fd:=[p.1,p.2]
structure HnF (x:Hn) (p:Fd×Fd):Prop where
 k:x.k=p.1.dt
 v:x.v=p.2.dt
 ck:capOk x.dk.pa x.dk.pc/\capOk x.dk.ia x.dk.ic
 cv:capOk x.dv.pa x.dv.pc/\capOk x.dv.ia x.dv.ic
theorem hn_len: ∀pre:List Hn,(pre.flatMap hnC).length=pre.length*22
 | []=>rfl
 | y::pre=>by
  rw[List.flatMap_cons,List.length_append,hn_len pre]
  have:(hnC y).length=22:=by simp[hnC,Dt.cs,Hd.cells]
  simp only[List.length_cons]
  omega
theorem fo_hn{w:World}{S:Nat->Prop}{q:Nat}{t:TypeId}{cs:Array Value}(hB:Blk w q t cs): ∀(pre:List Hn) (E:List (Fd×Fd)) (o:Nat),pre.length=E.length->(∀(j:Nat) (x:Hn) (p:Fd×Fd),pre[j]? =some x->E[j]? =some p->HnF x p)->(cs.toList.drop o).take (pre.length*22)=pre.flatMap hnC->FoAt w S q o (xsF (E.flatMap pairF))
 | [],[],_,_,_,_=>trivial
 | [],_::_,_,h,_,_=>by simp at h
 | _::_,[],_,h,_,_=>by simp at h
 | x::pre,p::E,o,hl,hh,hc=>by
  have h0:=hh 0 x p rfl rfl
  have l1:(x.k.cs x.dk).toList.length=11:=by simp[Dt.cs,Hd.cells]
  have l2:(x.v.cs x.dv).toList.length=11:=by simp[Dt.cs,Hd.cells]
  rw[List.flatMap_cons] at hc
  unfold hnC at hc
  have g: ∀k,k<(pre.length+1)*22->cs.toList[o+k]? =((x.k.cs x.dk).toList++(x.v.cs x.dv).toList++pre.flatMap hnC)[k]? :=fun k hk=>by
   have:((cs.toList.drop o).take ((x::pre).length*22))[k]? =((x.k.cs x.dk).toList++(x.v.cs x.dv).toList++pre.flatMap hnC)[k]? :=by rw[hc];rfl
   rw[List.getElem?_take_of_lt (by simpa using hk),List.getElem?_drop] at this
   exact this
  have ck:w.rangeAt q o (x.k.cs x.dk).toList:=range_of hB o 11 (take_get l1 fun k hk=>by rw[g k (by omega),List.append_assoc,List.getElem?_append_left (by omega)])
  have cv:w.rangeAt q (o+11) (x.v.cs x.dv).toList:=range_of hB (o+11) 11 (take_get l2 fun k hk=>by rw[show o+11+k=o+(11+k) by omega,g (11+k) (by omega),List.append_assoc,List.getElem?_append_right (by omega),List.getElem?_append_left (by omega)];congr 1;omega)
  have e1:x.k.h=p.1.h:=by rw[h0.k];rfl
  have e2:x.v.h=p.2.h:=by rw[h0.v];rfl
  have k1:x.k.k.len=0:=by rw[h0.k];rfl
  have k2:x.v.k.len=0:=by rw[h0.v];rfl
  show FoAt w S q o (.cons p.1.h .nil (.cons p.2.h .nil (xsF (E.flatMap pairF))))
  refine⟨⟨x.dk.pa,x.dk.pc,x.dk.ia,x.dk.ic,fun j v hj=>ck j v ?_,.inl (fd_path p.1),by rw[fd_path];exact Nat.zero_le _,h0.ck.1,Nat.zero_le _,h0.ck.2,.inl rfl⟩,⟨x.dv.pa,x.dv.pc,x.dv.ia,x.dv.ic,fun j v hj=>cv j v ?_,.inl (fd_path p.2),by rw[fd_path];exact Nat.zero_le _,h0.cv.1,Nat.zero_le _,h0.cv.2,.inl rfl⟩, ?_⟩
  ·rw[Array.getElem?_toList]
   unfold Dt.cs
   rw[e1,k1]
   exact hj
  ·rw[Array.getElem?_toList]
   unfold Dt.cs
   rw[e2,k2]
   exact hj
  ·refine fo_hn hB pre E (o+11+11) (by simpa using hl) (fun j y r hy hr=>hh (j+1) y r (by simpa using hy) (by simpa using hr)) (take_get ?_ fun k hk=> ?_)
   ·exact hn_len pre
   ·rw[show o+11+11+k=o+(22+k) by omega,g (22+k) (by omega),List.getElem?_append_right (by simp only[List.length_append];omega)]
    congr 1
    simp only[List.length_append]
    omega
def tabX(E:List (Fd×Fd)):List Fd:=E.reverse.flatMap pairF
def HoldsR(w:World)(xs:List Fd)(e:Ending)(w':World):Prop:= ∃s:S3,e=.returned (.slice s.d s.n s.c)/\s.n=xs.length/\SlAt w' (fun b=>w.heap.size<=b) s.d (xsF xs)/\Below w.heap.size w w'
theorem zB_two:zB.toList=zA.toList++zA.toList:=rfl
theorem ARow.fill{w:World}{B n g c:Nat}{xs:List Value}(h:ARow w B datT 11 ⟨some ⟨g,0,none⟩,n+2,c⟩ (n+2) (xs++zB.toList))(hl:xs.length=n*11){g3:Nat}(hg:g3≠g){z:List Value}(x:Hn):
  ARow (((w.setCells g (n*11) (x.k.cs x.dk).toList).setCells g ((n+1)*11) (x.v.cs x.dv).toList).setCells g3 0 z) B datT 11 ⟨some ⟨g,0,none⟩,n+2,c⟩ (n+2) (xs++hnC x)/\
  ARow (((w.setCells g (n*11) (x.k.cs x.dk).toList).setCells g3 0 z).setCells g ((n+1)*11) (x.v.cs x.dv).toList) B datT 11 ⟨some ⟨g,0,none⟩,n+2,c⟩ (n+2) (xs++hnC x)/\
  ARow (((w.setCells g3 0 z).setCells g (n*11) (x.k.cs x.dk).toList).setCells g ((n+1)*11) (x.v.cs x.dv).toList) B datT 11 ⟨some ⟨g,0,none⟩,n+2,c⟩ (n+2) (xs++hnC x):=by
 have far: ∀{u:World} {ys:List Value},ARow u B datT 11 ⟨some ⟨g,0,none⟩,n+2,c⟩ (n+2) ys->ARow (u.setCells g3 0 z) B datT 11 ⟨some ⟨g,0,none⟩,n+2,c⟩ (n+2) ys:=fun hu=>hu.keep fun b hb=>by
  injection hb with hb
  have hb:g=b:=hb
  subst hb
  exact setCells_other _ _ _ (Ne.symm hg)
 have l1:(x.k.cs x.dk).toList.length=zA.toList.length:=by simp[Dt.cs,Hd.cells]
 have l2:(x.v.cs x.dv).toList.length=zA.toList.length:=by simp[Dt.cs,Hd.cells]
 have l11:(x.k.cs x.dk).toList.length=11:=by simp[Dt.cs,Hd.cells]
 have p1: ∀{u:World},ARow u B datT 11 ⟨some ⟨g,0,none⟩,n+2,c⟩ (n+2) (xs++zB.toList)->ARow (u.setCells g (n*11) (x.k.cs x.dk).toList) B datT 11 ⟨some ⟨g,0,none⟩,n+2,c⟩ (n+2) (xs++(x.k.cs x.dk).toList++zA.toList):=fun hu=>by
  rw[zB_two,<-List.append_assoc] at hu
  exact hu.put l1 hl.symm
 have p2: ∀{u:World},ARow u B datT 11 ⟨some ⟨g,0,none⟩,n+2,c⟩ (n+2) (xs++(x.k.cs x.dk).toList++zA.toList)->ARow (u.setCells g ((n+1)*11) (x.v.cs x.dv).toList) B datT 11 ⟨some ⟨g,0,none⟩,n+2,c⟩ (n+2) (xs++hnC x):=fun hu=>by
  have:=ARow.put (Z:=[]) (by rw[List.append_nil];exact hu) l2 (o:=(n+1)*11) (by rw[List.length_append];omega)
  rw[List.append_nil,List.append_assoc] at this
  exact this
 exact⟨far (p2 (p1 h)),p2 (far (p1 h)),p2 (p1 (far h))⟩
set_option maxHeartbeats 4000000 in
theorem hholds_tab{w:World}{p mb:Nat}{E:List (Fd×Fd)}{R:List En}{D Om:Nat->Prop}(hB:Blk w p tabT #[.pointer (some ⟨mb,0,none⟩)])(hM:MapAt w mb R D Om)(hkv:R.map kvE=E.map kvF)(hE:E.length<=100000)(hown:OwnAt w):
  Calls Tryz.prog 165 #[.pointer (some ⟨p,0,none⟩)] w (HoldsR w (tabX E)):=by
 refine calls_evM (vs:=[.pointer (some ⟨p,0,none⟩)]) 23 Tryz.func165 hht_body (by kernel_rfl) (by simp) fun a0 h0=> ?_
 unfold hhtBody
 refine wp_seq (rg_wp (hht_r0 h0 fun a1 h1=> ?_))
 refine wp_seq (rg_wp (hht_r1 h1 fun a2 h2=> ?_))
 have hS:=Blk.new w 23 #[.slice none 0 0]
 have hb1:Below w.heap.size w (w.alloc (.cells #[.slice none 0 0] 23)):=bl_alloc (Below.refl _ _) _
 change Code.wp _ _ _ a2 (w.alloc (.cells #[.slice none 0 0] 23))
 generalize w.alloc (.cells #[.slice none 0 0] 23)=w1 at hS hb1 ⊢
 have hzS:=hS.lt
 refine wp_seq (wp_seq (rg_wp (hht_r2 (mb:=mb) (C0:=fun x u=>x=w1.heap.size/\Blk u w1.heap.size 117 #[.pointer (some ⟨mb,0,none⟩)]/\Below w1.heap.size w1 u) h2 rfl (one_load (hB.below hb1 hB.lt) Tryz.underlying117 rfl rfl) ((kallm_any w1 mb).mono fun e u hh=>⟨_,hh.1,rfl,hh.2⟩) fun a3 x u hx h3=> ?_)))
 obtain⟨rfl,hG,hbu⟩:=hx
 have hbwu:=bl_trans hb1 hbu
 have hzu:=hbu.size
 have hMu:=MapAt.old hM hbwu
 have hRE:R.length=E.length:=by
  have:=congrArg List.length hkv
  simpa using this
 refine wp_block ?_
 refine range_z (σ:=S3) (g:=.tmp 10) (ps:=#[11,12]) (gf:=167) (lb:=#[.pointer (some ⟨w1.heap.size,0,none⟩)]) (h3.look 10 rfl) (Go.Proofs.enters_of Tryz.func167 (by kernel_rfl) rfl)
  (all_seq (fun _:S3=>R) R w1.heap.size mb u) (Below.refl _ _) (fun _=>rfl) (fun s b=>b=w.heap.size\/s.v.ownBlock=some b)
  (fun s pre A=>Blk A w.heap.size 23 #[.slice s.d s.n s.c]/\ARow A u.heap.size datT 11 s (2*pre.length) (pre.flatMap hnC)/\MapAt A mb R D Om/\Blk A w1.heap.size 117 #[.pointer (some ⟨mb,0,none⟩)]/\OwnAt A/\Below w.heap.size w A/\u.heap.size<=A.heap.size/\pre.length<=E.length/\(∀(j:Nat) (x:Hn) (p:Fd×Fd),pre[j]? =some x->E.reverse[j]? =some p->HnF x p))
  (fun _ _ _ _=>False) ?hI (fun _ _ _ _ _ h _=>h) ?hM ?hO ?hY ⟨none,0,0⟩ ?h0
  (fun s x _ a' A=> ∃g4 g5,Sl 23 a' [(5,.pointer (some ⟨g5,0,none⟩)),(4,.pointer (some ⟨g4,0,none⟩)),(3,.pointer (some ⟨w.heap.size,0,none⟩))] []/\Blk A g4 datT (x.k.cs x.dk)/\Blk A g5 datT (x.v.cs x.dv)/\(u.heap.size<=g4/\s.v.ownBlock≠some g4)/\u.heap.size<=g5/\s.v.ownBlock≠some g5) ?hAx ?ha ?hb ?hd (fun _ _ _ _ h=>h.elim) (fun _ _ _ _ h _=>h)
 case hI=>
  rintro s pre A C ⟨q1,q2,q3,q4,q5,q6,q7,q8⟩ e
  exact⟨q1.ext e,⟨q2.1,row_ext q2.2 e⟩,q3.ext e,q4.ext e,hown.old (Below.ext' q6 e (by omega)),Below.ext' q6 e (by omega),Nat.le_trans q7 e.size,q8⟩
 case hM=>
  rintro s pre A ⟨q1,q2,q3,q4,q5,q6,q7,q8⟩
  exact⟨by rw[q4.cell];rfl,⟨D,Om,q3⟩,by show R.length<=_;omega,fun _=>rfl,q5⟩
 case hO=>
  rintro s pre A ⟨q1,q2,q3,q4,q5,q6,q7,q8⟩ b hb
  rcases hb with rfl | hb
  ·exact q1.lt
  ·exact(q2.block hb).2
 case hY=>
  rintro _ pre x Hd A C ⟨y1,y4⟩ e
  exact⟨y1,y4.ext e⟩
 case h0=>
  exact⟨hS.below hbu hzS,ARow.nil _ _ _ _,hMu,hG,hown.old hbwu,hbwu,Nat.le_refl _,Nat.zero_le _,fun j x p h=>by simp at h⟩
 case hAx=>
  rintro _ x Hd a' A C ⟨g4,g5,x1,x2,x3,x4⟩ e
  exact⟨g4,g5,x1,x2.ext e,x3.ext e,x4⟩
 case ha=>
  rintro l s pre x Hd W Kn ⟨q1,q2,q3,q4,q5,q6,q7,q8⟩ hy hHd hK
  refine wpsI (hht_r3 (k:=x.k) (mk:=x.dk) (h3.yield2 11 12 (by omega) (by omega) _ _) rfl (dat_store (Blk.new W datT zA) (by show 0+11<=11;omega)) fun a4 h4=> ?_) (by kernel_rfl) (fun⟨_,_,h⟩=>h)
  have hX:=over_x (w:=W) x.k x.dk
  show Code.wpIn _ _ _ _ _ a4 ((W.alloc (.cells zA datT)).setCells W.heap.size 0 (x.k.cs x.dk).toList)
  generalize (W.alloc (.cells zA datT)).setCells W.heap.size 0 (x.k.cs x.dk).toList=W2 at hX ⊢
  obtain⟨hB2,hb2⟩:=hX
  have l2:=hB2.lt
  refine rg_in (hht_r4 (v:=x.v) (mv:=x.dv) h4 rfl (dat_store (Blk.new W2 datT zA) (by show 0+11<=11;omega)) fun a5 h5=> ?_) (by kernel_rfl) (fun⟨_,_,h⟩=>h)
  have hX3:=over_x (w:=W2) x.v x.dv
  have e3:((W2.alloc (.cells zA datT)).setCells W2.heap.size 0 (x.v.cs x.dv).toList)=(W2.alloc (.cells zA datT)).setCells W2.heap.size 0 (x.v.cs x.dv).toList:=rfl
  exact hK a5 _ (bl_trans hb2 hX3.2) ⟨_,_,h5.to ⟨rfl,rfl,rfl,trivial⟩,hB2.below hX3.2 l2,hX3.1,⟨q7,fun e=>by have:=(q2.block e).2;omega⟩,by omega,fun e=>by have:=(q2.block e).2;omega⟩
 case hb=>
  rintro l s pre x Hd a4 W ⟨q1,q2,q3,q4,q5,q6,q7,q8,q9⟩ ⟨⟨e,he,hxk,hxv⟩,lo,mid,hi,ax1,ax2,_⟩ hHd ⟨g4,g5,h4,x2,x3,⟨x4,n4⟩,x5,n5⟩
  have hdr:Below W.heap.size W (W.drewN 1):=below_drewN (Below.refl _ _) 1
  have hpl:pre.length<E.length:=by
   have:=(List.getElem?_eq_some_iff.1 he).1
   rw[List.length_reverse] at this
   omega
  obtain⟨g,c,w',hrun,hA,hMv,hgx⟩:=app_two (q2.old hdr) (by omega) q7
  have hl:(pre.flatMap hnC).length=2*pre.length*11:=by rw[hn_len];omega
  have hlw:=q1.lt
  have hl4:=x2.lt
  have hl5:=x3.lt
  have hg3:w.heap.size≠g:=fun e=>by
   rcases hgx with q | q
   ·have:=(q2.block q).1
    omega
   ·have:W.heap.size<g:=q
    omega
  have ng4:g4≠g:=fun e=>by
   rcases hgx with q | q
   ·exact n4 (by rw[e];exact q)
   ·have:W.heap.size<g:=q
    omega
  have ng5:g5≠g:=fun e=>by
   rcases hgx with q | q
   ·exact n5 (by rw[e];exact q)
   ·have:W.heap.size<g:=q
    omega
  have w4:g4≠w.heap.size:=by omega
  have w5:g5≠w.heap.size:=by omega
  have hMW:Moved (fun b=>b=w.heap.size\/s.v.ownBlock=some b) W w':=(Moved.of_below hdr).trans (hMv.more fun b hb=>.inl (.inr hb))
  have hgO:(g=w.heap.size\/s.v.ownBlock=some g)\/W.heap.size<=g:=hgx.elim (fun q=>.inl (.inr q)) (fun q=>.inr (Nat.le_of_lt q))
  have hw4:Blk w' g4 datT (x.k.cs x.dk):=(hMv.block _ hl4 n4).trans x2
  have hw5:Blk w' g5 datT (x.v.cs x.dv):=(hMv.block _ hl5 n5).trans x3
  have hw3:Blk w' w.heap.size 23 #[.slice s.d s.n s.c]:=(hMv.block _ hlw (fun e=>by have:=(q2.block e).1;omega)).trans q1
  obtain⟨cs,hgB,hcz⟩: ∃cs,Blk w' g datT cs/\(2*pre.length+2)*11<=cs.size:=by
   rcases ARow.cases hA with⟨e,_⟩ | ⟨g',cs,e1,e2,e3,e4,e5,e6,e7,e8⟩
   ·cases e
   ·injection e2 with e2
    have e2:g=g':=e2
    subst e2
    exact⟨cs,e4,by rw[e7];exact Nat.mul_le_mul_right 11 e5⟩
  obtain⟨C,hC⟩: ∃C:World->Prop,C=fun z=>Blk z g4 datT (x.k.cs x.dk)/\Blk z g5 datT (x.v.cs x.dv):=⟨_,rfl⟩
  have hCg: ∀(z:World) (o:Nat) (vs:List Value),C z->C (z.setCells g o vs):=fun z o vs hz=>by
   rw[hC] at hz ⊢
   exact⟨Blk.farL ng4 _ _ _ hz.1,Blk.farL ng5 _ _ _ hz.2⟩
  have hC3: ∀(z:World) (o:Nat) (vs:List Value),C z->C (z.setCells w.heap.size o vs):=fun z o vs hz=>by
   rw[hC] at hz ⊢
   exact⟨Blk.farL w4 _ _ _ hz.1,Blk.farL w5 _ _ _ hz.2⟩
  have hCw:C w':=by rw[hC];exact⟨hw4,hw5⟩
  have sg: ∀(z:World) (cs:Array Value) (d:Dt) (m:Dm) (o:Nat),Blk z g datT cs->o+11<=cs.size->So datT g o (.agg (d.cs m)) z (d.cs m).toList:=fun z cs d m o hz ho=>dat_store hz ho
  have s3: ∀(z:World),Blk z w.heap.size 23 #[.slice s.d s.n s.c]->So 23 w.heap.size 0 (.slice (some ⟨g,0,none⟩) (2*pre.length+2) c) z [.slice (some ⟨g,0,none⟩) (2*pre.length+2) c]:=fun z hz=>one_store hz (by kernel_rfl) (by show 0<1;omega) rfl
  have gset: ∀(z:World) (cs:Array Value) (o:Nat) (vs:List Value),Blk z g datT cs->∃cs',Blk (z.setCells g o vs) g datT cs'/\cs'.size=cs.size:=fun z cs o vs hz=>⟨_,Blk.setL vs o _ _ hz,foldSet_size _ _ _⟩
  have b3g: ∀(z:World) (t:TypeId) (cs:Array Value) (o:Nat) (vs:List Value),Blk z w.heap.size t cs->Blk (z.setCells g o vs) w.heap.size t cs:=fun z t cs o vs hz=>Blk.farL hg3 _ _ _ hz
  have bg3: ∀(z:World) (cs:Array Value) (o:Nat) (vs:List Value),Blk z g datT cs->Blk (z.setCells w.heap.size o vs) g datT cs:=fun z cs o vs hz=>Blk.farL (Ne.symm hg3) _ _ _ hz
  have hset3: ∀(z:World),Blk z w.heap.size 23 #[.slice s.d s.n s.c]->Blk (z.setCells w.heap.size 0 [.slice (some ⟨g,0,none⟩) (2*pre.length+2) c]) w.heap.size 23 #[.slice (some ⟨g,0,none⟩) (2*pre.length+2) c]:=fun z hz=>hz.set_ 0 _
  obtain⟨c1,g1,z1⟩:=gset w' cs (2*pre.length*11) (x.k.cs x.dk).toList hgB
  obtain⟨r1,r2,r3⟩:=ARow.fill hA hl (g3:=w.heap.size) hg3 (z:=[.slice (some ⟨g,0,none⟩) (2*pre.length+2) c]) x
  have fin: ∀(a':Act) (Wf:World),Blk Wf w.heap.size 23 #[.slice (some ⟨g,0,none⟩) (2*pre.length+2) c]->ARow Wf u.heap.size datT 11 ⟨some ⟨g,0,none⟩,2*pre.length+2,c⟩ (2*pre.length+2) (pre.flatMap hnC++hnC x)->Moved (fun b=>b=w.heap.size\/s.v.ownBlock=some b) W Wf->
    postZ (fun(s:S3) b=>b=w.heap.size\/s.v.ownBlock=some b) u.heap.size (fun s pre A=>Blk A w.heap.size 23 #[.slice s.d s.n s.c]/\ARow A u.heap.size datT 11 s (2*pre.length) (pre.flatMap hnC)/\MapAt A mb R D Om/\Blk A w1.heap.size 117 #[.pointer (some ⟨mb,0,none⟩)]/\OwnAt A/\Below w.heap.size w A/\u.heap.size<=A.heap.size/\pre.length<=E.length/\(∀(j:Nat) (x:Hn) (p:Fd×Fd),pre[j]? =some x->E.reverse[j]? =some p->HnF x p)) (fun _ _ _ _=>False) s Hd (pre++[x]) W .normal a' Wf:=fun a' Wf f1 f2 f3=>by
   have hbl: ∀b,b<u.heap.size->b≠w.heap.size->b<W.heap.size->Wf.heap[b]? =W.heap[b]? :=fun b h1 h2 h3=>f3.block b h3 fun q=>by
    rcases q with q | q
    ·exact h2 q
    ·have:=(q2.block q).1
     omega
   have hlen:(pre++[x]).length=pre.length+1:=by simp
   have hbf:Below w.heap.size w Wf:=f3.below q6 (fun b hb q=>by
    rcases q with q | q
    ·omega
    ·have:=(q2.block q).1
     omega) q6.size
   refine⟨keeps_cel f3 fun b hb=> ?_,⟨some ⟨g,0,none⟩,2*pre.length+2,c⟩,⟨f1, ?_, ?_, ?_,hown.old hbf,hbf,Nat.le_trans q7 f3.size,by rw[hlen];omega, ?_⟩,f3.more (fun b hb=>.inl hb),fun b hb=> ?_⟩
   ·rcases hb with rfl | hb
    ·exact⟨_,_,q1⟩
    ·rcases ARow.cases q2 with⟨e,_⟩ | ⟨g',cs,_,e2,_,e4,_⟩
     ·rw[e] at hb
      cases hb
     ·rw[e2] at hb
      injection hb with hb
      subst hb
      exact⟨_,_,e4⟩
   ·rw[hlen,List.flatMap_append,List.flatMap_singleton]
    exact f2
   ·have hd:=MapAt.dlim hM
    have hzW:=q6.size
    exact MapAt.keepB q3 f3.size fun b hb=>hbl b (by have:=hd b hb;omega) (by have:=hd b hb;omega) (by have:=hd b hb;omega)
   ·exact(hbl _ hG.lt (by omega) (by omega)).trans q4
   ·intro j y p hy hp
    rcases Nat.lt_or_ge j pre.length with hj | hj
    ·rw[List.getElem?_append_left hj] at hy
     exact q9 j y p hy hp
    ·rw[List.getElem?_append_right hj] at hy
     have hj0:j-pre.length=0:=by
      have:=(List.getElem?_eq_some_iff.1 hy).1
      simp at this
      omega
     rw[hj0] at hy
     have hy:x=y:=by simpa using hy
     subst hy
     obtain rfl:j=pre.length:=by omega
     have hk:R.reverse.map kvE=E.reverse.map kvF:=by rw[List.map_reverse,List.map_reverse,hkv]
     have h5:(R.reverse.map kvE)[pre.length]? =(E.reverse.map kvF)[pre.length]? :=by rw[hk]
     rw[List.getElem?_map,List.getElem?_map,he,hp] at h5
     injection h5 with h5
     exact⟨hxk.trans (congrArg Prod.fst h5),hxv.trans (congrArg Prod.snd h5),⟨ax1.dat.pcMax,ax1.dat.icMax⟩,⟨ax2.dat.pcMax,ax2.dat.icMax⟩⟩
   ·rcases hb with hb | hb
    ·exact .inl (.inl hb)
    ·injection hb with hb
     have hb:g=b:=hb
     subst hb
     rcases hgO with q | q
     ·exact .inl q
     ·exact .inr (.inr q)
  refine wpIn_block (wplI (hht_r5 (C:=C) (C0:=fun _ c' v=>c'=c/\v=w') (ad:=s.d) (an:=2*pre.length) (ac:=s.c) (gx:=g) (k:=x.k) (mk:=x.dk) (v:=x.v) (mv:=x.dv) h4 rfl rfl rfl ?a0 ?a1 ?a2 ?a3 (by omega) ?a5 ?a6 ?a7 ?a8 ?a9 ?a10 ?a11 ?a12 ?a13 ?a14 ?a15 ?a16 ?a17 ?a18 ?a19 ?a20 ?a21 ?a22 ?a23 ?a24 ?a25 ?a26 ?f0 ?f1 ?f2) (by kernel_rfl) (block_outs postZ_out))
  case a0=>rw[hC];exact⟨x2,x3⟩
  case a1=>exact fun z hz=>by rw[hC] at hz;exact dat_load hz.1 rfl
  case a2=>exact fun z hz=>by rw[hC] at hz;exact dat_load hz.2 rfl
  case a3=>exact one_load (t:=23) (cs:=#[.slice s.d (2*pre.length) s.c]) (by have:=q1;rw[q2.1] at this;exact this) Tryz.underlying23 rfl rfl
  case a5=>rw[hC];exact⟨x2.alloc _,x3.alloc _⟩
  case a6=>exact fun ty=>⟨c,w',by have:=hrun ty;rw[q2.1] at this;exact this,rfl,rfl⟩
  case a7=>exact fun c' v hc=>by rw[hc.2];exact hCw
  case a8=>exact fun c' v hc w=>by rw[hc.1];exact ix_row (by omega) w
  case a9=>exact fun c' v hc=>by rw[hc.2];exact sg w' cs _ _ _ hgB (by omega)
  case a10=>exact fun c' v hc=>by rw[hc.2];exact hCg _ _ _ hCw
  case a11=>exact fun c' v hc w=>by rw[hc.1];exact ix_row (j:=2*pre.length+1) (by omega) w
  case a12=>exact fun c' v hc=>by rw[hc.2];exact sg _ c1 _ _ _ g1 (by omega)
  case a13=>exact fun c' v hc=>by rw[hc.2];exact hCg _ _ _ (hCg _ _ _ hCw)
  case a14=>exact fun c' v hc=>by rw[hc.1,hc.2];exact s3 _ (b3g _ _ _ _ _ (b3g _ _ _ _ _ hw3))
  case a15=>exact fun c' v hc=>by rw[hc.1,hc.2];exact hC3 _ _ _ (hCg _ _ _ (hCg _ _ _ hCw))
  case a16=>exact fun c' v hc=>by rw[hc.1,hc.2];exact s3 _ (b3g _ _ _ _ _ hw3)
  case a17=>exact fun c' v hc=>by rw[hc.1,hc.2];exact hC3 _ _ _ (hCg _ _ _ hCw)
  case a18=>exact fun c' v hc=>by rw[hc.1,hc.2];exact sg _ c1 _ _ _ (bg3 _ _ _ _ g1) (by omega)
  case a19=>exact fun c' v hc=>by rw[hc.1,hc.2];exact hCg _ _ _ (hC3 _ _ _ (hCg _ _ _ hCw))
  case a20=>exact fun c' v hc=>by rw[hc.1,hc.2];exact s3 _ hw3
  case a21=>exact fun c' v hc=>by rw[hc.1,hc.2];exact hC3 _ _ _ hCw
  case a22=>exact fun c' v hc=>by rw[hc.1,hc.2];exact sg _ cs _ _ _ (bg3 _ _ _ _ hgB) (by omega)
  case a23=>exact fun c' v hc=>by rw[hc.1,hc.2];exact hCg _ _ _ (hC3 _ _ _ hCw)
  case a24=>
   intro c' v hc
   rw[hc.1,hc.2]
   obtain⟨c2,g2,z2⟩:=gset _ cs (2*pre.length*11) (x.k.cs x.dk).toList (bg3 w' cs 0 [.slice (some ⟨g,0,none⟩) (2*pre.length+2) c] hgB)
   exact sg _ c2 _ _ _ g2 (by omega)
  case a25=>exact fun c' v hc=>by rw[hc.1,hc.2];exact hCg _ _ _ (hCg _ _ _ (hC3 _ _ _ hCw))
  case a26=>exact one_load (t:=23) (cs:=#[.slice s.d (2*pre.length) s.c]) (by have:=q1.alloc (.cells zB datT);rw[q2.1] at this;exact this) Tryz.underlying23 rfl rfl
  case f0=>
   intro a' c' v hc _
   rw[hc.1,hc.2]
   exact block_norm (fin a' _ (hset3 _ (b3g _ _ _ _ _ (b3g _ _ _ _ _ hw3))) r1 (((hMW.set hgO _ _).set hgO _ _).set (.inl (.inl rfl)) _ _))
  case f1=>
   intro a' c' v hc _
   rw[hc.1,hc.2]
   exact block_norm (fin a' _ (b3g _ _ _ _ _ (hset3 _ (b3g _ _ _ _ _ hw3))) r2 (((hMW.set hgO _ _).set (.inl (.inl rfl)) _ _).set hgO _ _))
  case f2=>
   intro a' c' v hc _
   rw[hc.1,hc.2]
   exact block_norm (fin a' _ (b3g _ _ _ _ _ (b3g _ _ _ _ _ (hset3 _ hw3))) r3 (((hMW.set (.inl (.inl rfl)) _ _).set hgO _ _).set hgO _ _))
 case hd=>
  rintro s xs W hE' ⟨q1,q2,q3,q4,q5,q6,q7,q8,q9⟩ hD
  have hxl:xs.length=E.length:=by rw[show xs.length=R.length from hE',hRE]
  refine block_norm ?_
  have h5:Sl 23 {a3 with defers:={target:=.collected u.heap.size,args:=#[]}::a3.defers} [(3,.pointer (some ⟨w.heap.size,0,none⟩))] [{target:=.collected u.heap.size,args:=#[]}]:=by
   have h6:=h3.to (l0:=[(3,.pointer (some ⟨w.heap.size,0,none⟩))]) ⟨rfl,trivial⟩
   exact⟨h6.size,by simp[h6.defers],h6.known⟩
  refine wp_seq (rg_wp (hht_r6 h5 rfl (one_load q1 Tryz.underlying23 rfl rfl) fun a6 h6=>wp_ret ?_))
  show LeavesInM Fence.wide 9 Tryz.prog Tryz.f165 a6.tmps (HoldsR w (tabX E)) a6.defers .returning W
  rw[h6.defers]
  refine leaves_ok (ds:=[u.heap.size]) u.heap.size _ (by simp) (fun D hD'=>by rw[List.mem_singleton.1 hD'];exact⟨Nat.le_refl _,hD⟩) fun W' hx=>⟨.slice s.d s.n s.c,results_slot rfl h6 rfl,s,rfl, ?_, ?_,Below.ext' q6 hx (by omega)⟩
  ·rw[q2.1,hxl]
   unfold tabX
   rw[List.length_flatMap]
   have:(List.map (fun a=>(pairF a).length) E.reverse).sum=2*E.length:=by
    have e:(fun a:Fd×Fd=>(pairF a).length)=fun _=>2:=rfl
    rw[e,List.map_const',List.sum_replicate_nat,List.length_reverse]
    omega
   rw[this]
  ·rcases ARow.cases q2 with⟨e,e0,_⟩ | ⟨g,cs,e1,e2,e3,e4,e5,e6,e7,e8⟩
   ·have:E=[]:=List.eq_nil_of_length_eq_zero (by omega)
    subst this
    exact .inl rfl
   ·refine .inr ⟨g,0,by rw[e1],Nat.le_trans hbwu.size e3,fo_hn (e4.ext hx) xs E.reverse 0 (by rw[hxl,List.length_reverse]) (fun j x p h1 h2=>q9 j x p h1 h2) ?_⟩
    rw[List.drop_zero,show xs.length*22=2*xs.length*11 by omega]
    exact e8
end Go.Proofs.YtbjegfpfmnleeaaGreatDoor
