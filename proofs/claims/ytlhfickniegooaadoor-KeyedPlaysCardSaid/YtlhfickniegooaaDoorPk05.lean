/-
   Written by an AI agent.
-/
import Derived.Test.YtlhfickniegooaaDoorPk03
import Derived.Test.YtlhfickniegooaaDoorProg
import Derived.Test.YtlhfickniegooaaDoorPk04
namespace Go.Proofs.YtlhfickniegooaaDoor
open Go.RowKit
variable {df:List Deferred}
set_option maxRecDepth 100000
def evKB(P:Program)(C:World->Prop)(l:List (Nat×Value))(k:Value->List Giv->Prop):Op->List Giv->Prop
 | .binOp op _ x y _,.bit b::g=>match cmpP op (rho l x) (rho l y) with
  | some c=>c=b/\k (.bool b) g
  | none=>False
 | .binOp op t x y _,.bin v::g=>(∀w':World,(do eqGuard op t x y (rho l x) (rho l y);binOp op t (rho l x) (rho l y):Sem Value).run P w'=.ok v w')/\k v g
 | .index t x i,.val v::g=>(∀w':World,(Instr.index t (rho l x) (rho l i)).run P w'=.ok v w')/\k v g
 | .indexAddr t x i,.val v::g=>(∀w':World,(Instr.indexAt t (rho l x) (rho l i)).run P w'=.ok v w')/\k v g
 | .slice t x a b c,.val v::g=>(∀w':World,(Instr.sliceAt t (rho l x) (a.map (rho l)) (b.map (rho l)) (c.map (rho l))).run P w'=.ok v w')/\k v g
 | .convert s d x,.val v::g=>(∀w':World,(convert s d (rho l x)).run P w'=.ok v w')/\k v g
 | .load t x,.val v::g=>(∀u,C u->(Instr.loadAt t (rho l x)).run P u=.ok v u)/\k v g
 | .call c,.val v::g=>(∀u,C u->callK P l u c (fun e w'=>e=.returned v/\C w'))/\k v g
 | .binOp op _ x y _,.ari::g=>match ariP op (rho l x) (rho l y) with
  | some z=>inK z.1 z.2/\k (.int z.1 z.2) g
  | none=>False
 | _,_=>False
def evOpB(P:Program)(C:World->Prop)(l:List (Nat×Value))(o:Oper)(g:List Giv)(k:Value->List Giv->Prop):Prop:=
 match isSel o.op,o.op.operands.toList.all (knO l) with
 | false,true=>match pureV P l o with
  | some v=>k v g
  | none=>evKB P C l k o.op g
 | _,_=>False
theorem evOpB_quiet{P:Program}{C:World->Prop}{l:List (Nat×Value)}{o:Oper}{g:List Giv}{k:Value->List Giv->Prop}{a:Act}{N:Act->Prop}(ha:Agr a l)(h:evOpB P C l o g k)
    (hk: ∀v g',k v g'->N (a.put o.dst v)):o.quiet P a C N:=by
  unfold evOpB at h
  split at h
  · rename_i hs hkn
    have hsel: ∀cs b,o.op≠.select cs b:=fun cs b e=>by rw[e] at hs;cases hs
    have he:execOp a.eval o=execOp (rho l) o:=execOp_congr o hsel fun x hx=>ha.rho (List.all_eq_true.1 hkn x (by simpa using hx))
    have hval: ∀v g',(∀w':World,C w'->(execOp (rho l) o).run P w'=.ok (.value v) w')->k v g'->o.quiet P a C N:=fun v g' hr hh=>
      ⟨v, fun w' hw => by
        unfold Oper.quietAt
        rw[he,hr w' hw]
        exact⟨rfl,rfl⟩,hk v g' hh⟩
    split at h
    · rename_i v hv
      exact hval v g (fun _ _=>pure_run hv) h
    · generalize ho:o.op=op at h
      unfold evKB at h
      split at h
      · split at h
        · rename_i c hc
          obtain⟨rfl,h⟩:=h
          exact hval _ _ (fun _ _=>cmp_run ho hc) h
        · exact h.elim
      · rename_i op' t1 x1 y1 t2 v1 g1
        have h1:=h.1
        exact hval _ _ (fun w' _=>by
          have:execOp (rho l) o=(do pure (.value (<-(do eqGuard op' t1 x1 y1 (rho l x1) (rho l y1);binOp op' t1 (rho l x1) (rho l y1):Sem Value))):Sem Next):=by unfold execOp;rw[ho]
          rw[this,Sem.run_bind,h1 w']
          rfl) h.2
      · exact hval _ _ (fun w' _=>by simp[execOp,ho,h.1]) h.2
      · exact hval _ _ (fun w' _=>by simp[execOp,ho,h.1]) h.2
      · exact hval _ _ (fun w' _=>by simp[execOp,ho,h.1]) h.2
      · exact hval _ _ (fun w' _=>by simp[execOp,ho,h.1]) h.2
      · exact hval _ _ (fun w' hw=>by simp[execOp,ho,h.1 w' hw]) h.2
      · rename_i c v1 g1
        refine⟨v1,fun w' hw'=> ?_,hk _ _ h.2⟩
        obtain⟨i,hr,hC⟩:=call_run ho (h.1 w' hw')
        unfold Oper.quietAt
        rw[he,hr]
        exact⟨rfl,hC⟩
      · split at h
        · rename_i z hz
          exact hval _ _ (fun _ _=>ari_run ho hz h.1) h.2
        · exact h.elim
      · exact h.elim
  · exact h.elim
def evB(P:Program)(n:Nat)(ops:Array Oper)(C:World->Prop):List Oper->List Giv->List (Nat×Value)->(List (Nat×Value)->Prop)->Prop
 | [],_,l,K=>K l
 | o::r,g,l,K=>match dstOk n o.dst,gdL ops l o with
  | true,some true=>evOpB P C l o g (fun v g'=>evB P n ops C r g' (putL o.dst v l) K)
  | true,some false=>evB P n ops C r g (putL o.dst undef l) K
  | _,_=>False
theorem evB_wp{P:Program}{n:Nat}{ops:Array Oper}{C:World->Prop}{Q:Act->Prop}: ∀(r:List Oper) (g:List Giv) (l:List (Nat×Value)) (K:List (Nat×Value)->Prop) (a:Act),
  a.tmps.size=n->a.defers=df->Agr a l->evB P n ops C r g l K->
  (∀a' l',a'.tmps.size=n->a'.defers=df->Agr a' l'->(∀k,some k∉r.map (·.dst)->slot a' k=slot a k)->K l'->Q a')->wpQuiet P ops C Q r a
 | [],g,l,K,a,h1,h2,h3,h,hQ=>hQ a l h1 h2 h3 (fun _ _=>rfl) h
 | o::r,g,l,K,a,h1,h2,h3,h,hQ=>by
  unfold evB at h
  have next: ∀v g',dstOk n o.dst=true->evB P n ops C r g' (putL o.dst v l) K->wpQuiet P ops C Q r (a.put o.dst v):=fun v g' hd hh=>
   evB_wp r g' _ K (a.put o.dst v) ((act_put_size _ _ _).trans h1) ((put_defers _ _ _).trans h2) (agr_put h3 h1 hd) hh fun a' l' q1 q2 q3 q4 q5=>
    hQ a' l' q1 q2 q3 (fun k hk=>(q4 k (fun hm=>hk (List.mem_cons_of_mem _ hm))).trans (put_slot a _ v k fun e=>hk (by rw[List.map_cons,e];exact List.mem_cons_self))) q5
  split at h
  ·rename_i hd hg
   refine wpQuiet_step fun N hN=> ?_
   rw[if_pos (by rw[gd_wanted h3 hg])]
   exact evOpB_quiet h3 h fun v g' hh=>hN _ (next v g' hd hh)
  ·rename_i hd hg
   refine wpQuiet_step fun N hN=> ?_
   rw[if_neg (by rw[gd_wanted h3 hg];simp)]
   exact hN _ (next undef g hd h)
  ·exact h.elim
def evCB(P:Program)(n:Nat)(ds:List Nat)(C:World->Prop)(w:World)(g:List Giv)(l0:List (Nat×Value))(K:List (Nat×Value)->Prop):Code->Prop
 | .region _ ops true=>match dstIn ds ops.toList,P.follows .mixedOrders,Region.lexB .any ops with
  | true,true,true=>C (w.drewN 1)/\evB P n ops C ops.toList g l0 K
  | _,_,_=>False
 | _=>False
theorem regB{P:Program}{n:Nat}{a:Act}{w:World}{l l0:List (Nat×Value)}{c:Code}{N:Act->World->Prop}{Q:Exit->Act->World->Prop}{T:Prop}(C:World->Prop)(keep ds:List Nat)(g:List Giv)(hs:Sl n a l df)(h0:AllL l l0)(hT:T)
  (he:T=evCB P n ds C w g l0 (fun l1=> ∀a' u,C u->Sl n a' (outL keep l1 (dropL ds l)) df->N a' u) c):rg P (Exit.then N Q) a w c:=by
 rw[he] at hT
 unfold evCB at hT
 split at hT
 ·rename_i id ops
  split at hT
  ·rename_i hd hm hl
   refine rg_quiet (C:=C) hm hl hT.1 (evB_wp ops.toList g l0 _ a hs.size hs.defers (hs.to h0).agr hT.2 ?_)
   rintro a' l' q1 q2 q3 q4 q5 w' hw
   refine q5 a' w' hw (outL_sl q3 keep ⟨q1,q2,fun p hp=> ?_⟩)
   unfold dropL at hp
   obtain⟨hp1,hp2⟩:=List.mem_filter.1 hp
   rw[q4 p.1 (dstIn_spec hd p.1 (by simpa using hp2))]
   exact hs.known p hp1
  ·exact hT.elim
 ·exact hT.elim
end Go.Proofs.YtlhfickniegooaaDoor

namespace Go.Proofs.YtlhfickniegooaaDoor
open Go.RowKit
abbrev pT(g:Nat):Value:=.pointer (some ⟨g,0,none⟩)
abbrev pF(g o:Nat):Value:=.pointer (some ⟨g,o,none⟩)
abbrev ii(x:Int):Value:=.int .i64 x
abbrev Lk(l:List (Nat×Value))(k:Nat)(v:Value):Prop:=l.lookup k=some v
abbrev Lp(t:TypeId)(x v:Value)(w:World):Prop:=Lds Tryd.prog t x v w
abbrev Ix(t:TypeId)(x i p:Value):Prop:= ∀w,(Instr.indexAt t x i).run Tryd.prog w=.ok p w
abbrev So(t:TypeId)(g o:Nat)(v:Value)(w:World)(vs:List Value):Prop:=(Instr.storeAt t (.pointer (some ⟨g,o,none⟩)) v).run Tryd.prog w=.ok () (w.setCells g o vs)
abbrev Ca(f:FuncId)(xs:Array Value)(w:World)(R:Ending->World->Prop):Prop:=Calls Tryd.prog f xs w R
abbrev Cl(f:FuncId)(xs:Array Value)(w:World)(v:Value)(C:World->Prop):Prop:=Calls Tryd.prog f xs w fun e w'=>e=.returned v/\C w'
abbrev Rg(N:Act->World->Prop)(Q:Exit->Act->World->Prop)(a:Act)(w:World)(c:Code):Prop:=rg Tryd.prog (Exit.then N Q) a w c
abbrev zA:Array Value:=#[.int .i64 0,.string ⟨#[]⟩,.int .i64 0,.int .u64 0,.string ⟨#[]⟩,.int .i64 0,.int .i64 0,.int .i64 0,.int .i64 0,.slice none 0 0,.slice none 0 0]
theorem aI{a b:Prop}(x:a)(y:b):a/\b:=⟨x,y⟩
end Go.Proofs.YtlhfickniegooaaDoor

namespace Go.Proofs.YtlhfickniegooaaDoor
open Go.RowKit Go.Sort
set_option maxRecDepth 100000
variable {a:Act} {w:World} {df:List Deferred} {N:Act->World->Prop} {Q:Exit->Act->World->Prop} {l:List (Nat×Value)}
noncomputable def r_lw (n:Nat):Code:=((Tryd.f8.body.bind (findR n)).getD .skip)
noncomputable def lwBody:Code:=(.seq (r_lw 0) (.seq (r_lw 1) .ret))
theorem lw_body:Tryd.f8.body=some lwBody:=by kernel_rfl
theorem lw_r0(hs:Sl 5 a l df)
  (hN: ∀a',Sl 5 a' ((2,pT w.heap.size)::dropL [2] l) df->N a' (w.alloc (.cells zA 31))):Rg N Q a w (r_lw 0):=
 reg (l0:=[]) [2] [2] [.raw] hs trivial hN (by kernel_rfl)
theorem lw_r1{n:Int}{g2:Nat}(hs:Sl 5 a l df)(e0:Lk l 0 (ii n))(e2:Lk l 2 (pT g2))(s0:So 31 g2 0 (.agg #[ii 2,.string (⟨#[105,110,116]⟩),ii n,.int .u64 0,.string (⟨#[]⟩),ii 0,ii 0,ii 0,ii 0,.slice none 0 0,.slice none 0 0]) w [ii 2,.string (⟨#[105,110,116]⟩),ii n,.int .u64 0,.string (⟨#[]⟩),ii 0,ii 0,ii 0,ii 0,.slice none 0 0,.slice none 0 0])
  (hN: ∀a',Sl 5 a' (dropL [3,4] l) df->N a' (w.setCells g2 0 [ii 2,.string (⟨#[105,110,116]⟩),ii n,.int .u64 0,.string (⟨#[]⟩),ii 0,ii 0,ii 0,ii 0,.slice none 0 0,.slice none 0 0])):Rg N Q a w (r_lw 1):=
 reg (l0:=[(0,ii n),(2,pT g2)]) [] [3,4] [.raw,.sto] hs ⟨e0,e2,trivial⟩ (aI s0 hN) (by kernel_rfl)
noncomputable def r_lt (n:Nat):Code:=((Tryd.f20.body.bind (findR n)).getD .skip)
noncomputable def ltBody:Code:=(.seq (r_lt 0) (.seq (r_lt 1) .ret))
theorem lt_body:Tryd.f20.body=some ltBody:=by kernel_rfl
theorem lt_r0(hs:Sl 5 a l df)
  (hN: ∀a',Sl 5 a' ((2,pT w.heap.size)::dropL [2] l) df->N a' (w.alloc (.cells zA 31))):Rg N Q a w (r_lt 0):=
 reg (l0:=[]) [2] [2] [.raw] hs trivial hN (by kernel_rfl)
theorem lt_r1{s:ByteArray}{g2:Nat}(hs:Sl 5 a l df)(e0:Lk l 0 (.string s))(e2:Lk l 2 (pT g2))(s0:So 31 g2 0 (.agg #[ii 4,.string (⟨#[116,101,120,116]⟩),ii 0,.int .u64 0,.string s,ii 0,ii 0,ii 0,ii 0,.slice none 0 0,.slice none 0 0]) w [ii 4,.string (⟨#[116,101,120,116]⟩),ii 0,.int .u64 0,.string s,ii 0,ii 0,ii 0,ii 0,.slice none 0 0,.slice none 0 0])
  (hN: ∀a',Sl 5 a' (dropL [3,4] l) df->N a' (w.setCells g2 0 [ii 4,.string (⟨#[116,101,120,116]⟩),ii 0,.int .u64 0,.string s,ii 0,ii 0,ii 0,ii 0,.slice none 0 0,.slice none 0 0])):Rg N Q a w (r_lt 1):=
 reg (l0:=[(0,.string s),(2,pT g2)]) [] [3,4] [.raw,.sto] hs ⟨e0,e2,trivial⟩ (aI s0 hN) (by kernel_rfl)
noncomputable def r_ls (n:Nat):Code:=((Tryd.f13.body.bind (findR n)).getD .skip)
noncomputable def lsBody:Code:=(.seq (r_ls 0) (.seq (r_ls 1) (.seq (r_ls 2) .ret)))
theorem ls_body:Tryd.f13.body=some lsBody:=by kernel_rfl
theorem ls_r0{da db:Dt}{ma mb:Dm}(hs:Sl 10 a l df)(e0:Lk l 0 (.agg (da.cs ma)))(e1:Lk l 1 (.agg (db.cs mb)))
  (hN: ∀a',Sl 10 a' ((2,pT w.heap.size)::(3,pT ((w.alloc (.cells (da.cs ma) 31)).heap.size))::(4,.bool false)::dropL [2,3,4] l) df->N a' ((w.alloc (.cells (da.cs ma) 31)).alloc (.cells (db.cs mb) 31))):Rg N Q a w (r_ls 0):=
 reg (l0:=[(0,.agg (da.cs ma)),(1,.agg (db.cs mb))]) [2,3,4] [2,3,4] [.raw,.raw] hs ⟨e0,e1,trivial⟩ hN (by kernel_rfl)
theorem ls_r1{g2 g3:Nat}{da db:Dt}{ma mb:Dm}{b5:Bool}{C0:World->Prop}(hs:Sl 10 a l df)(e2:Lk l 2 (pT g2))(e3:Lk l 3 (pT g3))(l0:Lp 31 (pT g2) (.agg (da.cs ma)) w)(l1:Lp 31 (pT g3) (.agg (db.cs mb)) w)(k2:Cl 29 #[.agg (da.cs ma),.agg (db.cs mb)] w (.bool b5) C0)
  (hN: ∀a' (w1:World),C0 w1->Sl 10 a' ((5,.bool b5)::dropL [5,6,7,8] l) df->N a' w1):Rg N Q a w (r_ls 1):=
 reg (l0:=[(2,pT g2),(3,pT g3)]) [5] [5,6,7,8] [.val (.agg (da.cs ma)),.val (.agg (db.cs mb)),.ret (.bool b5) C0] hs ⟨e2,e3,trivial⟩ (aI l0.run (aI l1.run (aI k2 (fun(w1:World) (hc0:C0 w1)=>(fun a'=>hN a' w1 hc0))))) (by kernel_rfl)
theorem ls_r2{b5:Bool}(hs:Sl 10 a l df)(e5:Lk l 5 (.bool b5))
  (hN: ∀a',Sl 10 a' ((4,.bool b5)::dropL [4,9] l) df->N a' w):Rg N Q a w (r_ls 2):=
 reg (l0:=[(5,.bool b5)]) [4] [4,9] [] hs ⟨e5,trivial⟩ hN (by kernel_rfl)
noncomputable def r_lp (n:Nat):Code:=((Tryd.f18.body.bind (findR n)).getD .skip)
noncomputable def lpBody:Code:=(.seq (r_lp 0) (.seq (.seq (r_lp 1) (.cond (.tmp 6) (r_lp 2) .skip)) (.seq (r_lp 3) .ret)))
theorem lp_body:Tryd.f18.body=some lpBody:=by kernel_rfl
theorem lp_r0(hs:Sl 13 a l df)
  (hN: ∀a',Sl 13 a' ((4,ii 0)::dropL [4] l) df->N a' w):Rg N Q a w (r_lp 0):=
 reg (l0:=[]) [4] [4] [] hs trivial hN (by kernel_rfl)
theorem lp_r1{c:Int}{b6:Bool}(hs:Sl 13 a l df)(e0:Lk l 0 (ii c))(h0:decide (c<0)=b6)
  (hN: ∀a',Sl 13 a' ((6,.bool b6)::dropL [5,6] l) df->N a' w):Rg N Q a w (r_lp 1):=
 reg (l0:=[(0,ii c)]) [6] [5,6] [.bit b6] hs ⟨e0,trivial⟩ (aI h0 hN) (by kernel_rfl)
theorem lp_r2{c v9:Int}(hs:Sl 13 a l df)(e0:Lk l 0 (ii c))(h0: -9223372036854775808<=c+1/\c+1<=9223372036854775807)(h1: ∀w,(Op.unary .neg (ii (c+1))).run Tryd.prog w=.ok (ii v9) w)
  (hN: ∀a',Sl 13 a' ((0,ii v9)::dropL [0,7,8,9] l) df->N a' w):Rg N Q a w (r_lp 2):=
 reg (l0:=[(0,ii c)]) [0] [0,7,8,9] [.ari,.val (ii v9)] hs ⟨e0,trivial⟩ (aI h0 (aI (h1 w) hN)) (by kernel_rfl)
theorem lp_r3{c n v12:Int}(hs:Sl 13 a l df)(e0:Lk l 0 (ii c))(e1:Lk l 1 (ii n))(h0: ∀w,(binOp .rem 3 (ii c) (ii n)).run Tryd.prog w=.ok (ii v12) w)
  (hN: ∀a',Sl 13 a' ((4,ii v12)::dropL [4,10,11,12] l) df->N a' w):Rg N Q a w (r_lp 3):=
 reg (l0:=[(0,ii c),(1,ii n)]) [4] [4,10,11,12] [.bin (ii v12)] hs ⟨e0,e1,trivial⟩ (aI (bin_run (x:=.tmp 10) (y:=.tmp 11) (by kernel_rfl) (h0 w)) hN) (by kernel_rfl)
end Go.Proofs.YtlhfickniegooaaDoor
