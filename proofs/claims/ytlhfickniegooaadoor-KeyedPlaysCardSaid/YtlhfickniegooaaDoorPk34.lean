/-
   Written by an AI agent.
-/
import Derived.Test.YtlhfickniegooaaDoorPk32
import Derived.Test.YtlhfickniegooaaDoorPk33
namespace Go.Proofs.YtlhfickniegooaaDoor
open Go.RowKit Go.Sort
set_option maxRecDepth 100000
theorem neg_int{a:Int}(h1: -9223372036854775807<=a)(h2:a<=9223372036854775807)(w:World):(Op.unary .neg (.int .i64 a)).run Tryd.prog w=.ok (.int .i64 (-a)) w:=by
 have hw:IntKind.i64.wrap (-a)= -a:=in_wrap ⟨by simp[IntKind.min,IntKind.signed,IntKind.bits];omega,by simp[IntKind.max,IntKind.signed,IntKind.bits];omega⟩
 have e:(0:Int)-a= -a:=by omega
 simp[Op.unary,Op.intArith,e,hw]
theorem rem_nat{a b:Nat}(h1:a<=9223372036854775807)(hb:0<b)(w:World):(binOp .rem 3 (.int .i64 (a:Int)) (.int .i64 (b:Int))).run Tryd.prog w=.ok (.int .i64 ((a % b:Nat):Int)) w:=by
 have e:(a:Int).tmod (b:Int)=((a % b:Nat):Int):=by rw[Int.tmod_eq_emod_of_nonneg (by omega)];exact(Int.natCast_emod _ _).symm
 have h3:a % b<=a:=Nat.mod_le _ _
 have hw:IntKind.i64.wrap ((a % b:Nat):Int)=((a % b:Nat):Int):=in_wrap ⟨by simp only[IntKind.min,IntKind.signed,IntKind.bits];simp;omega,by simp only[IntKind.max,IntKind.signed,IntKind.bits];simp;omega⟩
 have hb': ¬(b:Int)=0:=by omega
 simp only[binOp,Op.intArith,Op.intDiv]
 simp only[hb',if_false,e,hw]
 simp
def pkN(c:Int)(n:Nat):Nat:=(if c<0 then(-(c+1)).toNat else c.toNat) % n
theorem pkN_lt(c:Int){n:Nat}(h:0<n):pkN c n<n:=Nat.mod_lt _ h
theorem kpick_any{c:Int}(hc:okInt c){n:Nat}(hn:0<n)(w:World):Calls Tryd.prog 18 #[.int .i64 c,.int .i64 (n:Int)] w fun e w'=>e=.returned (.int .i64 ((pkN c n:Nat):Int))/\w'=w:=by
 unfold okInt at hc
 refine calls_ev (vs:=[.int .i64 c,.int .i64 (n:Int)]) 13 Tryd.func18 lp_body (by kernel_rfl) (by simp) fun a0 h0=> ?_
 unfold lpBody
 refine wp_seq (rg_wp (lp_r0 h0 fun a1 h1=> ?_))
 by_cases h:c<0
 ·refine wp_seq (wp_seq (rg_wp (lp_r1 (b6:=true) h1 rfl (decide_eq_true h) fun a2 h2=>wp_cond_true (h2.look 6 rfl) (wpl (rg_wp (lp_r2 h2 rfl (by omega) (fun w=>neg_int (by omega) (by omega) w) fun a3 h3=> ?_))))))
  have e: -(c+1)=((-(c+1)).toNat:Int):=by omega
  rw[e] at h3
  refine wp_seq (rg_wp (lp_r3 h3 rfl rfl (fun w=>rem_nat (by omega) hn w) fun a4 h4=>wp_ret ?_))
  refine ret1 rfl h4 rfl ⟨?_,rfl⟩
  unfold pkN
  rw[if_pos h]
 ·refine wp_seq (wp_seq (rg_wp (lp_r1 (b6:=false) h1 rfl (decide_eq_false h) fun a2 h2=>wpo (h2.look 6 rfl) ?_)))
  have e:c=(c.toNat:Int):=by omega
  rw[e] at h2
  refine wp_seq (rg_wp (lp_r3 h2 rfl rfl (fun w=>rem_nat (by omega) hn w) fun a4 h4=>wp_ret ?_))
  refine ret1 rfl h4 rfl ⟨?_,rfl⟩
  unfold pkN
  rw[if_neg h]
theorem MapAt.ext{w w':World}{m:Nat}{R:List En}{D O:Nat->Prop}{B:Nat}(h:MapAt w m R D O)(e:Ext B w w'):MapAt w' m R D O:=
 let⟨hb,n,H,N,b,A,n0,n1,hR,h4,h5,h6,o1,o2,o3,o4⟩:=h
 ⟨hb,n,H,N,b,A,n0,n1,hR.ext e,h4,h5,h6,o1,o2,o3,fun b hb=>Nat.lt_of_lt_of_le (o4 b hb) e.size⟩
theorem MapAt.min{w:World}{m:Nat}{R:List En}{D O:Nat->Prop}(h:MapAt w m R D O): ∃O0:Nat->Prop,MapAt w m R D O0/\∀b,O0 b->O b/\Cel w b/\¬D b:=by
 obtain⟨hb,n,H,N,b,A,n0,n1,hR,h4,h5,h6,o1,o2,o3,o4⟩:=h
 refine⟨fun x=>x=m\/x=hb\/∃e∈R,x=e.g,⟨hb,n,H,N,b,A,n0,n1,hR,h4,h5,h6,.inl rfl,.inr (.inl rfl),fun e he=>.inr (.inr ⟨e,he,rfl⟩),fun x hx=> ?_⟩,fun x hx=> ?_⟩
 ·rcases hx with rfl | rfl | ⟨e,he,rfl⟩
  ·exact o4 _ o1
  ·exact o4 _ o2
  ·exact o4 _ (o3 e he)
 ·rcases hx with rfl | rfl | ⟨e,he,rfl⟩
  ·obtain⟨cs,q,_⟩:=hR.map
   exact⟨o1,⟨_,_,q⟩,hR.out.1⟩
  ·obtain⟨t,cs,q,_⟩:=hR.heads
   exact⟨o2,⟨_,_,q⟩,hR.out.2.1⟩
  ·obtain⟨ma,mb,q,_⟩:=hR.ent e he
   exact⟨o3 e he,⟨_,_,q⟩,hR.out.2.2 e he⟩
theorem MapAt.rt{w:World}{m:Nat}{R:List En}{D O:Nat->Prop}(h:MapAt w m R D O):RtE R/\(R.map (·.g)).Nodup/\(∀e∈R,e.val.ok)/\∀b,D b\/O b->b<w.heap.size:=by
 obtain⟨hb,n,H,N,b,A,n0,n1,hR,h4,h5,h6,o1,o2,o3,o4⟩:=h
 exact⟨fun e he=>⟨(hR.ok e he).1,(h6.right e he).1,(h6.num e he).1,(h6.num e he).2⟩,hR.nd,fun e he=>(hR.ok e he).2.1,fun b hb=>hb.elim (hR.dlt b) (o4 b)⟩
theorem MapAt.keepB{w w':World}{m:Nat}{R:List En}{D O:Nat->Prop}(h:MapAt w m R D O)(hs:w.heap.size<=w'.heap.size)(hk: ∀b,D b\/O b->w'.heap[b]? =w.heap[b]?):MapAt w' m R D O:=by
  obtain⟨hb,n,H,N,b,A,n0,n1,hR,h4,h5,h6,o1,o2,o3,o4⟩:=h
  refine⟨hb,n,H,N,b,A,n0,n1, ?_,h4,h5,h6,o1,o2,o3,fun b hb=>Nat.lt_of_lt_of_le (o4 b hb) hs⟩
  have kb: ∀{g:Nat} {t:TypeId} {cs:Array Value},O g->Blk w g t cs->Blk w' g t cs:=fun ho q=>(hk _ (.inr ho)).trans q
  exact { map := let ⟨cs, q1, q2⟩ := hR.map; ⟨cs, kb o1 q1, q2⟩,
          heads:=let⟨t,hs,q1,q2⟩:=hR.heads;⟨t,hs,kb o2 q1,q2⟩,
          ent:=fun e he=>let⟨ma,mb,q1,q2,q3⟩:=hR.ent e he;⟨ma,mb,kb (o3 e he) q1,q2.keep (fun b hb _=>hk b (.inl hb)) (fun _ h _=>h),q3.keep (fun b hb _=>hk b (.inl hb)) (fun _ h _=>h)⟩,
          nd:=hR.nd,far:=hR.far,out:=hR.out,ok:=hR.ok,dlt:=fun b hb=>Nat.lt_of_lt_of_le (hR.dlt b hb) hs}
theorem RefAt.cel{w:World}{gr:Nat}{L:List Re}{many:Int}{D O:Nat->Prop}(h:RefAt w gr L many D O):RefAt w gr L many D (fun b=>O b/\Cel w b) where
 row:=let⟨s,h1,h2,h3⟩:=h.row;⟨s,h1,h2,fun g hg=>⟨⟨(h3 g hg).1,own_cel h2.1 hg⟩,(h3 g hg).2⟩⟩
 own:=let⟨s,h1,_⟩:=h.row;⟨h.own,_,_,h1⟩
 dat:=h.dat
 oks:=h.oks
 dlt:=h.dlt
 olt:=fun b hb=>h.olt b hb.1
 out:=fun b hd ho=>h.out b hd ho.1
def fA(g:Nat):Value:=.func (.func 30) #[] #[.pointer (some ⟨g,0,none⟩)]
def fW(g:Nat):Value:=.func (.func 27) #[] #[.pointer (some ⟨g,0,none⟩)]
abbrev mpT:TypeId:=24
structure PlC where
 w0:World
 gw:Nat
 gm:Nat->Nat
 gr:Nat->Nat
 ga:Nat->Nat
 gk:Nat->Nat
def pv(g:Nat):Value:=.pointer (some ⟨g,0,none⟩)
def PlC.hs(c:PlC):List Value:=[pv (c.gm 0),pv (c.gm 1),pv (c.gr 0),pv (c.gr 1),fA (c.ga 0),fA (c.ga 1),fW (c.gk 0),fW (c.gk 1)]
structure St where
 S:Nat->Nat->Prop
 R:Nat->List En
 L:Nat->List Re
 many:Nat->Int
 n:Nat
structure PM (c:PlC) (s:St) (w:World):Prop where
 map: ∀k,k<2->MapAt w (c.gm k) (s.R k) (s.S (4*k)) (s.S (4*k+1))
 ref: ∀k,k<2->RefAt w (c.gr k) (s.L k) (s.many k) (s.S (4*k+2)) (s.S (4*k+3))
 out:OutAt w c.gw c.hs s.n (s.S 8)
 cel: ∀k,k<2->(Blk w (c.ga k) mpT #[pv (c.gm k)]/\s.S 9 (c.ga k))/\(Blk w (c.gk k) mpT #[pv (c.gm k)]/\s.S 9 (c.gk k))
 dis: ∀i j b,i≠j->s.S i b->¬s.S j b
 low: ∀i b,s.S i b->c.w0.heap.size<=b/\b<w.heap.size
 bel:Below c.w0.heap.size c.w0 w
structure PS (c:PlC) (s:St) (w:World):Prop where
 mem:PM c s w
 rel: ∀k,k<2->RL (s.R k) (s.L k) (s.many k)
def Grw(w:World)(D D':Nat->Prop):Prop:= ∀b,D' b->D b\/w.heap.size<=b
section
variable {c:PlC} {s s':St} {w w':World}
theorem PM.old(h:PM c s w)(hb:Below w.heap.size w w'):PM c s w' where
 map:=fun k hk=>(h.map k hk).old hb
 ref:=fun k hk=>(h.ref k hk).old hb
 out:=h.out.old hb
 cel:=fun k hk=>⟨⟨(h.cel k hk).1.1.below hb (h.cel k hk).1.1.lt,(h.cel k hk).1.2⟩,⟨(h.cel k hk).2.1.below hb (h.cel k hk).2.1.lt,(h.cel k hk).2.2⟩⟩
 dis:=h.dis
 low:=fun i b hb'=>⟨(h.low i b hb').1,Nat.lt_of_lt_of_le (h.low i b hb').2 hb.size⟩
 bel:=bl_trans h.bel hb
theorem PS.old(h:PS c s w)(hb:Below w.heap.size w w'):PS c s w':=⟨h.mem.old hb,h.rel⟩
theorem PM.ext{B:Nat}(h:PM c s w)(e:Ext B w w')(hB:c.w0.heap.size<=B):PM c s w' where
 map:=fun k hk=>(h.map k hk).ext e
 ref:=fun k hk=>(h.ref k hk).ext e
 out:=h.out.ext e
 cel:=fun k hk=>⟨⟨(h.cel k hk).1.1.ext e,(h.cel k hk).1.2⟩,⟨(h.cel k hk).2.1.ext e,(h.cel k hk).2.2⟩⟩
 dis:=h.dis
 low:=fun i b hb'=>⟨(h.low i b hb').1,Nat.lt_of_lt_of_le (h.low i b hb').2 e.size⟩
 bel:=Below.ext' h.bel e hB
theorem PS.ext{B:Nat}(h:PS c s w)(e:Ext B w w')(hB:c.w0.heap.size<=B):PS c s w':=⟨h.mem.ext e hB,h.rel⟩
theorem PM.own(h:PM c s w)(ho:OwnAt c.w0):OwnAt w:=ho.old h.bel
def wr(i:Nat):Prop:=i=8\/(i<8/\i % 2=1)
def Free(s:St)(b:Nat):Prop:= ∀i,wr i->¬s.S i b
structure Nx (s s':St) (w w':World) (p q:Nat):Prop where
 mov:MovC (fun b=> ∃i,wr i/\s.S i b) w w'
 grew: ∀i,Grw w (s.S i) (s'.S i)
 evo: ∀k,k<2->Evo (s.L k) (s.many k) (s'.L k) (s'.many k)
 len: ∀k,k<2->(s'.L k).length<=(s.L k).length+p/\s'.many k<=s.many k+p
 num:s'.n<=s.n+q
theorem Nx.of_below{s:St}{w w':World}(hb:Below w.heap.size w w')(p q:Nat):Nx s s w w' p q:=
 ⟨MovC.of_below hb,fun _ _ h=>.inl h,fun _ _=>Evo.refl _ _,fun _ _=>⟨Nat.le_add_right _ _,by omega⟩,Nat.le_add_right _ _⟩
theorem Nx.trans{s s' s2:St}{w w' w2:World}{p q p' q' p2 q2:Nat}(h:Nx s s' w w' p q)(k:Nx s' s2 w' w2 p' q')(hp:p+p'<=p2)(hq:q+q'<=q2):Nx s s2 w w2 p2 q2 where
 mov:=h.mov.trans k.mov fun x hx ⟨i,hi,hs⟩=>(h.grew i x hs).elim (fun q=>⟨i,hi,q⟩) (fun q=>by omega)
 grew:=fun i b hb=>(k.grew i b hb).elim (h.grew i b) (fun q=>.inr (Nat.le_trans h.mov.size q))
 evo:=fun j hj=>(h.evo j hj).trans (k.evo j hj)
 len:=fun j hj=>by
  have a:=h.len j hj
  have b:=k.len j hj
  constructor<;>omega
 num:=by have:=h.num;have:=k.num;omega
theorem Nx.size{p q:Nat}(h:Nx s s' w w' p q):w.heap.size<=w'.heap.size:=h.mov.size
theorem Nx.more{p q p' q':Nat}(h:Nx s s' w w' p q)(hp:p<=p')(hq:q<=q'):Nx s s' w w' p' q':=h.trans (Nx.of_below (Below.refl _ _) 0 0) (by omega) (by omega)
theorem Nx.block{p q:Nat}(h:Nx s s' w w' p q){b:Nat}(hb:b<w.heap.size)(hf:Free s b):w'.heap[b]? =w.heap[b]? :=h.mov.block b hb fun⟨⟨i,hi,hs⟩,_⟩=>hf i hi hs
theorem Nx.free{p q:Nat}(h:Nx s s' w w' p q){b:Nat}(hb:b<w.heap.size)(hf:Free s b):Free s' b:=fun i hi hs=>(h.grew i b hs).elim (hf i hi) (fun q=>by omega)
theorem Nx.blk{p q:Nat}(h:Nx s s' w w' p q){g:Nat}{t:TypeId}{cs:Array Value}(k:Blk w g t cs)(hf:Free s g):Blk w' g t cs:=(h.block k.lt hf).trans k
theorem Nx.dat{p q:Nat}(h:Nx s s' w w' p q){T:Nat->Prop}{d:Dt}{m:Dm}(k:d.at w T m)(hT: ∀b,T b->b<w.heap.size->Free s b):d.at w' T m:=k.keep (fun b hb hl=>h.block hl (hT b hb hl)) (fun _ h _=>h)
theorem PM.lowF(h:PM c s w){b:Nat}(hb:b<c.w0.heap.size):Free s b:=fun i _ hs=>by have:=(h.low i b hs).1;omega
theorem PM.newF(h:PM c s w){b:Nat}(hb:w.heap.size<=b):Free s b:=fun i _ hs=>by have:=(h.low i b hs).2;omega
end
def up(f:Nat->Nat->Prop)(i:Nat)(D:Nat->Prop):Nat->Nat->Prop:=fun j=>if j=i then D else f j
theorem up_eq(f:Nat->Nat->Prop)(i:Nat)(D:Nat->Prop):up f i D i=D:=if_pos rfl
theorem up_ne{f:Nat->Nat->Prop}{i j:Nat}{D:Nat->Prop}(h:j≠i):up f i D j=f j:=if_neg h
def upN{α:Type}(f:Nat->α)(i:Nat)(x:α):Nat->α:=fun j=>if j=i then x else f j
theorem upN_eq{α:Type}(f:Nat->α)(i:Nat)(x:α):upN f i x i=x:=if_pos rfl
theorem upN_ne{α:Type}{f:Nat->α}{i j:Nat}{x:α}(h:j≠i):upN f i x j=f j:=if_neg h
section
variable {c:PlC} {s:St} {w w':World}
theorem dis_up2{S:Nat->Nat->Prop}(hd: ∀i j b,i≠j->S i b->¬S j b){lo sz:Nat}(hl: ∀i b,S i b->lo<=b/\b<sz){i:Nat}{D O:Nat->Prop}(hD: ∀b,D b->S i b\/sz<=b)(hO: ∀b,O b->S (i+1) b\/sz<=b)(hDO: ∀b,D b->¬O b):
  ∀a b x,a≠b->up (up S i D) (i+1) O a x->¬up (up S i D) (i+1) O b x:=by
 have key: ∀a x,up (up S i D) (i+1) O a x->S a x\/(sz<=x/\(a=i\/a=i+1)):=fun a x h=>by
  by_cases h1:a=i+1
  ·subst h1
   rw[up_eq] at h
   exact(hO x h).imp_right fun q=>⟨q,.inr rfl⟩
  ·rw[up_ne h1] at h
   by_cases h2:a=i
   ·subst h2
    rw[up_eq] at h
    exact(hD x h).imp_right fun q=>⟨q,.inl rfl⟩
   ·rw[up_ne h2] at h
    exact .inl h
 intro a b x hab ha hb
 rcases key a x ha with qa | ⟨qa,ra⟩
 ·rcases key b x hb with qb | ⟨qb,rb⟩
  ·exact hd a b x hab qa qb
  ·have:=(hl a x qa).2
   omega
 ·rcases key b x hb with qb | ⟨qb,rb⟩
  ·have:=(hl b x qb).2
   omega
  ·have e:(a=i/\b=i+1)\/(a=i+1/\b=i):=by omega
   rcases e with⟨rfl,rfl⟩ | ⟨rfl,rfl⟩
   ·rw[up_eq] at hb
    rw[up_ne (by omega),up_eq] at ha
    exact hDO x ha hb
   ·rw[up_eq] at ha
    rw[up_ne (by omega),up_eq] at hb
    exact hDO x hb ha
theorem up2_grw{S:Nat->Nat->Prop}{i:Nat}{D O:Nat->Prop}(hD:Grw w (S i) D)(hO:Grw w (S (i+1)) O): ∀j,Grw w (S j) (up (up S i D) (i+1) O j):=fun j=>by
 by_cases h1:j=i+1
 ·subst h1
  rw[up_eq]
  exact hO
 ·rw[up_ne h1]
  by_cases h2:j=i
  ·subst h2
   rw[up_eq]
   exact hD
  ·rw[up_ne h2]
   exact fun _ h=>.inl h
def St.setMap(s:St)(k:Nat)(R:List En)(D O:Nat->Prop):St:={s with S:=up (up s.S (4*k) D) (4*k+1) O,R:=upN s.R k R}
def St.setRef(s:St)(k:Nat)(L:List Re)(many:Int)(D O:Nat->Prop):St:={s with S:=up (up s.S (4*k+2) D) (4*k+3) O,L:=upN s.L k L,many:=upN s.many k many}
def St.setOut(s:St)(n:Nat)(Z:Nat->Prop):St:={s with S:=up s.S 8 Z,n:=n}
theorem PM.setMap(h:PM c s w){k:Nat}(hk:k<2){R:List En}{D O:Nat->Prop}(hm:MapAt w' (c.gm k) R D O)(hM:MovC (fun b=>s.S (4*k+1) b) w w')(hD:Grw w (s.S (4*k)) D)(hO:Grw w (s.S (4*k+1)) O):
  ∃O',PM c (s.setMap k R D O') w'/\∀j,Grw w (s.S j) ((s.setMap k R D O').S j):=by
 obtain⟨O0,hm0,h0⟩:=hm.min
 have hs:=hM.size
 have kp: ∀i b,i≠4*k+1->s.S i b->w'.heap[b]? =w.heap[b]? :=fun i b hi hb=>hM.block b (h.low i b hb).2 fun q=>h.dis i _ b hi hb q.1
 have hO0:Grw w (s.S (4*k+1)) O0:=fun b hb=>hO b (h0 b hb).1
 have ne1: ∀{i:Nat},i≠4*k->i≠4*k+1->(s.setMap k R D O0).S i=s.S i:=fun h1 h2=>(up_ne h2).trans (up_ne h1)
 refine⟨O0,⟨fun j hj=> ?_,fun j hj=> ?_, ?_,fun j hj=> ?_,dis_up2 h.dis h.low hD hO0 (fun b hd ho=>(h0 b ho).2.2 hd),fun i b hb=> ?_, ?_⟩,up2_grw hD hO0⟩
 ·by_cases e:j=k
  ·subst e
   have e1:(s.setMap j R D O0).S (4*j)=D:=(up_ne (by omega)).trans (up_eq _ _ _)
   have e2:(s.setMap j R D O0).S (4*j+1)=O0:=up_eq _ _ _
   have e3:(s.setMap j R D O0).R j=R:=upN_eq _ _ _
   rw[e1,e2,e3]
   exact hm0
  ·rw[ne1 (by omega) (by omega),ne1 (by omega) (by omega)]
   have e3:(s.setMap k R D O0).R j=s.R j:=upN_ne e
   rw[e3]
   exact(h.map j hj).keepB hs fun b hb=>hb.elim (kp _ b (by omega)) (kp _ b (by omega))
 ·rw[ne1 (by omega) (by omega),ne1 (by omega) (by omega)]
  exact(h.ref j hj).keep hs fun b hb=>hb.elim (kp _ b (by omega)) (kp _ b (by omega))
 ·rw[ne1 (by omega) (by omega)]
  exact h.out.keep (fun b hb _=>kp _ b (by omega) hb) (fun _ h _=>h)
 ·rw[ne1 (by omega) (by omega)]
  obtain⟨⟨q1,q2⟩,q3,q4⟩:=h.cel j hj
  exact⟨⟨(kp _ _ (by omega) q2).trans q1,q2⟩,(kp _ _ (by omega) q4).trans q3,q4⟩
 ·have hlt:=hm0.rt.2.2.2 b
  have hz:c.w0.heap.size<=w.heap.size:=h.bel.size
  rcases up2_grw hD hO0 i b hb with q | q
  ·exact⟨(h.low i b q).1,Nat.lt_of_lt_of_le (h.low i b q).2 hs⟩
  ·refine⟨by omega, ?_⟩
   by_cases e1:i=4*k+1
   ·subst e1
    have e2:(s.setMap k R D O0).S (4*k+1)=O0:=up_eq _ _ _
    rw[e2] at hb
    exact hlt (.inr hb)
   ·by_cases e2:i=4*k
    ·subst e2
     have e3:(s.setMap k R D O0).S (4*k)=D:=(up_ne (by omega)).trans (up_eq _ _ _)
     rw[e3] at hb
     exact hlt (.inl hb)
    ·rw[ne1 e2 e1] at hb
     have:=(h.low i b hb).2
     omega
 ·exact⟨hM.os.trans h.bel.os,hM.tape.trans h.bel.tape,hM.output.trans h.bel.output,Nat.le_trans h.bel.size hs,fun b hb=>(hM.block b (Nat.lt_of_lt_of_le hb h.bel.size) fun q=>by have:=(h.low _ b q.1).1;omega).trans (h.bel.block b hb)⟩
theorem PM.setRef(h:PM c s w){k:Nat}(hk:k<2){L:List Re}{many:Int}{D O:Nat->Prop}(hm:RefAt w' (c.gr k) L many D O)(hM:MovC (fun b=>s.S (4*k+3) b) w w')(hD:Grw w (s.S (4*k+2)) D)(hO:Grw w (s.S (4*k+3)) O):
  PM c (s.setRef k L many D O) w'/\∀j,Grw w (s.S j) ((s.setRef k L many D O).S j):=by
 have hs:=hM.size
 have kp: ∀i b,i≠4*k+3->s.S i b->w'.heap[b]? =w.heap[b]? :=fun i b hi hb=>hM.block b (h.low i b hb).2 fun q=>h.dis i _ b hi hb q.1
 have ne1: ∀{i:Nat},i≠4*k+2->i≠4*k+3->(s.setRef k L many D O).S i=s.S i:=fun h1 h2=>(up_ne h2).trans (up_ne h1)
 refine⟨⟨fun j hj=> ?_,fun j hj=> ?_, ?_,fun j hj=> ?_,dis_up2 h.dis h.low hD hO hm.out,fun i b hb=> ?_, ?_⟩,up2_grw hD hO⟩
 ·rw[ne1 (by omega) (by omega),ne1 (by omega) (by omega)]
  exact(h.map j hj).keepB hs fun b hb=>hb.elim (kp _ b (by omega)) (kp _ b (by omega))
 ·by_cases e:j=k
  ·subst e
   have e1:(s.setRef j L many D O).S (4*j+2)=D:=(up_ne (by omega)).trans (up_eq _ _ _)
   have e2:(s.setRef j L many D O).S (4*j+3)=O:=up_eq _ _ _
   have e3:(s.setRef j L many D O).L j=L:=upN_eq _ _ _
   have e4:(s.setRef j L many D O).many j=many:=upN_eq _ _ _
   rw[e1,e2,e3,e4]
   exact hm
  ·rw[ne1 (by omega) (by omega),ne1 (by omega) (by omega)]
   have e3:(s.setRef k L many D O).L j=s.L j:=upN_ne e
   have e4:(s.setRef k L many D O).many j=s.many j:=upN_ne e
   rw[e3,e4]
   exact(h.ref j hj).keep hs fun b hb=>hb.elim (kp _ b (by omega)) (kp _ b (by omega))
 ·rw[ne1 (by omega) (by omega)]
  exact h.out.keep (fun b hb _=>kp _ b (by omega) hb) (fun _ h _=>h)
 ·rw[ne1 (by omega) (by omega)]
  obtain⟨⟨q1,q2⟩,q3,q4⟩:=h.cel j hj
  exact⟨⟨(kp _ _ (by omega) q2).trans q1,q2⟩,(kp _ _ (by omega) q4).trans q3,q4⟩
 ·have hz:c.w0.heap.size<=w.heap.size:=h.bel.size
  rcases up2_grw hD hO i b hb with q | q
  ·exact⟨(h.low i b q).1,Nat.lt_of_lt_of_le (h.low i b q).2 hs⟩
  ·refine⟨by omega, ?_⟩
   by_cases e1:i=4*k+3
   ·subst e1
    have e2:(s.setRef k L many D O).S (4*k+3)=O:=up_eq _ _ _
    rw[e2] at hb
    exact hm.olt b hb
   ·by_cases e2:i=4*k+2
    ·subst e2
     have e3:(s.setRef k L many D O).S (4*k+2)=D:=(up_ne (by omega)).trans (up_eq _ _ _)
     rw[e3] at hb
     exact hm.dlt b hb
    ·rw[ne1 e2 e1] at hb
     have:=(h.low i b hb).2
     omega
 ·exact⟨hM.os.trans h.bel.os,hM.tape.trans h.bel.tape,hM.output.trans h.bel.output,Nat.le_trans h.bel.size hs,fun b hb=>(hM.block b (Nat.lt_of_lt_of_le hb h.bel.size) fun q=>by have:=(h.low _ b q.1).1;omega).trans (h.bel.block b hb)⟩
theorem PM.setOut(h:PM c s w){n:Nat}{Z Y:Nat->Prop}(ho:OutAt w' c.gw c.hs n Z)(hM:MovC (fun b=>s.S 8 b\/Y b) w w')(hY: ∀b,Y b->∀i,¬s.S i b)(hYl: ∀b,Y b->c.w0.heap.size<=b)(hZ: ∀b,Z b->s.S 8 b\/Y b\/w.heap.size<=b):
  PM c (s.setOut n (fun b=>Z b/\b<w'.heap.size)) w':=by
 have hs:=hM.size
 have hz:c.w0.heap.size<=w.heap.size:=h.bel.size
 have kp: ∀i b,i≠8->s.S i b->w'.heap[b]? =w.heap[b]? :=fun i b hi hb=>hM.block b (h.low i b hb).2 fun q=>q.1.elim (h.dis i _ b hi hb) (fun q=>hY b q i hb)
 have ne1: ∀{i:Nat},i≠8->(s.setOut n (fun b=>Z b/\b<w'.heap.size)).S i=s.S i:=fun h1=>up_ne h1
 have eq8:(s.setOut n (fun b=>Z b/\b<w'.heap.size)).S 8=fun b=>Z b/\b<w'.heap.size:=up_eq s.S 8 (fun b=>Z b/\b<w'.heap.size)
 refine⟨fun j hj=> ?_,fun j hj=> ?_, ?_,fun j hj=> ?_,fun i j b hij hi hj=> ?_,fun i b hb=> ?_, ?_⟩
 ·rw[ne1 (by omega),ne1 (by omega)]
  exact(h.map j hj).keepB hs fun b hb=>hb.elim (kp _ b (by omega)) (kp _ b (by omega))
 ·rw[ne1 (by omega),ne1 (by omega)]
  exact(h.ref j hj).keep hs fun b hb=>hb.elim (kp _ b (by omega)) (kp _ b (by omega))
 ·rw[eq8]
  exact ho.low
 ·rw[ne1 (by omega)]
  obtain⟨⟨q1,q2⟩,q3,q4⟩:=h.cel j hj
  exact⟨⟨(kp _ _ (by omega) q2).trans q1,q2⟩,(kp _ _ (by omega) q4).trans q3,q4⟩
 ·have key: ∀a,a≠8->s.S a b->¬Z b:=fun a ha hs' hzb=>by
   rcases hZ b hzb with q | q | q
   ·exact h.dis a 8 b ha hs' q
   ·exact hY b q a hs'
   ·have:=(h.low a b hs').2
    omega
  by_cases e:i=8
  ·subst e
   rw[eq8] at hi
   rw[ne1 (Ne.symm hij)] at hj
   exact key j (Ne.symm hij) hj hi.1
  ·rw[ne1 e] at hi
   by_cases e':j=8
   ·subst e'
    rw[eq8] at hj
    exact key i e hi hj.1
   ·rw[ne1 e'] at hj
    exact h.dis i j b hij hi hj
 ·by_cases e:i=8
  ·subst e
   rw[eq8] at hb
   refine⟨?_,hb.2⟩
   rcases hZ b hb.1 with q | q | q
   ·exact(h.low 8 b q).1
   ·exact hYl b q
   ·omega
  ·rw[ne1 e] at hb
   exact⟨(h.low i b hb).1,Nat.lt_of_lt_of_le (h.low i b hb).2 hs⟩
 ·refine⟨hM.os.trans h.bel.os,hM.tape.trans h.bel.tape,hM.output.trans h.bel.output,Nat.le_trans h.bel.size hs,fun b hb=>(hM.block b (Nat.lt_of_lt_of_le hb h.bel.size) fun q=> ?_).trans (h.bel.block b hb)⟩
  rcases q.1 with q | q
  ·have:=(h.low _ b q).1
   omega
  ·have:=hYl b q
   omega
end
end Go.Proofs.YtlhfickniegooaaDoor

namespace Go.Proofs.YtlhfickniegooaaDoor
open Go.RowKit Go.Sort
set_option maxRecDepth 100000
theorem ix_m0(g:Nat)(w:World):(Instr.indexAt 48 (.pointer (some ⟨g,0,none⟩)) (.int .i64 ((0:Nat):Int))).run Tryd.prog w=.ok (.pointer (some ⟨g,0,none⟩)) w:=by kernel_rfl
theorem ix_m1(g:Nat)(w:World):(Instr.indexAt 48 (.pointer (some ⟨g,0,none⟩)) (.int .i64 ((1:Nat):Int))).run Tryd.prog w=.ok (.pointer (some ⟨g,1,none⟩)) w:=by kernel_rfl
theorem ix_m{k:Nat}(hk:k<2)(g:Nat)(w:World):(Instr.indexAt 48 (.pointer (some ⟨g,0,none⟩)) (.int .i64 (k:Int))).run Tryd.prog w=.ok (.pointer (some ⟨g,k,none⟩)) w:=
 match k,hk with
 | 0,_=>ix_m0 g w
 | 1,_=>ix_m1 g w
theorem ix_r0(g:Nat)(w:World):(Instr.indexAt 50 (.pointer (some ⟨g,2,none⟩)) (.int .i64 ((0:Nat):Int))).run Tryd.prog w=.ok (.pointer (some ⟨g,2+0,none⟩)) w:=by kernel_rfl
theorem ix_r1(g:Nat)(w:World):(Instr.indexAt 50 (.pointer (some ⟨g,2,none⟩)) (.int .i64 ((1:Nat):Int))).run Tryd.prog w=.ok (.pointer (some ⟨g,2+1,none⟩)) w:=by kernel_rfl
theorem ix_r{k:Nat}(hk:k<2)(g:Nat)(w:World):(Instr.indexAt 50 (.pointer (some ⟨g,2,none⟩)) (.int .i64 (k:Int))).run Tryd.prog w=.ok (.pointer (some ⟨g,2+k,none⟩)) w:=
 match k,hk with
 | 0,_=>ix_r0 g w
 | 1,_=>ix_r1 g w
theorem ix_a0(g:Nat)(w:World):(Instr.indexAt 51 (.pointer (some ⟨g,4,none⟩)) (.int .i64 ((0:Nat):Int))).run Tryd.prog w=.ok (.pointer (some ⟨g,4+0,none⟩)) w:=by kernel_rfl
theorem ix_a1(g:Nat)(w:World):(Instr.indexAt 51 (.pointer (some ⟨g,4,none⟩)) (.int .i64 ((1:Nat):Int))).run Tryd.prog w=.ok (.pointer (some ⟨g,4+1,none⟩)) w:=by kernel_rfl
theorem ix_a{k:Nat}(hk:k<2)(g:Nat)(w:World):(Instr.indexAt 51 (.pointer (some ⟨g,4,none⟩)) (.int .i64 (k:Int))).run Tryd.prog w=.ok (.pointer (some ⟨g,4+k,none⟩)) w:=
 match k,hk with
 | 0,_=>ix_a0 g w
 | 1,_=>ix_a1 g w
theorem ix_k0(g:Nat)(w:World):(Instr.indexAt 51 (.pointer (some ⟨g,6,none⟩)) (.int .i64 ((0:Nat):Int))).run Tryd.prog w=.ok (.pointer (some ⟨g,6+0,none⟩)) w:=by kernel_rfl
theorem ix_k1(g:Nat)(w:World):(Instr.indexAt 51 (.pointer (some ⟨g,6,none⟩)) (.int .i64 ((1:Nat):Int))).run Tryd.prog w=.ok (.pointer (some ⟨g,6+1,none⟩)) w:=by kernel_rfl
theorem ix_k{k:Nat}(hk:k<2)(g:Nat)(w:World):(Instr.indexAt 51 (.pointer (some ⟨g,6,none⟩)) (.int .i64 (k:Int))).run Tryd.prog w=.ok (.pointer (some ⟨g,6+k,none⟩)) w:=
 match k,hk with
 | 0,_=>ix_k0 g w
 | 1,_=>ix_k1 g w
section
variable {c:PlC} {s:St} {w w':World} {k:Nat}
theorem PM.ldm(h:PM c s w)(hk:k<2):Lds Tryd.prog 24 (.pointer (some ⟨c.gw,k,none⟩)) (.pointer (some ⟨c.gm k,0,none⟩)) w:=by
 obtain⟨t,E,hS⟩:=h.out
 have:k=0\/k=1:=by omega
 rcases this with rfl | rfl
 ·exact one_load hS.blk Tryd.underlying24 rfl rfl
 ·exact one_load hS.blk Tryd.underlying24 rfl rfl
theorem PM.ldr(h:PM c s w)(hk:k<2):Lds Tryd.prog 49 (.pointer (some ⟨c.gw,2+k,none⟩)) (.pointer (some ⟨c.gr k,0,none⟩)) w:=by
 obtain⟨t,E,hS⟩:=h.out
 have:k=0\/k=1:=by omega
 rcases this with rfl | rfl
 ·exact one_load hS.blk Tryd.underlying49 rfl rfl
 ·exact one_load hS.blk Tryd.underlying49 rfl rfl
theorem PM.lda(h:PM c s w)(hk:k<2):Lds Tryd.prog 41 (.pointer (some ⟨c.gw,4+k,none⟩)) (fA (c.ga k)) w:=by
 obtain⟨t,E,hS⟩:=h.out
 have:k=0\/k=1:=by omega
 rcases this with rfl | rfl
 ·exact one_load hS.blk Tryd.underlying41 rfl rfl
 ·exact one_load hS.blk Tryd.underlying41 rfl rfl
theorem PM.ldk(h:PM c s w)(hk:k<2):Lds Tryd.prog 41 (.pointer (some ⟨c.gw,6+k,none⟩)) (fW (c.gk k)) w:=by
 obtain⟨t,E,hS⟩:=h.out
 have:k=0\/k=1:=by omega
 rcases this with rfl | rfl
 ·exact one_load hS.blk Tryd.underlying41 rfl rfl
 ·exact one_load hS.blk Tryd.underlying41 rfl rfl
end
def Lent(d:Dt)(m:Dm)(lo hi:Nat)(w:World)(x:Dm):Prop:=(rB d=true->LN w lo hi d.h d.k x)/\(rB d=false->x=m)
theorem Lent.keep{d:Dt}{m x:Dm}{lo hi:Nat}{w w':World}(h:Lent d m lo hi w x)(hk: ∀b,lo<=b->b<hi->w'.heap[b]? =w.heap[b]?):Lent d m lo hi w' x:=⟨fun hr=>(h.1 hr).keep hk,h.2⟩
theorem Lent.dat{d:Dt}{m x:Dm}{lo hi:Nat}{w:World}(h:Lent d m lo hi w x)(ho:d.ok){S:Nat->Prop}(hd:d.at w S m):d.at w (fun b=>S b\/(lo<=b/\b<hi)) x:=by
 cases hr:rB d with
 | true=>exact((h.1 hr).dat ho).keep (fun _ _ _=>rfl) (fun b hb _=>.inr hb)
 | false=>
  rw[h.2 hr]
  exact hd.keep (fun _ _ _=>rfl) (fun b hb _=>.inl hb)
theorem lent_both{d:Dt}{m:Dm}{w:World}{S:Nat->Prop}(ho:d.ok)(hd:d.at w S m):Calls Tryd.prog 43 #[.agg (d.cs m)] w fun e w'=> ∃x:Dm,e=.returned (.agg (d.cs x))/\(Lent d m w.heap.size w'.heap.size w' x/\Below w.heap.size w w'):=by
 cases hr:rB d with
 | true=>exact(lent_any ho hr hd).mono fun e w' ⟨x,h1,h2,h3⟩=>⟨x,h1,⟨fun _=>h2,fun h=>by rw[hr] at h;cases h⟩,h3⟩
 | false=>exact(lent_no ho hr hd).mono fun e w' ⟨h1,h2⟩=>⟨m,h1,⟨fun h=>(by rw[hr] at h;cases h),fun _=>rfl⟩,h2⟩
theorem back_both{d:Dt}{m x:Dm}{w:World}{S:Nat->Prop}{lo hi:Nat}(ho:d.ok)(hd:d.at w S m)(hl:Lent d m lo hi w x)(hS: ∀b,S b->¬InR lo hi b)(hhi:hi<=w.heap.size):
  Calls Tryd.prog 48 #[.agg (d.cs x),.agg (d.cs m)] w fun e w'=>e=.returned (.bool true)/\MovC (InR lo hi) w w':=by
 cases hr:rB d with
 | true=>exact back_any ho hr hd (hl.1 hr) hS hhi
 | false=>exact(back_no ho hr hd).mono fun e w' ⟨h1,h2⟩=>⟨h1,MovC.of_below h2⟩
theorem zD_sep(w:World){lo hi:Nat}(h:lo<=hi):zD.sep w lo hi m0:=⟨zD_at _ _,⟨lo,lo,Nat.le_refl _,Nat.le_refl _,h,.inl rfl,.inl rfl⟩,⟨.inl ⟨rfl,rfl,rfl⟩,⟨rfl,.inl rfl⟩,.inl rfl⟩⟩
theorem wrongA_1{k v:Dt}(h:(rB k&&rB v)=false):wrongA k v=⟨1,⟨#[]⟩,⟨#[]⟩⟩:=if_pos h
theorem wrongA_2{k v:Dt}(h:(rB k&&rB v)=true)(h2:kB k=false):wrongA k v=⟨0,keyW,heldS k.h k.k⟩:=by
 unfold wrongA
 rw[if_neg (by rw[h];simp),if_pos h2]
 rfl
theorem wrongA_3{k v:Dt}(h:(rB k&&rB v)=true)(h2:kB k=true):wrongA k v=noneE:=by
 unfold wrongA
 rw[if_neg (by rw[h];simp),if_neg (by rw[h2];simp)]
theorem WrongAt.tell{w w':World}{v:Value}(h:WrongAt w w' v):TellV w' v ⟨1,⟨#[]⟩,⟨#[]⟩⟩:=let⟨g,h1,h2,_⟩:=h;.inr (.inl ⟨rfl,g,h1,h2⟩)
theorem FaultAt.tell{w w':World}{v:Value}{b:ByteArray}(h:FaultAt w w' v keyW b):TellV w' v ⟨0,keyW,b⟩:=let⟨g,h1,h2,_⟩:=h;.inr (.inr ⟨b,rfl,g,h1,h2⟩)
def TellS(s:St)(w:World)(v:Value)(e:E9):Prop:=TellV w v e/\∀t g,v=.iface t (.pointer (some ⟨g,0,none⟩))->Free s g/\g<w.heap.size
theorem TellV.keep{w w':World}{v:Value}{e:E9}(h:TellV w v e)(hk: ∀t g,v=.iface t (.pointer (some ⟨g,0,none⟩))->w'.heap[g]? =w.heap[g]?):TellV w' v e:=by
 rcases h with h | ⟨h1,g,h2,h3⟩ | ⟨m,h1,g,h2,h3⟩
 ·exact .inl h
 ·exact .inr (.inl ⟨h1,g,h2,(hk _ g h2).trans h3⟩)
 ·exact .inr (.inr ⟨m,h1,g,h2,(hk _ g h2).trans h3⟩)
theorem TellV.lt{w:World}{v:Value}{e:E9}(h:TellV w v e){t:TypeId}{g:Nat}(hv:v=.iface t (.pointer (some ⟨g,0,none⟩))):g<w.heap.size:=by
 rcases h with⟨_,h⟩ | ⟨h1,g',h2,h3⟩ | ⟨m,h1,g',h2,h3⟩
 ·rw[h] at hv
  cases hv
 ·rw[h2] at hv
  injection hv with _ hv
  injection hv with hv
  injection hv with hv
  injection hv with hv
  exact hv ▸ h3.lt
 ·rw[h2] at hv
  injection hv with _ hv
  injection hv with hv
  injection hv with hv
  injection hv with hv
  exact hv ▸ h3.lt
theorem WrongAt.tellS{s:St}{w w':World}{v:Value}(h:WrongAt w w' v)(hf: ∀b,w.heap.size<=b->Free s b):TellS s w' v ⟨1,⟨#[]⟩,⟨#[]⟩⟩:=⟨h.tell,fun t g hv=>by
 refine⟨?_,h.tell.lt hv⟩
 obtain⟨g',h2,_,h3⟩:=h
 rw[h2] at hv
 injection hv with _ hv
 injection hv with hv
 injection hv with hv
 injection hv with hv
 exact hf g (hv ▸ h3)⟩
theorem FaultAt.tellS{s:St}{w w':World}{v:Value}{b:ByteArray}(h:FaultAt w w' v keyW b)(hf: ∀b,w.heap.size<=b->Free s b):TellS s w' v ⟨0,keyW,b⟩:=⟨h.tell,fun t g hv=>by
 refine⟨?_,h.tell.lt hv⟩
 obtain⟨g',h2,_,h3⟩:=h
 rw[h2] at hv
 injection hv with _ hv
 injection hv with hv
 injection hv with hv
 injection hv with hv
 exact hf g (hv ▸ h3)⟩
theorem nil_tellS(s:St)(w:World):TellS s w .nilIface noneE:=⟨.inl ⟨rfl,rfl⟩,fun t g hv=>by cases hv⟩
theorem one_zD(d:Dt):(rB d&&rB zD)=rB d:=by rw[zD_right,Bool.and_true]
theorem get_uni{w:World}{m:Nat}{R:List En}{L:List Re}{many:Int}{D O:Nat->Prop}(hM:MapAt w m R D O)(hL:RL R L many){d:Dt}{md:Dm}{S:Nat->Prop}(ho:d.ok)(hd:d.at w S md)(hown:OwnAt w):
  Calls Tryd.prog 10 #[.pointer (some ⟨m,0,none⟩),.agg (d.cs md)] w fun e w'=> ∃q:Dm×Value,e=.returned (.tuple #[.agg (((getI L d).getD zD).cs q.1),.bool (getI L d).isSome,q.2])/\(((getI L d).getD zD).sep w' w.heap.size w'.heap.size q.1/\TellV w' q.2 (wrongA d zD)/\Below w.heap.size w w'):=by
 refine(kget_any hM ho hd hown).mono fun e w' ⟨hb,hh⟩=> ?_
 cases hr:rB d with
 | false=>
  rw[if_pos hr] at hh
  obtain⟨v,h1,h2⟩:=hh
  have hg:getI L d=none:=getI_none (by rw[hr];rfl)
  rw[hg,wrongA_1 (by rw[one_zD,hr])]
  exact⟨(m0,v),h1,zD_sep _ hb.size,h2.tell,hb⟩
 | true=>
  rw[if_neg (by rw[hr];simp)] at hh
  cases hk:kB d with
  | false=>
   rw[if_pos hk] at hh
   obtain⟨v,h1,h2⟩:=hh
   have hg:getI L d=none:=getI_none (by rw[hk,Bool.and_false])
   rw[hg,wrongA_2 (by rw[one_zD,hr]) hk]
   exact⟨(m0,v),h1,zD_sep _ hb.size,h2.tell,hb⟩
  | true=>
   rw[if_neg (by rw[hk];simp)] at hh
   have hg:getI L d=(L.find? fun y=>eqO y.k d).map (·.v):=getI_find (by rw[hr,hk];rfl)
   rw[wrongA_3 (by rw[one_zD,hr]) hk,hg]
   cases hf:fE R d with
   | none=>
    rw[hf] at hh
    rw[hL.find_none hM.rt.1 ho hr hf]
    exact⟨(m0,.nilIface),hh,zD_sep _ hb.size,.inl ⟨rfl,rfl⟩,hb⟩
   | some x=>
    rw[hf] at hh
    obtain⟨y,hy,e1,e2⟩:=hL.find_some hM.rt.1 ho hr hf
    rw[hy]
    obtain⟨m',h1,h2⟩:=hh
    refine⟨(m',.nilIface), ?_, ?_,.inl ⟨rfl,rfl⟩,hb⟩
    ·show e=.returned (.tuple #[.agg (y.v.cs m'),.bool true,.nilIface])
     rw[e2]
     exact h1
    ·show y.v.sep w' w.heap.size w'.heap.size m'
     rw[e2]
     exact h2
section
variable {c:PlC} {s:St} {w w':World} {k:Nat} {d v:Dt}
structure MapR (c:PlC) (s s':St) (k:Nat) (w w':World):Prop where
 mem:PM c s' w'
 L:s'.L=s.L
 many:s'.many=s.many
 n:s'.n=s.n
 R: ∀j,j≠k->s'.R j=s.R j
 grew: ∀j,Grw w (s.S j) (s'.S j)
 mov:MovC (fun b=> ∃i,wr i/\s.S i b) w w'
structure RefR (c:PlC) (s s':St) (k:Nat) (w w':World):Prop where
 mem:PM c s' w'
 L: ∀j,j≠k->s'.L j=s.L j/\s'.many j=s.many j
 n:s'.n=s.n
 R:s'.R=s.R
 grew: ∀j,Grw w (s.S j) (s'.S j)
 mov:MovC (fun b=> ∃i,wr i/\s.S i b) w w'
theorem MapR.same(h:PM c s w)(hb:Below w.heap.size w w'):MapR c s s k w w':=⟨h.old hb,rfl,rfl,rfl,fun _ _=>rfl,fun _ _ h=>.inl h,MovC.of_below hb⟩
theorem PM.mapR(h:PM c s w)(hk:k<2){R:List En}{D O:Nat->Prop}(hm:MapAt w' (c.gm k) R D O)(hM:MovC (fun b=>s.S (4*k+1) b) w w')(hD:Grw w (s.S (4*k)) D)(hO:Grw w (s.S (4*k+1)) O): ∃s',MapR c s s' k w w'/\s'.R k=R:=by
 obtain⟨O',h1,h2⟩:=h.setMap hk hm hM hD hO
 exact⟨_,⟨h1,rfl,rfl,rfl,fun j hj=>upN_ne hj,h2,hM.more fun b _ hb=>⟨4*k+1,by unfold wr;omega,hb⟩⟩,upN_eq _ _ _⟩
theorem PM.refR(h:PM c s w)(hk:k<2){L:List Re}{many:Int}{D O:Nat->Prop}(hm:RefAt w' (c.gr k) L many D O)(hM:MovC (fun b=>s.S (4*k+3) b) w w')(hD:Grw w (s.S (4*k+2)) D)(hO:Grw w (s.S (4*k+3)) O): ∃s',RefR c s s' k w w'/\s'.L k=L/\s'.many k=many:=by
 obtain⟨h1,h2⟩:=h.setRef hk hm hM hD hO
 exact⟨_,⟨h1,fun j hj=>⟨upN_ne hj,upN_ne hj⟩,rfl,rfl,h2,hM.more fun b _ hb=>⟨4*k+3,by unfold wr;omega,hb⟩⟩,upN_eq _ _ _,upN_eq _ _ _⟩
theorem grw_of{w:World}{D D0 D':Nat->Prop}(h:Grew w D0 D')(h0: ∀b,D0 b->D b):Grw w D D':=fun b hb=>(h.2 b hb).imp_left (h0 b)
theorem zero_lt(ho:OwnAt c.w0):0<c.w0.heap.size:=cell_lt (ho 0 _ rfl)
theorem mput_uni(h:PM c s w)(ho':OwnAt c.w0)(hk:k<2)(hL:(s.R k).length<=549755813887){md mv:Dm}{S T:Nat->Prop}(ho:d.ok)(hvo:v.ok)(hd:d.at w S md)(hv:v.at w T mv)(hS: ∀b,S b->Free s b)(hT: ∀b,T b->Free s b):
  Calls Tryd.prog 9 #[.pointer (some ⟨c.gm k,0,none⟩),.agg (d.cs md),.agg (v.cs mv)] w fun e w'=> ∃q:Value,e=.returned q/\(∃s',TellS s' w' q (wrongA d v)/\MapR c s s' k w w'/\(if(rB d&&rB v&&kB d)=true then PutNew (s.R k) d v (s'.R k) else s'.R k=s.R k)):=by
 obtain⟨O0,hm,h0⟩:=(h.map k hk).min
 have hz:=zero_lt ho'
 refine(kput_any hm (fun q=>by have:=(h.low _ _ (h0 0 q).1).1;omega) hL ho hvo hd hv (fun b hb q=>hS b hb _ (by unfold wr;omega) (h0 b q).1) (fun b hb q=>hT b hb _ (by unfold wr;omega) (h0 b q).1) (h.own ho')).mono fun e w' hh=> ?_
 unfold PutR at hh
 cases hr:rB d&&rB v with
 | false=>
  rw[if_pos hr] at hh
  obtain⟨hb,x,h1,h2⟩:=hh
  rw[wrongA_1 hr,Bool.false_and]
  exact⟨x,h1,s,h2.tellS (fun b hb=>h.newF hb),MapR.same h hb,by rw[if_neg (by simp)]⟩
 | true=>
  rw[if_neg (by rw[hr];simp)] at hh
  cases hkb:kB d with
  | false=>
   rw[if_pos hkb] at hh
   obtain⟨hb,x,h1,h2⟩:=hh
   rw[wrongA_2 hr hkb,Bool.and_false]
   exact⟨x,h1,s,h2.tellS (fun b hb=>h.newF hb),MapR.same h hb,by rw[if_neg (by simp)]⟩
  | true=>
   rw[if_neg (by rw[hkb];simp)] at hh
   obtain⟨h1,R',h2,D',O',h3,h4,h5,h6⟩:=hh
   obtain⟨s',q1,q2⟩:=h.mapR hk h3 (h4.more fun b hb=>⟨(h0 b hb).1,(h0 b hb).2.1⟩) (grw_of h5 fun _ h=>h) (grw_of h6 fun b hb=>(h0 b hb).1)
   rw[wrongA_3 hr hkb]
   refine⟨.nilIface,h1,s',nil_tellS _ _,q1, ?_⟩
   rw[if_pos (by rfl),q2]
   exact h2
theorem mdrop_uni(h:PM c s w)(ho':OwnAt c.w0)(hk:k<2)(hL:(s.R k).length<=549755813887)(hRL:RL (s.R k) (s.L k) (s.many k)){md:Dm}{S:Nat->Prop}(ho:d.ok)(hd:d.at w S md):
  Calls Tryd.prog 11 #[.pointer (some ⟨c.gm k,0,none⟩),.agg (d.cs md)] w fun e w'=> ∃q:Value,e=.returned (.tuple #[.bool (getI (s.L k) d).isSome,q])/\(∃s',TellS s' w' q (wrongA d zD)/\MapR c s s' k w w'/\(RL (s'.R k) (dropI (s.L k) d) (s.many k)/\Evo (s.L k) (s.many k) (dropI (s.L k) d) (s.many k)/\(dropI (s.L k) d).length<=(s.L k).length)):=by
 obtain⟨O0,hm,h0⟩:=(h.map k hk).min
 have hrt:=(h.map k hk).rt
 refine(kdrop_any hm (by omega) ho hd (h.own ho')).mono fun e w' hh=> ?_
 unfold DropR at hh
 have same:dropI (s.L k) d=s.L k->RL (s.R k) (dropI (s.L k) d) (s.many k)/\Evo (s.L k) (s.many k) (dropI (s.L k) d) (s.many k)/\(dropI (s.L k) d).length<=(s.L k).length:=fun e=>by
  rw[e]
  exact⟨hRL,Evo.refl _ _,Nat.le_refl _⟩
 cases hr:rB d with
 | false=>
  rw[if_pos hr] at hh
  obtain⟨hb,x,h1,h2⟩:=hh
  have hg:getI (s.L k) d=none:=getI_none (by rw[hr];rfl)
  rw[hg,wrongA_1 (by rw[one_zD,hr])]
  exact⟨x,h1,s,h2.tellS (fun b hb=>h.newF hb),MapR.same h hb,same (by unfold dropI;rw[hr];rfl)⟩
 | true=>
  rw[if_neg (by rw[hr];simp)] at hh
  cases hkb:kB d with
  | false=>
   rw[if_pos hkb] at hh
   obtain⟨hb,x,h1,h2⟩:=hh
   have hg:getI (s.L k) d=none:=getI_none (by rw[hkb,Bool.and_false])
   rw[hg,wrongA_2 (by rw[one_zD,hr]) hkb]
   exact⟨x,h1,s,h2.tellS (fun b hb=>h.newF hb),MapR.same h hb,same (by unfold dropI;rw[hkb,Bool.and_false];rfl)⟩
  | true=>
   rw[if_neg (by rw[hkb];simp)] at hh
   have hg:getI (s.L k) d=((s.L k).find? fun y=>eqO y.k d).map (·.v):=getI_find (by rw[hr,hkb];rfl)
   rw[wrongA_3 (by rw[one_zD,hr]) hkb,hg]
   cases hf:fE (s.R k) d with
   | none=>
    rw[hf] at hh
    have hn:=hRL.find_none hrt.1 ho hr hf
    rw[hn]
    exact⟨.nilIface,hh.2,s,nil_tellS _ _,MapR.same h hh.1,same (drop_no hn)⟩
   | some x=>
    rw[hf] at hh
    obtain⟨y,hy,e1,e2⟩:=hRL.find_some hrt.1 ho hr hf
    rw[hy]
    obtain⟨h1,X,Z,hX,h3,h4⟩:=hh
    obtain⟨s',q1,q2⟩:=h.mapR hk h3 (h4.more fun b hb=>⟨(h0 b hb).1,(h0 b hb).2.1⟩) (fun _ h=>.inl h) (fun b hb=>.inl (h0 b hb).1)
    refine⟨.nilIface,h1,s',nil_tellS _ _,q1, ?_⟩
    rw[q2]
    have hrt1:=hrt.1
    rw[hX] at hRL hrt1 hf
    exact hRL.drop hrt1 ho hr hkb hf
theorem rput_uni(h:PM c s w)(hk:k<2)(hL:(s.L k).length<=200000000000)(hm: -1<=s.many k/\s.many k<=9000000000000000000){md mv:Dm}{S T:Nat->Prop}(ho:d.ok)(hvo:v.ok)(hd:d.at w S md)(hv:v.at w T mv)(hS: ∀b,S b->Free s b)(hT: ∀b,T b->Free s b):
  Calls Tryd.prog 46 #[.pointer (some ⟨c.gr k,0,none⟩),.agg (d.cs md),.agg (v.cs mv)] w fun e w'=>e=.returned (.agg (wrongA d v).cs)/\∃s',RefR c s s' k w w'/\PutI (s.L k) d v (s.many k) (s'.L k) (s'.many k):=by
 refine(rput_any (h.ref k hk).cel hL hm ho hvo hd hv (fun b hb q=>hS b hb _ (by unfold wr;omega) q.1) (fun b hb q=>hT b hb _ (by unfold wr;omega) q.1)).mono fun e w' hh=> ?_
 obtain⟨h1,L',many',D',O',h2,h3,h4,h5,h6⟩:=hh
 obtain⟨s',q1,q2,q3⟩:=h.refR hk h2 h3 (grw_of h4 fun _ h=>h) (grw_of h5 fun _ h=>h.1)
 exact⟨h1,s',q1,by rw[q2,q3];exact h6⟩
theorem rdrop_uni(h:PM c s w)(hk:k<2)(hL:(s.L k).length<=200000000000){md:Dm}{S:Nat->Prop}(ho:d.ok)(hd:d.at w S md):
  Calls Tryd.prog 47 #[.pointer (some ⟨c.gr k,0,none⟩),.agg (d.cs md)] w fun e w'=>e=.returned (.tuple #[.bool (getI (s.L k) d).isSome,.agg (wrongA d zD).cs])/\∃s',RefR c s s' k w w'/\s'.L k=dropI (s.L k) d/\s'.many k=s.many k:=by
 refine(rdrop_any (h.ref k hk).cel hL ho hd).mono fun e w' hh=> ?_
 obtain⟨h1,O',h2,h3,h4⟩:=hh
 obtain⟨s',q1,q2,q3⟩:=h.refR hk h2 h3 (fun _ h=>.inl h) (grw_of h4 fun _ h=>h.1)
 exact⟨h1,s',q1,q2,q3⟩
theorem PM.keep(h:PM c s w)(hs:w.heap.size<=w'.heap.size)(hk: ∀i b,s.S i b->w'.heap[b]? =w.heap[b]?)(hb:Below c.w0.heap.size c.w0 w'):PM c s w' where
 map:=fun j hj=>(h.map j hj).keepB hs fun b q=>q.elim (hk _ b) (hk _ b)
 ref:=fun j hj=>(h.ref j hj).keep hs fun b q=>q.elim (hk _ b) (hk _ b)
 out:=h.out.keep (fun b q _=>hk _ b q) (fun _ h _=>h)
 cel:=fun j hj=>⟨⟨(hk _ _ (h.cel j hj).1.2).trans (h.cel j hj).1.1,(h.cel j hj).1.2⟩,⟨(hk _ _ (h.cel j hj).2.2).trans (h.cel j hj).2.1,(h.cel j hj).2.2⟩⟩
 dis:=h.dis
 low:=fun i b q=>⟨(h.low i b q).1,Nat.lt_of_lt_of_le (h.low i b q).2 hs⟩
 bel:=hb
theorem PS.moved(h:PS c s w){T:Nat->Prop}(hM:MovC T w w')(hT: ∀b,T b->∀i,¬s.S i b)(hl: ∀b,T b->c.w0.heap.size<=b):PS c s w':=
 ⟨h.mem.keep hM.size (fun i b q=>hM.block b (h.mem.low i b q).2 fun ht=>hT b ht.1 i q) ⟨hM.os.trans h.mem.bel.os,hM.tape.trans h.mem.bel.tape,hM.output.trans h.mem.bel.output,Nat.le_trans h.mem.bel.size hM.size,fun b q=>(hM.block b (Nat.lt_of_lt_of_le q h.mem.bel.size) fun ht=>by have:=hl b ht.1;omega).trans (h.mem.bel.block b q)⟩,h.rel⟩
theorem Nx.post{s s':St}{w w' w2:World}{p q:Nat}(h:Nx s s' w w' p q){T:Nat->Prop}(hM:MovC T w' w2)(hT: ∀x,x<w.heap.size->¬T x):Nx s s' w w2 p q:=
 ⟨h.mov.trans hM fun x hx ht=>(hT x hx ht).elim,h.grew,h.evo,h.len,h.num⟩
theorem PS.both{s1 s2:St}{u u':World}(h:PS c s w)(q1:MapR c s s1 k w u)(q2:RefR c s1 s2 k u u')(hrl:RL (s1.R k) (s2.L k) (s2.many k))(hev:Evo (s.L k) (s.many k) (s2.L k) (s2.many k))(hlen:(s2.L k).length<=(s.L k).length+1/\s2.many k<=s.many k+1):PS c s2 u'/\Nx s s2 w u' 1 0:=by
 refine⟨⟨q2.mem,fun j hj=> ?_⟩,⟨q1.mov.trans q2.mov fun x hx ⟨i,hi,hs⟩=> ?_,fun i b hb=> ?_,fun j hj=> ?_,fun j hj=> ?_, ?_⟩⟩
 ·by_cases e:j=k
  ·subst e
   rw[q2.R]
   exact hrl
  ·rw[q2.R,q1.R j e,(q2.L j e).1,(q2.L j e).2,q1.L,q1.many]
   exact h.rel j hj
 ·exact(q1.grew i x hs).elim (fun q=>⟨i,hi,q⟩) (fun q=>by omega)
 ·exact(q2.grew i b hb).elim (q1.grew i b) (fun q=>.inr (Nat.le_trans q1.mov.size q))
 ·by_cases e:j=k
  ·subst e
   exact hev
  ·rw[(q2.L j e).1,(q2.L j e).2,q1.L,q1.many]
   exact Evo.refl _ _
 ·by_cases e:j=k
  ·subst e
   exact hlen
  ·rw[(q2.L j e).1,(q2.L j e).2,q1.L,q1.many]
   constructor<;>omega
 ·rw[q2.n,q1.n]
  exact Nat.le_add_right _ _
end
end Go.Proofs.YtlhfickniegooaaDoor
