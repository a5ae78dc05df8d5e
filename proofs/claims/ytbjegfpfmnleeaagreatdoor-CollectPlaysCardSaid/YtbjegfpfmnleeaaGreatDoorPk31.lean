/-
   Written by an AI agent.
-/
import Derived.Test.YtbjegfpfmnleeaaGreatDoorPk14
import Derived.Test.YtbjegfpfmnleeaaGreatDoorPk30
namespace Go.Proofs.YtbjegfpfmnleeaaGreatDoor
open Go.RowKit Go.Maps
set_option maxRecDepth 100000
theorem G9{w:World}{S:Nat->Prop}{pa:Option Addr}{l:List Int}(h:PathAt w S pa l){i:Nat}{x:Int}(hx:l[i]? =some x): ∃g o,pa=some ⟨g,o,none⟩/\w.cell? ⟨g,o+i*1,none⟩=some (ii x):=by
 obtain⟨g,o,h1,_,h2⟩:=h.get hx
 exact⟨g,o,h1,by rw[Nat.mul_one];exact h2⟩
theorem Ri{l m:List Int}{i:Nat}{x y:Int}(hx:l[i]? =some x)(hy:m[i]? =some y)(h:l.take i=m.take i)(e:x=y):l.take (i+1)=m.take (i+1):=by
 rw[List.take_add_one,List.take_add_one,hx,hy,h,e]
theorem Kj{w:World}{S S':Nat->Prop}{pa qa:Option Addr}{l m:List Int}(hp:PathAt w S pa l)(hq:PathAt w S' qa m)(pc qc:Nat)(hl:l.length<=1000000000):
  Calls Tryz.prog 16 #[.slice pa l.length pc,.slice qa m.length qc] w fun e w'=>e=.returned (.bool (decide (l=m)))/\Below w.heap.size w w':=by
 refine B6 (vs:=[.slice pa l.length pc,.slice qa m.length qc]) 26 Tryz.func16 Br5 Zk (by simp) fun a0 h0=> ?_
 unfold Bb0
 refine Zs (Eo0 h0 fun a1 h1=> ?_)
 by_cases hlm:l.length=m.length
 ·refine wp_seq (Zs (Cy3 (sn:=l.length) (tn:=m.length) (b10:=false) h1 rfl rfl (decide_eq_false Zo) fun a2 h2=>B9 (h2.look 10 rfl) ?_))
  refine wp_seq (Zs (Eo2 h2 fun a3 h3=> ?_))
  refine wp_block ?_
  refine wp_loop (fun a' wr=> ∃i:Nat,i<=l.length/\Sl 26 a' [(5,ii (i:Int)),(0,.slice pa l.length pc),(1,.slice qa m.length qc)]/\Below w.heap.size w wr/\l.take i=m.take i) (fun a' _=>G1 l.length (F9 a' 5))
   ⟨0,Nat.zero_le _,h3.to ⟨rfl,rfl,rfl,trivial⟩,Below.refl _ _,rfl⟩ ?_
  rintro a4 w4 ⟨i,hi,h4,hb4,ht⟩
  rw[h4.look 5 rfl,B4]
  unfold Ev2
  by_cases hlt:i<l.length
  ·refine wp_seq (Zs (Cy4 (sn:=l.length) (b14:=true) h4 rfl rfl (decide_eq_true Zo) fun a5 h5=>wpn (h5.look 14 rfl) ?_))
   obtain⟨x,hx⟩: ∃x,l[i]? =some x:=⟨l[i],List.getElem?_eq_getElem hlt⟩
   obtain⟨y,hy⟩: ∃y,m[i]? =some y:=⟨m[i]'Zo,List.getElem?_eq_getElem _⟩
   have hp4:PathAt w4 (fun b=>b<w.heap.size) pa l:=hp.keep (fun b _ hl=>hb4.block b hl) (fun b _ hl=>hl)
   have hq4:PathAt w4 (fun b=>b<w.heap.size) qa m:=hq.keep (fun b _ hl=>hb4.block b hl) (fun b _ hl=>hl)
   obtain⟨g,o,hpa,hc⟩:=G9 hp4 hx
   obtain⟨g',o',hqa,hc'⟩:=G9 hq4 hy
   rw[hpa,hqa] at h5
   refine wp_seq (wp_block ?_)
   by_cases hxy:x=y
   ·refine Zs (Cy5 (x:=x) (y:=y) (b25:=false) h5 rfl rfl rfl (fun w=>D7 hlt w) (H9 Tryz.underlying3 rfl hc) (fun w=>D7 Zo w) (H9 Tryz.underlying3 rfl hc') (decide_eq_false (by simpa using hxy)) fun a6 md h6=>B9 (h6.look 25 rfl) (B1 ?_))
    show Code.wp _ (Hh 5) _ a6 _
    refine Zl (Eo3 h6 rfl Zo fun a7 h7=>⟨⟨i+1,hlt, ?_,A7 hb4 (B3 (Below.refl _ _) _),Ri hx hy ht hxy⟩, ?_⟩)
    ·rw[hpa,hqa]
     exact h7.to ⟨rfl,rfl,rfl,trivial⟩
    ·rw[h7.look 5 rfl]
     show G1 l.length (ii ((i+1:Nat):Int))<_
     rw[B4]
     omega
   ·refine Zs (Cy5 (x:=x) (y:=y) (b25:=true) h5 rfl rfl rfl (fun w=>D7 hlt w) (H9 Tryz.underlying3 rfl hc) (fun w=>D7 Zo w) (H9 Tryz.underlying3 rfl hc') (decide_eq_true hxy) fun a6 md h6=>wp_cond_true (h6.look 25 rfl) ?_)
    refine Zs (Eo4 h6 fun a7 h7=>wp_ret ?_)
    repeat (first | with_reducible refine D2 ?_ | with_reducible refine F1 ?_)
    refine G7 rfl h7 rfl ⟨?_,A7 hb4 (B3 (Below.refl _ _) _)⟩
    rw[decide_eq_false fun e=>hxy (by rw[e,hy] at hx;injection hx with hx;exact hx.symm)]
  ·refine wp_seq (Zs (Cy4 (sn:=l.length) (b14:=false) h4 rfl rfl (decide_eq_false Zo) fun a5 h5=>C9 (h5.look 14 rfl) ?_))
   refine A8 (A8 (B8 ?_))
   refine Zs (Eo5 h5 fun a6 h6=>wp_ret ?_)
   refine G7 rfl h6 rfl ⟨?_,hb4⟩
   obtain rfl:i=l.length:=by omega
   rw[List.take_length,hlm,List.take_length] at ht
   rw[decide_eq_true ht]
 ·refine wp_seq (Zs (Cy3 (sn:=l.length) (tn:=m.length) (b10:=true) h1 rfl rfl (decide_eq_true Zo) fun a2 h2=>wp_cond_true (h2.look 10 rfl) ?_))
  refine Zs (Eo1 h2 fun a3 h3=>wp_ret ?_)
  refine D2 (G7 rfl h3 rfl ⟨?_,Below.refl _ _⟩)
  rw[decide_eq_false fun e=>hlm (by rw[e])]
abbrev I4:=Int×Int×Int×Int
def Acts4(w:World)(pa:Option Addr)(xs:List I4):Prop:= ∀(j:Nat) (x:I4),xs[j]? =some x->∃g o,pa=some ⟨g,o,none⟩/\g<w.heap.size/\w.cell? ⟨g,o+j*4,none⟩=some (ii x.1)/\w.cell? ⟨g,o+j*4+1,none⟩=some (ii x.2.1)/\w.cell? ⟨g,o+j*4+2,none⟩=some (ii x.2.2.1)/\w.cell? ⟨g,o+j*4+3,none⟩=some (ii x.2.2.2)/\F8 x.1/\F8 x.2.1/\F8 x.2.2.1/\F8 x.2.2.2
theorem Acts4.below{w w':World}{pa:Option Addr}{xs:List I4}(h:Acts4 w pa xs)(hb:Below w.heap.size w w'):Acts4 w' pa xs:=fun j x hx=>by
 obtain⟨g,o,h1,h2,c0,c1,c2,c3,h4⟩:=h j x hx
 exact⟨g,o,h1,Nat.lt_of_lt_of_le h2 hb.size,(hb.cell (p:=⟨g,o+j*4,none⟩) h2).trans c0,(hb.cell (p:=⟨g,o+j*4+1,none⟩) h2).trans c1,(hb.cell (p:=⟨g,o+j*4+2,none⟩) h2).trans c2,(hb.cell (p:=⟨g,o+j*4+3,none⟩) h2).trans c3,h4⟩
theorem Cz5{q o n c:Nat}{j:Nat}(hj:j<n)(w:World):(Instr.indexAt 22 (.slice (some ⟨q,o,none⟩) n c) (ii (j:Int))).run Tryz.prog w=.ok (.pointer (some ⟨q,o+j*4,none⟩)) w:=
 J2 (o:=o) (sz:=4) j Tryz.underlying22 Zk hj w
theorem Xl{w:World}{g o:Nat}{k a b c:Int}(h0:w.cell? ⟨g,o,none⟩=some (ii k))(h1:w.cell? ⟨g,o+1,none⟩=some (ii a))(h2:w.cell? ⟨g,o+2,none⟩=some (ii b))(h3:w.cell? ⟨g,o+3,none⟩=some (ii c)):Lds Tryz.prog Aq (.pointer (some ⟨g,o,none⟩)) (.agg (Ar k a b c)) w:=
  Bo7 (cs:=(Ar k a b c).toList) Tryz.underlying59 rfl Zk (fun j v hj=>by
    match j,hj with
    | 0, hj => obtain rfl : Value.int .i64 k = v := by simpa using hj
               exact h0
    | 1, hj => obtain rfl : Value.int .i64 a = v := by simpa using hj
               exact h1
    | 2, hj => obtain rfl : Value.int .i64 b = v := by simpa using hj
               exact h2
    | 3, hj => obtain rfl : Value.int .i64 c = v := by simpa using hj
               exact h3)
def Xm(σ:St)(x:I4):St:=Bh σ x.1 x.2.1 x.2.2.1 x.2.2.2
def st0:St:=⟨0,[],[],[]⟩
def De(xs:List I4):St:=(xs.take 80).foldl Xm st0
theorem Bb6:StOk st0:=⟨rfl,Nat.zero_le _,Nat.le_refl _,fun x h=>(by cases h),fun i t h=>(by cases h)⟩
theorem Am1(σ:St)(x:I4):(Xm σ x).X.length<=σ.X.length+1:=by
 unfold Xm Bh
 split
 ·simp
 repeat (split;exact Nat.le_succ _)
 exact Nat.le_succ _
theorem Xn: ∀(xs:List I4) (n:Nat) (σ:St),n+xs.length<=80->StOk σ->TQ n σ.T->σ.X.length<=n->StOk (xs.foldl Xm σ)/\TQ (n+xs.length) (xs.foldl Xm σ).T/\(xs.foldl Xm σ).X.length<=n+xs.length
 | [],n,σ,_,h1,h2,h3=>⟨h1,h2,h3⟩
 | x::r,n,σ,hl,h1,h2,h3=>by
  simp only[List.length_cons] at hl
  obtain⟨q1,q2⟩:=Cz3 h1 Zo (m:=n) Zo h2 x.1 x.2.1 x.2.2.1 x.2.2.2
  have q3:=Am1 σ x
  obtain⟨r1,r2,r3⟩:=Xn r (n+1) (Xm σ x) Zo q1 q2 Zo
  simp only[List.foldl_cons,List.length_cons]
  rw[show n+(r.length+1)=n+1+r.length by omega]
  exact⟨r1,r2,r3⟩
def Bb7(w:World)(xs:List I4)(e:Ending)(w':World):Prop:= ∃wp:Nat,e=.returned (pT wp)/\((∃gh O sd sk,Wd w.heap.size w' wp gh O (De xs) sd sk)/\Below w.heap.size w w')
set_option maxHeartbeats 1000000 in
theorem Kk{w:World}(hown:OwnAt w)(hw0:0<w.heap.size){xs:List I4}{pa:Option Addr}(hA:Acts4 w pa xs)(pc:Nat):
  Calls Tryz.prog 8 #[.slice pa xs.length pc] w (Bb7 w xs):=by
 refine B6 (vs:=[.slice pa xs.length pc]) 30 Tryz.func8 Br6 Zk (by simp) fun a0 h0=> ?_
 unfold Bb1
 refine Zs (Eo6 h0 fun a1 h1=> ?_)
 refine Zs (Eo7 (C0:=fun gh u=>gh=w.heap.size+1/\HpB u (w.heap.size+1) w.heap.size 0 0 []/\Below w.heap.size w u/\u.heap.size=w.heap.size+2) h1 ((Af5 w).mono fun e w' ⟨r1,r2,r3,r4⟩=>⟨_,r1,rfl,r2,r3,r4⟩) fun a2 gh u hu h2=> ?_)
 obtain⟨rfl,hH,hbu,hzu⟩:=hu
 obtain⟨gh,hgh⟩: ∃gh,gh=w.heap.size+1:=⟨_,rfl⟩
 obtain⟨wp,hwp⟩: ∃wp,wp=w.heap.size+2:=⟨_,rfl⟩
 rw[<-hgh] at hH ⊢
 rw[hzu,<-hwp] at h2
 have hB:=Blk.new u Lv #[pT gh,.slice none 0 0,.slice none 0 0]
 rw[hzu,<-hwp] at hB
 have hbv:Below u.heap.size u (u.alloc (.cells #[pT gh,.slice none 0 0,.slice none 0 0] Lv)):=B2 (Below.refl _ _) _
 change Code.wp _ _ _ a2 (u.alloc (.cells #[pT gh,.slice none 0 0,.slice none 0 0] Lv))
 generalize u.alloc (.cells #[pT gh,.slice none 0 0,.slice none 0 0] Lv)=v at hB hbv ⊢
 have hzv:=hbv.size
 have hHv:HpB v gh w.heap.size 0 0 []:=hH.below hbv Zo Zo
 have hX:HSx w.heap.size v gh (fun b=>b=gh\/b=w.heap.size) 0 [] w.heap.size (fun _=>0) (fun _ _=>False):=
  {hp:=hHv,th:=fun i t h=>(by cases h),sub:=fun i b h=>h.elim,sep:=fun i j b h=>h.elim,base:=⟨.inl rfl,.inr rfl⟩,lim:=fun b hb=>by rcases hb with rfl | rfl<;>omega,num:=fun i t h=>(by cases h),rise:=List.Pairwise.nil,far:=Nat.zero_le _}
 have hW0:Wd w.heap.size v wp gh (fun b=>b=gh\/b=w.heap.size) st0 ⟨none,0,0⟩ ⟨none,0,0⟩:=⟨hB,⟨_,_,_,hX⟩,ARow.nil _ _ _ _,ZRow.nil _ _,Zo,Zo,fun g h=>(by cases h),fun g h=>(by cases h),Bb6⟩
 have hbw:=A7 hbu hbv
 refine wp_seq (Zs (Eo8 (b12:=false) h2 rfl (A9 hB Tryz.underlying35 rfl rfl) (fun w=>rfl) fun a3 h3=>B9 (h3.look 12 rfl) ?_))
 refine wp_seq (Zs (Eo9 h3 fun a4 h4=> ?_))
 refine wp_block ?_
 refine wp_loop (fun a' wr=> ∃(i:Nat) (O:Nat->Prop) (sd sk:S3),i<=xs.length/\i<=80/\Sl 30 a' [(4,ii (i:Int)),(3,pT wp),(0,.slice pa xs.length pc)]/\Wd w.heap.size wr wp gh O ((xs.take i).foldl Xm st0) sd sk/\Below w.heap.size w wr) (fun a' _=>G1 xs.length (F9 a' 4))
  ⟨0,_,_,_,Nat.zero_le _,Nat.zero_le _,h4.to ⟨rfl,rfl,rfl,trivial⟩,hW0,hbw⟩ ?_
 rintro a5 w5 ⟨i,O,sd,sk,hi,hi80,h5,hW5,hb5⟩
 rw[h5.look 4 rfl,B4]
 unfold Ev3
 by_cases hlt:i<xs.length/\i<80
 ·refine wp_seq (Zs (Xh (an:=xs.length) (b19:=true) h5 rfl rfl (decide_eq_true Zo) (decide_eq_true Zo) fun a6 h6=>wpn (h6.look 20 rfl) ?_))
  obtain⟨x,hx⟩: ∃x,xs[i]? =some x:=⟨xs[i]'hlt.1,List.getElem?_eq_getElem _⟩
  obtain⟨g,o,hpa,hg,c0,c1,c2,c3,k0,k1,k2,k3⟩:=(hA.below hb5) i x hx
  rw[hpa] at h6
  have hlen:(xs.take i).length=i:=by rw[List.length_take];omega
  obtain⟨q1,q2,q3⟩:=Xn (xs.take i) 0 st0 Zo Bb6 (fun i t h=>(by cases h)) (Nat.zero_le _)
  rw[hlen] at q2 q3
  refine wp_seq (wp_block ?_)
  refine Zl (Ep1 (ak:=x.1) (aa:=x.2.1) (ab:=x.2.2.1) (ac:=x.2.2.2) (C0:=fun z=>ActR w.heap.size w5 wp gh (Xm ((xs.take i).foldl Xm st0) x) z) h6 rfl rfl rfl (fun w=>Cz5 hlt.1 w) (Xl c0 c1 c2 c3) (Bs6 hW5 (hown.old hb5) hw0 (m:=i) Zo (by simpa using q2) Zo k1 k2 k3) fun a7 z hz h7=> ?_)
  obtain⟨O',sd',sk',r1,r2⟩:=hz
  refine B1 ?_
  show Code.wp _ (Fw 6) _ a7 z
  refine Zl (Ep0 h7 rfl Zo fun a8 h8=>⟨⟨i+1,O',sd',sk',hlt.1,hlt.2, ?_, ?_,hb5.trans r2⟩, ?_⟩)
  ·rw[hpa]
   exact h8.to ⟨rfl,rfl,rfl,trivial⟩
  ·rw[List.take_add_one,hx]
   simp only[Option.toList_some,List.foldl_append,List.foldl_cons,List.foldl_nil]
   exact r1
  ·rw[h8.look 4 rfl]
   show G1 xs.length (ii ((i+1:Nat):Int))<_
   rw[B4]
   omega
 ·have hend:(xs.take i).foldl Xm st0=De xs:=by
   unfold De
   rcases Nat.lt_or_ge i xs.length with h | h
   ·obtain rfl:i=80:=by omega
    rfl
   ·rw[List.take_of_length_le h,List.take_of_length_le Zo]
  rw[hend] at hW5
  have fin: ∀a6:Act,Sl 30 a6 [(3,pT wp)]->Code.wp Tryz.prog (.seq (Fw 8) .ret) (bodyPost Tryz.prog Tryz.f8 (Bb7 w xs)) a6 w5:=fun a6 h6=>by
   refine Zs (Ep2 h6 rfl fun a7 h7=>wp_ret ?_)
   exact G7 rfl h7 rfl ⟨wp,rfl,⟨gh,O,sd,sk,hW5⟩,hb5⟩
  by_cases h1:i<xs.length
  ·refine wp_seq (Zs (Xh (an:=xs.length) (b19:=false) h5 rfl rfl (decide_eq_true Zo) (decide_eq_false Zo) fun a6 h6=>C9 (h6.look 20 rfl) ?_))
   refine A8 (A8 (B8 ?_))
   exact fin a6 (h6.to ⟨rfl,trivial⟩)
  ·refine wp_seq (Zs (Br7 (an:=xs.length) h5 rfl rfl (decide_eq_false Zo) fun a6 h6=>C9 (h6.look 20 rfl) ?_))
   refine A8 (A8 (B8 ?_))
   exact fin a6 (h6.to ⟨rfl,trivial⟩)
theorem Ou: ∀xs:List Fd,(∀x,x∈xs->x.ok)->L1 (xsF xs)=xs.flatMap Fd.to
 | [],_=>rfl
 | x::r,h=>by
  show((if x.h.obj=0 then[] else[x.h.obj])++(if x.h.kind=8 then L1 .nil else[]))++L1 (xsF r)=_
  rw[Cq9 x (h x (by simp)),Ou r fun y hy=>h y (List.mem_cons_of_mem _ hy),List.flatMap_cons]
  have:(if x.h.kind=8 then L1 .nil else[])=[]:=by split<;>rfl
  rw[this,List.append_nil]
def Df(xs:List Fd):List Int:=L3 (xs.flatMap Fd.to)
theorem Mu{xs:List Fd}(h: ∀x,x∈xs->x.ok):H7 [] (xsF xs)=Df xs:=by
 unfold H7 Df
 rw[Ou xs h,List.nil_append]
theorem Xo{w:World}{S:Nat->Prop}{ia:Option Addr}{xs:List Fd}(hok: ∀x,x∈xs->x.ok)(hl:xs.length<=1000)(hr:RowX w S ia xs):InAt w (xsF xs) ia [] none:=by
 have hn:=Gu xs
 refine⟨Ci xs hok,by rw[R8];omega, ?_,.inl rfl, ?_,fun x hx=> ?_⟩
 ·exact(RowX.sl (hr.keep (O':=fun b=>b<w.heap.size) (fun _ _ _=>rfl) (fun b _ hl=>hl)))
 ·rw[List.nil_append,Ou xs hok]
  omega
 ·rw[List.nil_append,Ou xs hok] at hx
  obtain⟨y,hy,hx⟩:=List.mem_flatMap.1 hx
  have:=Il (hok y hy) hx
  omega
section
variable {B:Nat} {w:World} {wp gh:Nat} {O:Nat->Prop} {σ:St} {sd sk:S3} {S:Nat->Prop} {ia:Option Addr} {xs:List Fd}
theorem Am2(h:Wd B w wp gh O σ sd sk)(hown:OwnAt w)(hok: ∀x,x∈xs->x.ok)(hl:xs.length<=1000)(hr:RowX w S ia xs)(lc:Nat):
  Calls Tryz.prog 12 #[pT gh,.slice ia xs.length lc,.slice none 0 0] w fun e w'=> ∃q:S3,e=.returned (.slice q.d q.n q.c)/\(ZRow w' w.heap.size q (F6 σ.T (Df xs))/\Below w.heap.size w w'):=by
 obtain⟨bm,pt,own,hX⟩:=h.hs
 have:=Ce hX hown h.ok.tok (Xo hok hl hr) lc 0
 rw[Mu hok,R8] at this
 exact this
theorem Ew6(h:Wd B w wp gh O σ sd sk)(hown:OwnAt w)(hok: ∀x,x∈xs->x.ok)(hl:xs.length<=1000)(hr:RowX w S ia xs)(lc:Nat){z:Int}(hz:F8 z):
  Calls Tryz.prog 13 #[pT gh,.slice ia xs.length lc,.slice none 0 0,ii z] w fun e w'=> ∃q:S3,e=.returned (.slice q.d q.n q.c)/\(ZRow w' w.heap.size q (Ad3 σ.T (Df xs) z)/\Below w.heap.size w w'):=by
 obtain⟨bm,pt,own,hX⟩:=h.hs
 have:=Sz hX hown h.ok.tok (Xo hok hl hr) lc 0 hz
 rw[Mu hok,R8] at this
 exact this
theorem Ov{σ:St}(h:StOk σ)(R:List Int):StOk {σ with T:=H4 σ.T R}:=⟨h.len,h.far,h.last,h.ok,fun i t ht=>h.tok i t (List.mem_filter.1 ht).1⟩
theorem Cz6(h:Wd B w wp gh O σ sd sk)(hown:OwnAt w)(hok: ∀x,x∈xs->x.ok)(hl:xs.length<=1000)(hr:RowX w S ia xs)(lc:Nat):
  Calls Tryz.prog 18 #[pT gh,.slice ia xs.length lc,.slice none 0 0] w fun e w'=>e=.returned (ii ((O8 σ.T (Df xs) (keysT σ.T).length:Nat):Int))/\((∃O',Wd B w' wp gh O' {σ with T:=H4 σ.T (Df xs)} sd sk/\∀b,O b->O' b)/\Moved O w w'/\Below B w w'):=by
 obtain⟨bm,pt,own,hX⟩:=h.hs
 have:=Ip hX hown h.ok.tok (Xo hok hl hr) lc 0
 rw[Mu hok,R8] at this
 refine this.mono ?_
 rintro e w' ⟨r1,O',h1,h2,h3,h4⟩
 have hk: ∀b,b<w.heap.size->¬O b->w'.heap[b]? =w.heap[b]? :=fun b hb ho=>h2.block b hb ho
 have ho': ∀b,b<w.heap.size->¬O b->¬O' b:=fun b hb ho e=>(h4 b e).elim ho fun q=>by omega
 exact⟨r1,⟨O',⟨(hk _ h.blk.lt h.o1).trans h.blk,h1,ARow.keep h.data fun g hg=>hk g (ARow.block h.data hg).2 (h.o2 g hg),ARow.keep h.kinds fun g hg=>hk g (ARow.block h.kinds hg).2 (h.o3 g hg),h.lo,ho' _ h.blk.lt h.o1,fun g hg=>ho' g (ARow.block h.data hg).2 (h.o2 g hg),fun g hg=>ho' g (ARow.block h.kinds hg).2 (h.o3 g hg),Ov h.ok _⟩,h3⟩,h2,F4 h2 (fun b hb=>(h.hs.lim b hb).1) (by have:=h.lim (.inl rfl);omega)⟩
theorem Mv(h:Wd B w wp gh O σ sd sk):Calls Tryz.prog 19 #[pT gh] w fun e w'=> ∃q:S3,e=.returned (.slice q.d q.n q.c)/\(ZRow w' w.heap.size q (keysT σ.T)/\Below w.heap.size w w'):=by
 obtain⟨bm,pt,own,hX⟩:=h.hs
 exact Fe hX
theorem Bb8(h:Wd B w wp gh O σ sd sk)(hown:OwnAt w){n:Int}(hn:0<=n/\n<=1000000):Calls Tryz.prog 21 #[pT gh,ii n] w fun e w'=> ∃q:S3,e=.returned (.slice q.d q.n q.c)/\(ZRow w' w.heap.size q (E7 σ.T n)/\Below w.heap.size w w'):=by
 obtain⟨bm,pt,own,hX⟩:=h.hs
 have:=Fs hX hown n.toNat Zo h.ok.tok
 rw[show((n.toNat:Nat):Int)=n by omega] at this
 exact this
theorem Wd.kok(h:Wd B w wp gh O σ sd sk):KOk (keysT σ.T):=by
 obtain⟨bm,pt,own,hX⟩:=h.hs
 exact hX.kok
end
def kA:List I4:=[(3,0,3,0),(1,1,0,0),(2,2,0,0),(4,0,0,0),(7,0,3,5)]
def kT:Tm:=[(1,.tab [(.num 5,.ref 2 3),(.num 1,.nil)]),(2,.obj (.ref 3 1) .nil),(3,.arr (.ref 1 2) .nil),(4,.box .nil)]
theorem Cz7:De kA=⟨4,kT,[.ref 3 1,.ref 1 2,.ref 2 3,.num 4],[3,1,2,4]⟩:=by kernel_rfl
theorem By(x:Int):L3 [x]=[x]:=List.mergeSort_singleton _
theorem kL1:E7 kT 1=[3]:=by show L4 (L3 [3])=[3];rw[By];rfl
theorem kL2:E7 kT 2=[1]:=by show L4 (L3 [1])=[1];rw[By];rfl
theorem kL3:E7 kT 3=[2]:=by show L4 (L3 [2])=[2];rw[By];rfl
theorem Ev5:Ab kT [3]=[(3,0),(2,0),(1,1)]:=by
 show goB [1,2,3,4] (E7 kT) 5 0 (V0 [1,2,3,4] [3])=_
 have e0:V0 [1,2,3,4] [3]=[(3,0)]:=by decide
 rw[e0]
 have s1:Ba [1,2,3,4] (E7 kT) 0 [(3,0)]=[(3,0),(2,0)]:=by
  unfold Ba
  rw[show nAt [(3,0)] 0=3 from rfl,kL3]
  decide
 have s2:Ba [1,2,3,4] (E7 kT) 1 [(3,0),(2,0)]=[(3,0),(2,0),(1,1)]:=by
  unfold Ba
  rw[show nAt [(3,0),(2,0)] 1=2 from rfl,kL2]
  decide
 have s3:Ba [1,2,3,4] (E7 kT) 2 [(3,0),(2,0),(1,1)]=[(3,0),(2,0),(1,1)]:=by
  unfold Ba
  rw[show nAt [(3,0),(2,0),(1,1)] 2=1 from rfl,kL1]
  decide
 rw[goB,if_pos Zd,s1,goB,if_pos Zd,s2,goB,if_pos Zd,s3,goB,if_neg Zd]
theorem Xp:F6 kT [3]=[1,2,3]:=by
 show L3 ((Ab kT [3]).map (·.1))=_
 rw[Ev5]
 simp[L3,List.mergeSort]
theorem Ew7:Ad3 kT [3] 1=[3,2,1]:=by
 unfold Ad3
 rw[Ev5]
 kernel_rfl
theorem Er1:O8 kT [3] (keysT kT).length=1:=by
 unfold O8
 rw[Xp]
 kernel_rfl
theorem Cz8:keysT (H4 kT [3])=[1,2,3]:=by
 unfold H4
 rw[Xp]
 kernel_rfl
theorem Ag(u:World)(x y z:Int):ZRow (u.alloc (.cells #[ii x,ii y,ii z] 3)) u.heap.size ⟨some ⟨u.heap.size,0,none⟩,3,3⟩ [x,y,z]:=
 ⟨rfl,rfl,.inr ⟨u.heap.size,3,#[ii x,ii y,ii z],rfl,Nat.le_refl _,Blk.new _ _ _,Nat.le_refl _,Zd,rfl,rfl⟩⟩
theorem Ow{w:World}{B B':Nat}{s t:S3}{l m:List Int}(h:ZRow w B s l)(k:ZRow w B' t m)(hl:l.length<=1000000000):Calls Tryz.prog 16 #[.slice s.d s.n s.c,.slice t.d t.n t.c] w fun e w'=>e=.returned (.bool (decide (l=m)))/\Below w.heap.size w w':=by
 obtain⟨p1,p2,_⟩:=ZRow.path h
 obtain⟨q1,q2,_⟩:=ZRow.path k
 rw[p2,q2]
 exact Kj p1 q1 s.c t.c hl
abbrev Fx:Array Value:=#[ii 3,ii 0,ii 3,ii 0,ii 1,ii 1,ii 0,ii 0,ii 2,ii 2,ii 0,ii 0,ii 4,ii 0,ii 0,ii 0,ii 7,ii 0,ii 3,ii 5]
theorem Er2(w:World):Acts4 (w.alloc (.cells Fx Aq)) (some ⟨w.heap.size,0,none⟩) kA:=fun j x hx=>by
  have hB:=Blk.new w Aq Fx
  refine⟨w.heap.size,0,rfl,hB.lt, ?_⟩
  simp only[hB.cell]
  match j,hx with
  | 0, hx => obtain rfl : (3, 0, 3, 0) = x := by simpa [kA] using hx
             exact⟨rfl,rfl,rfl,rfl,⟨Zd,Zd⟩,⟨Zd,Zd⟩,⟨Zd,Zd⟩,⟨Zd,Zd⟩⟩
  | 1, hx => obtain rfl : (1, 1, 0, 0) = x := by simpa [kA] using hx
             exact⟨rfl,rfl,rfl,rfl,⟨Zd,Zd⟩,⟨Zd,Zd⟩,⟨Zd,Zd⟩,⟨Zd,Zd⟩⟩
  | 2, hx => obtain rfl : (2, 2, 0, 0) = x := by simpa [kA] using hx
             exact⟨rfl,rfl,rfl,rfl,⟨Zd,Zd⟩,⟨Zd,Zd⟩,⟨Zd,Zd⟩,⟨Zd,Zd⟩⟩
  | 3, hx => obtain rfl : (4, 0, 0, 0) = x := by simpa [kA] using hx
             exact⟨rfl,rfl,rfl,rfl,⟨Zd,Zd⟩,⟨Zd,Zd⟩,⟨Zd,Zd⟩,⟨Zd,Zd⟩⟩
  | 4, hx => obtain rfl : (7, 0, 3, 5) = x := by simpa [kA] using hx
             exact⟨rfl,rfl,rfl,rfl,⟨Zd,Zd⟩,⟨Zd,Zd⟩,⟨Zd,Zd⟩,⟨Zd,Zd⟩⟩
  | j+5,hx=>simp[kA] at hx
set_option maxHeartbeats 2000000 in
theorem Kl{w:World}(hown:OwnAt w)(hw0:0<w.heap.size):Calls Tryz.prog 6 #[] w fun e w'=>e=.returned (.bool true)/\Below w.heap.size w w':=by
  refine B6 (vs:=[]) 77 Tryz.func6 Br9 Zk (by simp) fun a0 h0=> ?_
  unfold Bb3
  refine Zs (Eq0 h0 fun a1 h1=> ?_)
  have hb1:Below w.heap.size w (w.alloc (.cells Fx Aq)):=B2 (Below.refl _ _) _
  refine Zs (Eq1 (C0:=fun wp u=>(∃gh O sd sk,Wd (w.alloc (.cells Fx Aq)).heap.size u wp gh O (De kA) sd sk)/\Below w.heap.size w u) h1 ((Kk (hown.old hb1) (by simp) (Er2 w) 5).mono ?_) fun a2 wp u hu h2=> ?_)
  · rintro e w' ⟨wp,r1,r2,r3⟩
    exact⟨wp,r1,r2,A7 hb1 r3⟩
  obtain⟨⟨gh,O,sd,sk,hW⟩,hbu⟩:=hu
  have hBl:w.heap.size<=(w.alloc (.cells Fx Aq)).heap.size:=by simp
  obtain⟨B,hB⟩: ∃B,B=(w.alloc (.cells Fx Aq)).heap.size:=⟨_,rfl⟩
  rw[<-hB] at hW hBl
  rw[Cz7] at hW
  have hsn:sd.n=4:=hW.data.1
  refine wp_seq (Zs (Bs0 (b25:=false) h2 rfl (fun w=>rfl) hW.ld (by rw[hsn];rfl) fun a3 h3=>B9 (h3.look 26 rfl) ?_))
  have hx:[Fd.ref 3 1,Fd.ref 1 2,Fd.ref 2 3,Fd.num 4][2]? =some (Fd.ref 2 3):=rfl
  obtain⟨q,hq,_,_,hld⟩:=(RowN.row hW.data).1.load hx
  have hdl:=hW.ld
  rw[hq] at hdl
  refine Zs (Eq2 (d:=(Fd.ref 2 3).dt) (m:=dm0) h3 rfl hdl (fun w=>Q7 (j:=2) Zo w) hld fun a4 h4=> ?_)
  have hL:=Blk.new u C7 ((Fd.ref 2 3).dt.cs dm0)
  have hbv:Below u.heap.size u (u.alloc (.cells ((Fd.ref 2 3).dt.cs dm0) C7)):=B2 (Below.refl _ _) _
  change Code.wp _ _ _ a4 (u.alloc (.cells ((Fd.ref 2 3).dt.cs dm0) C7))
  obtain⟨gl,hgl⟩: ∃gl,gl=u.heap.size:=⟨_,rfl⟩
  rw[<-hgl] at h4 hL
  generalize u.alloc (.cells ((Fd.ref 2 3).dt.cs dm0) C7)=v at hL hbv ⊢
  have hWv:=hW.old hbv
  have hbw:=A7 hbu hbv
  have hzl:=hL.lt
  have hgO: ¬O gl:=fun e=>by have:=(hW.hs.lim _ e).2;omega
  have hrow: ∀z:World,Blk z gl C7 ((Fd.ref 2 3).dt.cs dm0)->RowX z (fun b=>b=gl) (some ⟨gl,0,none⟩) [Fd.ref 2 3]:=fun z hz=>.inr ⟨gl,_,rfl,rfl,hz,by simp[Dt.cs,Hd.cells],fun j x hj=>by
    match j,hj with
    | 0, hj => obtain rfl : Fd.ref 2 3 = x := by simpa using hj
               simp[Dt.cs,Hd.cells]⟩
  have hxok: ∀x,x∈[Fd.ref 2 3]->x.ok:=fun x hx=>by rw[List.mem_singleton.1 hx];exact⟨Zd,Zd⟩
  have hR3:Df [Fd.ref 2 3]=[3]:=By 3
  refine Zs (Eq3 (ln:=1) (lc:=1) (C0:=fun q z=>ZRow z v.heap.size q [1,2,3]/\Below v.heap.size v z) h4 rfl rfl hWv.lh ((Am2 hWv (hown.old hbw) hxok Zd (hrow v hL) 1).mono ?_) fun a5 q1 v5 hq1 h5=> ?_)
  · rintro e w' ⟨q,r1,r2,r3⟩
    rw[hR3] at r2
    change ZRow w' _ q (F6 kT [3]) at r2
    rw[Xp] at r2
    exact⟨q,r1,r2,r3⟩
  obtain⟨hZ1,hb5⟩:=hq1
  have hW5:=hWv.old hb5
  have hL5:=hL.below hb5 hzl
  have hbw5:=A7 hbw hb5
  refine Zs (Eq4 (ln:=1) (lc:=1) (C0:=fun q z=>ZRow z v5.heap.size q [3,2,1]/\Below v5.heap.size v5 z) h5 rfl rfl hW5.lh ((Ew6 hW5 (hown.old hbw5) hxok Zd (hrow v5 hL5) 1 (z:=1) ⟨Zd,Zd⟩).mono ?_) fun a6 q2 v6 hq2 h6=> ?_)
  · rintro e w' ⟨q,r1,r2,r3⟩
    rw[hR3] at r2
    change ZRow w' _ q (Ad3 kT [3] 1) at r2
    rw[Ew7] at r2
    exact⟨q,r1,r2,r3⟩
  obtain⟨hZ2,hb6⟩:=hq2
  have hW6:=hW5.old hb6
  have hL6:=hL5.below hb6 hL5.lt
  have hbw6:=A7 hbw5 hb6
  have hz5:=hb5.size
  have hz6:=hb6.size
  have hzv:=hbv.size
  refine Zs (Eq5 (ln:=1) (lc:=1) (n:=1) (C0:=fun z=>(∃O',Wd B z wp gh O' ⟨4,H4 kT [3],[.ref 3 1,.ref 1 2,.ref 2 3,.num 4],[3,1,2,4]⟩ sd sk)/\Moved O v6 z/\Below B v6 z) h6 rfl rfl hW6.lh ((Cz6 hW6 (hown.old hbw6) hxok Zd (hrow v6 hL6) 1).mono ?_) fun a7 v7 hq7 h7=> ?_)
  · rintro e w' ⟨r1,⟨O',r2,_⟩,r3,r4⟩
    rw[hR3] at r1 r2
    change e=.returned (ii ((O8 kT [3] (keysT kT).length:Nat):Int)) at r1
    rw[Er1] at r1
    exact⟨r1,⟨O',r2⟩,r3,r4⟩
  obtain⟨⟨O7,hW7⟩,hM7,hB7⟩:=hq7
  have hlimO: ∀b,O b->b<u.heap.size:=fun b hb=>(hW.hs.lim b hb).2
  have hZ1':ZRow v7 v.heap.size q1 [1,2,3]:=ARow.keep (hZ1.old hb6) fun g hg=>hM7.block g (ARow.block (hZ1.old hb6) hg).2 fun e=>by have:=hlimO g e;have:=(ARow.block hZ1 hg).1;omega
  have hZ2':ZRow v7 v5.heap.size q2 [3,2,1]:=ARow.keep hZ2 fun g hg=>hM7.block g (ARow.block hZ2 hg).2 fun e=>by have:=hlimO g e;have:=(ARow.block hZ2 hg).1;omega
  have hbw7:Below w.heap.size w v7:=hbw6.trans (hB7.mono hBl)
  refine Zs (Eq6 (C0:=fun q z=>ZRow z v7.heap.size q [1,2,3]/\Below v7.heap.size v7 z) h7 rfl hW7.lh ((Mv hW7).mono ?_) fun a8 q3 v8 hq3 h8=> ?_)
  · rintro e w' ⟨q,r1,r2,r3⟩
    change ZRow w' _ q (keysT (H4 kT [3])) at r2
    rw[Cz8] at r2
    exact⟨q,r1,r2,r3⟩
  obtain⟨hZ3,hb8⟩:=hq3
  have hn1:q1.n=3:=hZ1.1
  have hn2:q2.n=3:=hZ2.1
  have hn3:q3.n=3:=hZ3.1
  have hal:=fun(z:World) (x y t:Int)=>B2 (Below.refl _ z) (.cells #[ii x,ii y,ii t] 3)
  refine Zs (Eq7 (b:=true) (C0:=fun z=>Below v8.heap.size v8 z) h8 rfl ((Ow ((hZ1'.old hb8).old (hal v8 1 2 3)) (Ag v8 1 2 3) Zd).mono fun e w' hh=>⟨hh.1,A7 (hal v8 1 2 3) hh.2⟩) fun a9 v9 hb9 h9=> ?_)
  refine Zs (Cy7 (b:=true) (C0:=fun z=>Below v9.heap.size v9 z) h9 rfl ((Ow (((hZ2'.old hb8).old hb9).old (hal v9 3 2 1)) (Ag v9 3 2 1) Zd).mono fun e w' hh=>⟨hh.1,A7 (hal v9 3 2 1) hh.2⟩) fun a10 v10 hb10 h10=> ?_)
  refine Zs (Cy8 (b:=true) (C0:=fun z=>Below v10.heap.size v10 z) h10 rfl ((Ow (((hZ3.old hb9).old hb10).old (hal v10 1 2 3)) (Ag v10 1 2 3) Zd).mono fun e w' hh=>⟨hh.1,A7 (hal v10 1 2 3) hh.2⟩) fun a11 v11 hb11 h11=> ?_)
  refine Zs (Rh (n5:=1) (b75:=true) h11 rfl rfl rfl rfl rfl fun a12 h12=>wp_ret ?_)
  exact G7 rfl h12 rfl ⟨rfl,A7 hbw7 (A7 hb8 (A7 hb9 (A7 hb10 hb11)))⟩
theorem U3{T:Tm}(hK:KOk (keysT T)){R:List Int}(hp:R.Pairwise (· <= ·)):keysT (H4 T R)=F6 T R:=by
 have h1:=Fi (P9 T) hp hK.rise
 have e:keysT (H4 T R)=(keysT T).filter fun n=>decide (n∈F6 T R):=by
  unfold keysT H4
  rw[List.filter_map]
  rfl
 rw[e]
 exact h1
theorem Dg{T:Tm}(hK:KOk (keysT T)){R:List Int}(hp:R.Pairwise (· <= ·)){n:Int}(hn:n∈F6 T R):E7 (H4 T R) n=E7 T n:=by
 have hpos:=hK.pos n (Gj (P9 T) hp hn)
 unfold E7 S2
 have e:I6 (H4 T R) n.toNat=I6 T n.toNat:=by
  unfold I6 H4
  rw[List.find?_filter]
  congr 2
  funext t
  by_cases h:t.1=n.toNat
  ·have:(t.1:Int)=n:=by omega
   simp[h,show((n.toNat:Nat):Int)=n by omega,hn]
  ·simp[h]
 rw[e]
theorem Mw{T:Tm}(hK:KOk (keysT T)){R R':List Int}(hp:R.Pairwise (· <= ·))(hp':R'.Pairwise (· <= ·))(h: ∀r,r∈R'->r∈R):F6 (H4 T R) R'=F6 T R':=by
 have h1:=Ma (P9 T) (P9 (H4 T R)) hp hp' h (fun n hn=>Dg hK hp hn)
 unfold F6
 rw[U3 hK hp]
 exact h1
structure IntsIn (w:World) (pa:Option Addr) (l:List Int):Prop where
 row:PathAt w (fun b=>b<w.heap.size) pa l
 num: ∀x,x∈l->F8 x
theorem IntsIn.below{w w':World}{pa:Option Addr}{l:List Int}(h:IntsIn w pa l)(hb:Below w.heap.size w w'):PathAt w' (fun b=>b<w.heap.size) pa l:=h.row.keep (fun b hl _=>hb.block b hl) (fun _ h _=>h)
theorem Xr{T:Tm}(hK:KOk (keysT T)){R:List Int}(hp:R.Pairwise (· <= ·)):(F6 T R).length<=1000:=by
 have:=Nk hK hp
 have:=hK.far
 omega
end Go.Proofs.YtbjegfpfmnleeaaGreatDoor
namespace Go.Proofs.YtbjegfpfmnleeaaGreatDoor
open Go.RowKit Go.ChangeShapes Go.WideShapes Go.ChangeAt
set_option maxRecDepth 100000
abbrev Zy:List (String×DataW Unit):=[("math/bits.deBruijn32tab",Rows.laid_math_bits_deBruijn32tab),("math/bits.deBruijn64tab",Rows.laid_math_bits_deBruijn64tab),("internal/strconv.uint64pow10",Rows.laid_internal_strconv_uint64pow10),("guise/value.own",Rows.laid_guise_value_own)]
theorem Lb{W:World}(h:laidMetH Tryz.prog Zy W):OwnAt W:=by
 rw[MakeChecks.laidMetH_plain _ _ _ Zk] at h
 obtain⟨ps,⟨g1,t1,cs1,f1,p1,q1,hg1,ht1,hv1,hd1,⟨g2,t2,cs2,f2,p2,q2,hg2,ht2,hv2,hd2,⟨g3,t3,cs3,f3,p3,q3,hg3,ht3,hv3,hd3,⟨g0,t0,cs0,f0,p0,q0,hg0,ht0,hv0,hd0,_,_⟩,_⟩,_⟩,_⟩,_,_⟩:=h
 obtain rfl:=Option.some.inj ((show Tryz.prog.globalNamed "guise/value.own"=some 0 by kernel_rfl).symm.trans hg0)
 obtain rfl:=Option.some.inj ((show(Tryz.prog.globals[0]?).map (·.type)=some 186 by kernel_rfl).symm.trans ht0)
 obtain⟨xs,m,rfl,hx,hlen,hn,hel⟩:=DataW.trod_array Tryz.underlying186 hd0
 rw[show Tryz.prog.cellsOf 186=8 by kernel_rfl] at hlen
 rw[Xs] at hel
 have hx1:Rows.laid_guise_value_own=.agg (xs.map (·.1)):=(Prod.mk.inj hx).1
 have key: ∀(j:Nat) (s:ByteArray),j<8->ownL[j]? =some s->W.cell? ⟨0,j,none⟩=some (.string s):=by
  intro j s hj hs
  have hc:=World.var?_cell hg0 hv0 j
  have he:=hel j hj
  rw[Nat.mul_one] at he
  have hcl:cs0[j]? =some (cs0.toList[j]'Zo):=by
   rw[<-Array.getElem?_toList,List.getElem?_eq_getElem Zo]
  have hdt:(cs0.toList.drop j).take 1=[cs0.toList[j]'Zo]:=by
   rw[List.drop_eq_getElem_cons Zo];rfl
  rw[hdt,List.getElem?_eq_getElem Zo] at he
  obtain⟨s',e1,e2,_⟩:=DataW.trod_string Tryz.underlying9 he
  rw[hc,hcl]
  simp only[List.cons.injEq,and_true] at e1
  rw[e1]
  have hdat:(xs.map (·.1))[j]? =some (.lit (.string s'.data.toList)):=by
   rw[List.getElem?_map,List.getElem?_eq_getElem Zo,e2];rfl
  have hl:(xs.map (·.1))[j]? =some (.lit (.string s.data.toList)):=by
   unfold Rows.laid_guise_value_own at hx1
   injection hx1 with hx1
   rw[<-hx1]
   have:j=0\/j=1\/j=2\/j=3\/j=4\/j=5\/j=6\/j=7:=by omega
   rcases this with rfl | rfl | rfl | rfl | rfl | rfl | rfl | rfl<;>
    (simp only[ownL,List.getElem?_cons_zero,List.getElem?_cons_succ,Option.some.injEq] at hs;subst hs;rfl)
  rw[hdat] at hl
  injection hl with hl
  injection hl with hl
  injection hl with hl
  have hss:s'.data=s.data:=by
   obtain⟨⟨a⟩⟩:=s'
   obtain⟨⟨b⟩⟩:=s
   simpa using hl
  have:s'=s:=by
   obtain⟨a⟩:=s'
   obtain⟨b⟩:=s
   simpa using hss
  rw[this]
 intro j s hs
 have hj:j<8:=(List.getElem?_eq_some_iff.1 hs).1
 exact key j s hj hs
theorem By5{W:World}(h:OwnAt W):0<W.heap.size:=H0 (h 0 _ rfl)
theorem Aa0(os:Os)(args:Array Value):laidMetH Tryz.prog Zy ((World.doorLaid Tryz.prog 400 os).forCall (fun _ _=>0) ⟨#[],args,[]⟩).memory:=
 laidMetH_of_parts3 (fuel:=8) (laidMet_of_run' 8 Zk Zk) Zk Zk
section
variable {H:Type} {enc:TypeId×Value->H} {w:World}
theorem Nd:Tryz.prog.cellsOf 59=4:=by kernel_rfl
theorem By6{fuel:Nat}{cs:List Value}{x:DataW H×List MemPlace}(h:DataW.trod enc Tryz.prog w 0 (fun _=>true) true fuel 59 cs=some x): ∃a b c d:Int,cs=[ii a,ii b,ii c,ii d]/\F8 a/\F8 b/\F8 c/\F8 d:=by
 obtain⟨xs,n,rfl,rfl,hl,hlen,hg⟩:=DataW.trod_struct Tryz.underlying59 h
 rw[Nd] at hl
 match cs,hl with
 | [c0,c1,c2,c3],_=>
 match xs,hlen with
 | [x0,x1,x2,x3],_=>
 have g0:DataW.trod enc Tryz.prog w 0 (fun _=>true) true n 3 (List.take (Tryz.prog.cellsOf 3) [c0,c1,c2,c3])=some x0:=hg 0 _ rfl
 have g1:DataW.trod enc Tryz.prog w 0 (fun _=>true) true n 3 (List.take (Tryz.prog.cellsOf 3) [c1,c2,c3])=some x1:=hg 1 _ rfl
 have g2:DataW.trod enc Tryz.prog w 0 (fun _=>true) true n 3 (List.take (Tryz.prog.cellsOf 3) [c2,c3])=some x2:=hg 2 _ rfl
 have g3:DataW.trod enc Tryz.prog w 0 (fun _=>true) true n 3 (List.take (Tryz.prog.cellsOf 3) [c3])=some x3:=hg 3 _ rfl
 rw[As] at g0 g1 g2 g3
 simp only[List.take] at g0 g1 g2 g3
 obtain⟨a,e0,_,w0⟩:=DataW.trod_int Tryz.underlying3 g0
 obtain⟨b,e1,_,w1⟩:=DataW.trod_int Tryz.underlying3 g1
 obtain⟨c,e2,_,w2⟩:=DataW.trod_int Tryz.underlying3 g2
 obtain⟨d,e3,_,w3⟩:=DataW.trod_int Tryz.underlying3 g3
 simp only[List.cons.injEq,and_true] at e0 e1 e2 e3
 exact⟨a,b,c,d,by rw[e0,e1,e2,e3],J9 w0,J9 w1,J9 w2,J9 w3⟩
theorem Po{n:Nat}: ∀(els:List (DataW H×List MemPlace)) (b o:Nat),(∀i,i<els.length->(w.cells? 0 ⟨b,o+i*4,none⟩ 4).bind (DataW.trod enc Tryz.prog w 0 (fun _=>true) true n 59)=els[i]?)->
  ∃xs:List I4,xs.length=els.length/\∀(j:Nat) (x:I4),xs[j]? =some x->w.cell? ⟨b,o+j*4,none⟩=some (ii x.1)/\w.cell? ⟨b,o+j*4+1,none⟩=some (ii x.2.1)/\w.cell? ⟨b,o+j*4+2,none⟩=some (ii x.2.2.1)/\w.cell? ⟨b,o+j*4+3,none⟩=some (ii x.2.2.2)/\F8 x.1/\F8 x.2.1/\F8 x.2.2.1/\F8 x.2.2.2
 | [],_,_,_=>⟨[],rfl,fun j x h=>by simp at h⟩
 | y::els,b,o,hg=>by
  obtain⟨r,r1,r2⟩:=Po els b (o+4) (fun i hi=>by
   have:=hg (i+1) (by simpa using hi)
   rw[show o+4+i*4=o+(i+1)*4 by omega]
   simpa using this)
  have h0:=hg 0 (by simp)
  simp only[Nat.zero_mul,Nat.add_zero,List.getElem?_cons_zero] at h0
  obtain⟨cs,hc,ht⟩:=Option.bind_eq_some_iff.1 h0
  obtain⟨p,q,s,v,rfl,o1,o2,o3,o4⟩:=By6 ht
  have hcell:=Oy hc
  refine⟨(p,q,s,v)::r,by simp[r1],fun j x hx=> ?_⟩
  cases j with
  | zero=>
   simp only[List.getElem?_cons_zero,Option.some.injEq] at hx
   subst hx
   have z0:=hcell 0 _ rfl
   have z1:=hcell 1 _ rfl
   have z2:=hcell 2 _ rfl
   have z3:=hcell 3 _ rfl
   simp only[Nat.zero_mul,Nat.add_zero] at z0 ⊢
   exact⟨z0,z1,z2,z3,o1,o2,o3,o4⟩
  | succ j=>
   have:=r2 j x (by simpa using hx)
   rw[show o+4+j*4=o+(j+1)*4 by omega] at this
   exact this
end
theorem Aa1{H:Type}{enc:TypeId×Value->H}{W:World}{base:Nat}{v:Value}{d:DataW H}{p:List MemPlace}(hv:Value.okWide Tryz.prog W .any base 22 v)
  (h:DataW.Trod enc Tryz.prog W 0 (fun _=>true) true 22 v d p):
  ∃(l:List I4) (pa:Option Addr) (pc:Nat),v=.slice pa l.length pc/\Acts4 W pa l:=by
 obtain⟨a,len,cap,rfl⟩:=okWide_slice Tryz.underlying22 hv
 obtain⟨fuel,hf⟩:=h
 rcases DataW.trod_slice Tryz.underlying22 hf with⟨e6,_⟩ | ⟨a',il,ic,elems,rest,n',en,e6,_,_,hle,hm,hel,hget,_,_⟩
 ·simp[Value.cells] at e6
  obtain⟨rfl,rfl,rfl⟩:=e6
  exact⟨[],none,0,rfl,fun j x h=>by simp at h⟩
 ·simp[Value.cells] at e6
  obtain⟨rfl,rfl,rfl⟩:=e6
  rcases Nat.eq_zero_or_pos len with h0 | h0
  ·exact⟨[],some a',cap,by rw[h0];rfl,fun j x h=>by simp at h⟩
  ·have hg0:=hget 0 h0
   rw[List.getElem?_eq_getElem Zo,Nd] at hg0
   obtain⟨cs0,hc0,_⟩:=Option.bind_eq_some_iff.1 hg0
   obtain⟨b,o,ea⟩:=Ah hc0 Zd
   have ea':a'=⟨b,o,none⟩:=by
    simp only[Nat.zero_mul] at ea
    simpa[Addr.add] using ea
   subst ea'
   obtain⟨xs,r1,r2⟩:=Po (n:=n') elems b o (fun i hi=>by
    have:=hget i Zo
    rw[Nd,Oz] at this
    exact this)
   have hxl:xs.length=len:=by omega
   refine⟨xs,some ⟨b,o,none⟩,cap,by rw[hxl],fun j x hx=> ?_⟩
   obtain⟨z0,z1,z2,z3,z4⟩:=r2 j x hx
   exact⟨b,o,rfl,H0 z0,z0,z1,z2,z3,z4⟩
theorem By7{W:World}{pa:Option Addr}{l:List Int}(h:PathAt W (fun _=>True) pa l)(hn: ∀(j:Nat) (x:Int),l[j]? =some x->F8 x):IntsIn W pa l:=
 ⟨h.keep (fun _ _ _=>rfl) (fun _ _ h=>h),fun x hx=>by
  obtain⟨j,hj⟩:=List.mem_iff_getElem?.1 hx
  exact hn j x hj⟩
theorem Ap3{H:Type}{enc:TypeId×Value->H}{W:World}{base:Nat}{v:Value}{d:DataW H}{p:List MemPlace}(hv:Value.okWide Tryz.prog W .any base 23 v)
  (h:DataW.Trod enc Tryz.prog W 0 (fun _=>true) true 23 v d p) (hw:Di 23 d):
  ∃(l:Fo) (ia:Option Addr) (ic:Nat),v=.slice ia l.len ic/\l.ok/\l.len<=1034834473170/\SlAt W (fun b=>b<W.heap.size) ia l:=by
 obtain⟨a,len,cap,rfl⟩:=okWide_slice Tryz.underlying23 hv
 obtain⟨fuel,hf⟩:=h
 rcases DataW.trod_slice Tryz.underlying23 hf with⟨e6,_⟩ | ⟨a',il,ic,elems,rest,n',en,e6,ed,_,hle,hm,hel,hget,hsp,_⟩
 ·simp[Value.cells] at e6
  obtain⟨rfl,rfl,rfl⟩:=e6
  exact⟨.nil,none,0,rfl,trivial,Nat.zero_le _,.inl rfl⟩
 ·simp[Value.cells] at e6
  obtain⟨rfl,rfl,rfl⟩:=e6
  have hr:=(hsp rfl).1
  have ed1:=congrArg Prod.fst ed
  simp only at ed1
  have hcap:=hw (cap*136) (by
   rw[ed1]
   simp only[DataW.weights,Tryz.underlying23,Bc0,List.length_map]
   refine List.mem_cons.2 (.inl ?_)
   congr 1
   omega)
  unfold reachBytes at hcap
  have hwl: ∀y∈elems,Di 53 y.1:=fun y hy m hm=>hw m (by
   rw[ed1]
   simp only[DataW.weights,Tryz.underlying23]
   refine List.mem_cons.2 (.inr (List.mem_append.2 (.inl ((W0 _).2 ⟨y.1,List.mem_map.2 ⟨y,hy,rfl⟩,hm⟩)))))
  rcases Nat.eq_zero_or_pos len with h0 | h0
  ·exact⟨.nil,some a',cap,by rw[h0];rfl,trivial,Nat.zero_le _,.inl rfl⟩
  ·have hg0:=hget 0 h0
   rw[List.getElem?_eq_getElem Zo,Ko] at hg0
   obtain⟨cs0,hc0,_⟩:=Option.bind_eq_some_iff.1 hg0
   obtain⟨b,o,ea⟩:=Ah hc0 Zd
   have ea':a'=⟨b,o,none⟩:=by
    simp only[Nat.zero_mul] at ea
    simpa[Addr.add] using ea
   subst ea'
   obtain⟨f,r1,r2,r3⟩:=Bs7 (n:=n') (fun cs' x' h' hw'=>Da5 n' cs' x' h' hw') elems b o (fun i hi=>by
    have:=hget i Zo
    rw[Ko,Oz] at this
    exact this) hwl
   have hfl:f.len=len:=by omega
   refine⟨f,some ⟨b,o,none⟩,cap,by rw[hfl],r2,Zo, ?_⟩
   exact SlAt.keep (S:=fun _=>True) (.inr ⟨b,o,rfl,trivial,r3⟩) (fun _ _ _=>rfl) (fun _ _ h=>h)
end Go.Proofs.YtbjegfpfmnleeaaGreatDoor
