/-
   Written by an AI agent.
-/
import Derived.Test.YtbjegfpfmnleeaaGreatDoorPk38
namespace Go.Proofs.YtbjegfpfmnleeaaGreatDoor
open Go.RowKit Go.Maps
set_option maxRecDepth 100000
theorem Lc{l:List Int}{k:Nat}{u n:Int}(hx:l[k]? =some u):decide (n∈l.take (k+1))=(decide (n∈l.take k)||decide (u=n)):=by
 rw[List.take_add_one,hx,Bool.eq_iff_iff]
 simp only[Option.toList_some,List.mem_append,List.mem_singleton,Bool.or_eq_true,decide_eq_true_eq]
 exact or_congr_right eq_comm
section
variable {W:World} {B Z0 Z1 Z wp gh gp:Nat} {O:Nat->Prop} {σ:St} {sd sk:S3} {l:Fo} {dd:Option Addr} {dc:Nat} {vs:S3} {bx:List Int}
def Ce0(wp gp:Nat)(dd:Option Addr)(ln dc:Nat)(vd:Option Addr)(bn vc:Nat)(x:S3):List (Nat×Value):=
 [(11,pT wp),(12,pT gp),(14,.slice dd ln dc),(16,.slice vd bn vc),(21,.slice x.d x.n x.c)]
set_option maxHeartbeats 4000000 in
theorem Er6{N:List Int}{To:List (List Int)}{X:List Int}{x t:S3}{i:Nat}{n:Int}{Z':Nat}{v:World}{ln bn vc:Nat}{vd:Option Addr}(hG:GrAt v gp (fun b=>b<v.heap.size) N To)(hn:N[i]? =some n)(hX:ZRow v Z' x X)(hXl:X.length<=1000000)
  {K:Exit->Act->World->Prop} (hK: ∀a v',Sl 292 a ([(36,.bool (decide (n∈X))),(35,.slice t.d t.n t.c),(34,ii (i:Int))]++Ce0 wp gp dd ln dc vd bn vc x)->Below v.heap.size v v'->K .normal a v')
  {a:Act} (h:Sl 292 a ([(37,ii 0),(36,.bool false),(35,.slice t.d t.n t.c),(34,ii (i:Int))]++Ce0 wp gp dd ln dc vd bn vc x)):
  (Code.block 2 (.loop Bz1)).wp Tryz.prog K a v:=by
 unfold Ce0 at*
 have hxn:x.n=X.length:=hX.1
 have hiN:=(List.getElem?_eq_some_iff.1 hn).1
 refine wp_block ?_
 refine wp_loop (fun a' wr=> ∃k:Nat,k<=X.length/\Sl 292 a' [(37,ii (k:Int)),(36,.bool (decide (n∈X.take k))),(35,.slice t.d t.n t.c),(34,ii (i:Int)),(11,pT wp),(12,pT gp),(14,.slice dd ln dc),(16,.slice vd bn vc),(21,.slice x.d x.n x.c)]/\Below v.heap.size v wr) (fun a' _=>G1 X.length (F9 a' 37))
  ⟨0,Nat.zero_le _,by simpa using h,Below.refl _ _⟩ ?_
 rintro a4 w4 ⟨k,hk,h4,hb4⟩
 rw[h4.look 37 rfl,B4]
 unfold Bz1
 by_cases hlt:k<X.length
 ·refine wp_seq (Zs (Aa9 (b243:=true) h4 rfl rfl (decide_eq_true Zo) fun a5 h5=>wpn (h5.look 243 rfl) ?_))
  obtain⟨u,hu⟩: ∃u,X[k]? =some u:=⟨X[k],List.getElem?_eq_getElem hlt⟩
  have hd:=Lc (n:=n) hu
  have next: ∀(a:Act) (z:World),Sl 292 a [(36,.bool (decide (n∈X.take (k+1)))),(37,ii (k:Int)),(35,.slice t.d t.n t.c),(34,ii (i:Int)),(11,pT wp),(12,pT gp),(14,.slice dd ln dc),(16,.slice vd bn vc),(21,.slice x.d x.n x.c)]->Below v.heap.size v z->∀Qn:Exit->Act->World->Prop,(∀a'',((∃k:Nat,k<=X.length/\Sl 292 a'' [(37,ii (k:Int)),(36,.bool (decide (n∈X.take k))),(35,.slice t.d t.n t.c),(34,ii (i:Int)),(11,pT wp),(12,pT gp),(14,.slice dd ln dc),(16,.slice vd bn vc),(21,.slice x.d x.n x.c)]/\Below v.heap.size v z)/\G1 X.length (F9 a'' 37)<X.length-k)->Qn .normal a'' z)->Code.wp Tryz.prog (D3 39) Qn a z:=fun a z h hz Qn hQ=>by
   refine Zl (Cb8 h rfl Zo fun a'' h''=>hQ a'' ⟨⟨k+1,hlt,h''.to ⟨rfl,rfl,rfl,rfl,rfl,rfl,rfl,rfl,rfl,trivial⟩,hz⟩, ?_⟩)
   rw[h''.look 37 rfl]
   show G1 X.length (ii ((k+1:Nat):Int))<_
   rw[B4]
   omega
  refine wp_seq (wp_block ?_)
  by_cases hin:n∈X.take k
  ·rw[decide_eq_true hin] at h5 hd
   refine Zl (Ab0 h5 rfl fun a6 mm h6=>B1 ?_)
   refine next a6 _ ?_ (B3 hb4 _) _ fun a'' h=>h
   rw[hd]
   exact h6.to ⟨rfl,rfl,rfl,rfl,rfl,rfl,rfl,rfl,rfl,trivial⟩
  ·rw[decide_eq_false hin] at h5 hd
   obtain⟨g,hxd,_,hxc⟩:=ZRow.get (ARow.old hX hb4) hu
   obtain⟨nd,nc,l1,hN⟩:=(hG.old hb4).things
   obtain⟨g2,o2,hnd,hc2⟩:=G9 hN hn
   by_cases hun:u=n
   ·refine Zl (Rz (u:=u) (n:=n) (xd:=x.d) (nd:=nd) h5 rfl rfl rfl rfl rfl (by rw[hxd];exact fun w=>D7 Zo w) (H9 Tryz.underlying3 rfl hxc) l1 (by rw[hnd];exact fun w=>J2 i Tryz.underlying24 (show(Tryz.prog.info? 3).map (·.size)=some 1 by kernel_rfl) hiN w) (H9 Tryz.underlying3 rfl hc2) (decide_eq_true hun) fun a6 mm h6=>B1 ?_)
    refine next a6 _ ?_ (B3 hb4 _) _ fun a'' h=>h
    rw[hd,decide_eq_true hun]
    exact h6.to ⟨rfl,rfl,rfl,rfl,rfl,rfl,rfl,rfl,rfl,trivial⟩
   ·refine Zl (Sa (u:=u) (n:=n) (xd:=x.d) (nd:=nd) h5 rfl rfl rfl rfl rfl (by rw[hxd];exact fun w=>D7 Zo w) (H9 Tryz.underlying3 rfl hxc) l1 (by rw[hnd];exact fun w=>J2 i Tryz.underlying24 (show(Tryz.prog.info? 3).map (·.size)=some 1 by kernel_rfl) hiN w) (H9 Tryz.underlying3 rfl hc2) (decide_eq_false hun) fun a6 mm h6=>B1 ?_)
    refine next a6 _ ?_ (B3 hb4 _) _ fun a'' h=>h
    rw[hd,decide_eq_false hun]
    exact h6.to ⟨rfl,rfl,rfl,rfl,rfl,rfl,rfl,rfl,rfl,trivial⟩
 ·refine wp_seq (Zs (Aa9 (b243:=false) h4 rfl rfl (decide_eq_false Zo) fun a5 h5=>C9 (h5.look 243 rfl) ?_))
  refine A8 (A8 (B8 (hK _ _ ?_ hb4)))
  obtain rfl:k=X.length:=by omega
  rw[List.take_length] at h5
  exact h5.to ⟨rfl,rfl,rfl,rfl,rfl,rfl,rfl,rfl,trivial⟩
set_option maxHeartbeats 8000000 in
theorem Bz0{u:World}{T:Tm}{R:List Int}{x:S3}{Z':Nat}{ia qa:Option Addr}(E:Env W B Z0 Z1 Z wp gh gp O σ sd sk (keysT T) ((keysT T).map (E7 T)) l dd dc vs bx u)(hown:OwnAt W)(hr:Roots W l ia bx qa)(hRe:R=H7 bx l)(hσ:σ.T=H4 T R)(hK:KOk (keysT T))(hX:ZRow u Z' x (F6 T R))
  {a:Act} (h:Sl 292 a (Ce0 wp gp dd l.len dc vs.d bx.length vs.c x)):
  (Code.seq (.seq (D3 32) (.block 0 (.loop Bz2))) (.seq (D3 44) .ret)).wp Tryz.prog (bodyPost Tryz.prog Tryz.f3 fun e w'=>e=.returned (.bool true)/\Below W.heap.size W w') a u:=by
 unfold Ce0 at*
 have hRp:R.Pairwise (· <= ·):=by rw[hRe];exact Bn _ _
 have hK':KOk (keysT (H4 T R)):=by rw[<-hσ];exact E.wd.kok
 have hXl:(F6 T R).length<=1000:=by
  have:=Nk hK hRp
  have:=hK.far
  omega
 obtain⟨N,hN⟩: ∃N,N=keysT T:=⟨_,rfl⟩
 rw[<-hN] at E hK
 refine wp_seq (Zs (Cb3 h fun a1 h1=> ?_))
 refine wp_block ?_
 refine wp_loop (fun a' wr=> ∃i:Nat,i<=N.length/\Sl 292 a' [(34,ii (i:Int)),(11,pT wp),(12,pT gp),(14,.slice dd l.len dc),(16,.slice vs.d bx.length vs.c),(21,.slice x.d x.n x.c)]/\Below u.heap.size u wr) (fun a' _=>G1 N.length (F9 a' 34))
  ⟨0,Nat.zero_le _,h1.to ⟨rfl,rfl,rfl,rfl,rfl,rfl,trivial⟩,Below.refl _ _⟩ ?_
 rintro a4 w4 ⟨i,hi,h4,hb4⟩
 rw[h4.look 34 rfl,B4]
 unfold Bz2
 have E4:=E.old hb4
 have hG4:GrAt w4 gp (fun b=>b<w4.heap.size) N (N.map (E7 T)):=E4.gr.keep (fun _ _ _=>rfl) (fun _ _ hl=>hl)
 obtain⟨nd,nc,l4,hP4⟩:=hG4.things
 have hNf:=hK.far
 by_cases hlt:i<N.length
 ·refine wp_seq (Zs (Aa8 (nn:=N.length) (b225:=true) h4 rfl rfl l4 (decide_eq_true Zo) fun a5 h5=>wpn (h5.look 225 rfl) ?_))
  obtain⟨n,hn⟩: ∃n,N[i]? =some n:=⟨N[i],List.getElem?_eq_getElem hlt⟩
  have hnp:=hK.pos n (List.mem_of_getElem? hn)
  obtain⟨g,o,hnd,hc⟩:=G9 hP4 hn
  obtain⟨C,hC⟩: ∃C:World->Prop,C=fun v=>Below w4.heap.size w4 v:=⟨_,rfl⟩
  have hCd:C (w4.drewN 1):=by rw[hC];exact B3 (Below.refl _ _) 1
  have hCi: ∀v,C v->Below w4.heap.size w4 v:=fun v hv=>by rw[hC] at hv;exact hv
  have Ed:=E4.old (hCi _ hCd)
  have ql:=Bb8 Ed.wd (hown.old Ed.low) (n:=n) Zo
  refine wp_seq (wp_block ?_)
  refine Zs (Cb5 (C:=C) (n:=n) (gh:=gh) (nd:=nd) (nn:=N.length) (nc:=nc) (C0:=fun s v=>ZRow v w4.heap.size s (E7 σ.T n)/\C v) h5 rfl rfl rfl hCd (fun v hv=>(E4.old (hCi v hv)).wd.lh) (fun v hv=> ?_) (by rw[hnd];exact fun w=>J2 i Tryz.underlying24 (show(Tryz.prog.info? 3).map (·.size)=some 1 by kernel_rfl) hlt w) (fun v hv=>H9 Tryz.underlying3 rfl ((World.cell?_of_block (w:=w4) ((hCi v hv).block g (H0 hc))).trans hc)) (ql.mono fun e w' ⟨s,p1,p2,p3⟩=>⟨s,p1,p2,by rw[hC];exact A7 (hCi _ hCd) p3⟩) fun a6 t v ht h6=> ?_)
  ·obtain⟨nd0,nc0,td0,tc0,q1,_,_⟩:=hG4.blk
   have e1:=A9 q1 Tryz.underlying24 (o:=0) rfl rfl
   have e2:=l4 0
   have e3:=e1 0
   rw[e2] at e3
   obtain⟨e4,_⟩:=Zw e3
   rw[e4]
   exact A9 (q1.below (hCi v hv) q1.lt) Tryz.underlying24 rfl rfl
  obtain⟨hZt,hCv⟩:=ht
  have hbv:=hCi v hCv
  have Ev:=E4.old hbv
  have hGv:GrAt v gp (fun b=>b<v.heap.size) N (N.map (E7 T)):=Ev.gr.keep (fun _ _ _=>rfl) (fun _ _ hl=>hl)
  refine Zs (Cb6 h6 fun a7 h7=> ?_)
  refine wp_seq (Zs (Cb7 h7 fun a8 h8=> ?_))
  refine Er6 (wp:=wp) (dd:=dd) (ln:=l.len) (dc:=dc) (vd:=vs.d) (bn:=bx.length) (vc:=vs.c) (t:=t) hGv hn (ARow.old (ARow.old hX hb4) hbv) Zo (fun a9 v9 h9 hb9=> ?_) (h8.to ⟨rfl,rfl,rfl,rfl,rfl,rfl,rfl,rfl,rfl,trivial⟩)
  unfold Ce0 at h9
  have hG9:=hGv.old hb9
  obtain⟨hd,hc0,g2,o2,rd,rc,m1,rfl,m2,hR9⟩:=hG9.row (i:=i) (r:=E7 T n) (by rw[List.getElem?_map,hn];rfl)
  have hZt9:=hZt.old hb9
  obtain⟨tp1,tp2,_⟩:=ZRow.path hZt9
  have hll:(E7 σ.T n).length<=10000:=Bm E.wd.ok.tok
  have hal:=Kj tp1 hR9 t.c rc Zo
  rw[<-tp2] at hal
  have hTl:i<(N.map (E7 T)).length:=by rw[List.length_map];exact hlt
  refine Zs (Cb9 (b:=decide (E7 σ.T n=E7 T n)) (C0:=fun z=>Below v9.heap.size v9 z) h9 rfl rfl rfl m1 (fun w=>P1 hTl w) m2 hal fun a10 v10 hb10 h10=> ?_)
  have hb410:Below u.heap.size u v10:=A7 hb4 (A7 hbv (A7 hb9 hb10))
  have next: ∀(a:Act),Sl 292 a [(34,ii (i:Int)),(11,pT wp),(12,pT gp),(14,.slice dd l.len dc),(16,.slice vs.d bx.length vs.c),(21,.slice x.d x.n x.c)]->∀Qn:Exit->Act->World->Prop,(∀a'',((∃i:Nat,i<=N.length/\Sl 292 a'' [(34,ii (i:Int)),(11,pT wp),(12,pT gp),(14,.slice dd l.len dc),(16,.slice vs.d bx.length vs.c),(21,.slice x.d x.n x.c)]/\Below u.heap.size u v10)/\G1 N.length (F9 a'' 34)<N.length-i)->Qn .normal a'' v10)->Code.wp Tryz.prog (D3 34) Qn a v10:=fun a h Qn hQ=>by
   refine Zl (Cb4 h rfl Zo fun a'' h''=>hQ a'' ⟨⟨i+1,hlt,h''.to ⟨rfl,rfl,rfl,rfl,rfl,rfl,trivial⟩,hb410⟩, ?_⟩)
   rw[h''.look 34 rfl]
   show G1 N.length (ii ((i+1:Nat):Int))<_
   rw[B4]
   omega
  by_cases hin:n∈F6 T R
  ·have hsame:E7 σ.T n=E7 T n:=by rw[hσ];exact Dg (by rw[<-hN];exact hK) hRp hin
   rw[decide_eq_true hin,decide_eq_true hsame] at h10
   refine Zs (Sb h10 rfl rfl fun a11 h11=>B9 (h11.look 283 rfl) (B1 ?_))
   exact next a11 (h11.to ⟨rfl,rfl,rfl,rfl,rfl,rfl,trivial⟩) _ fun a'' h=>h
  ·have hnone:E7 σ.T n=[]:=by rw[hσ];exact Ru Zo hin
   have htn:t.n=0:=by rw[hZt.1,hnone];rfl
   rw[decide_eq_false hin] at h10
   refine Zs (Ab1 (b281:=false) h10 rfl rfl (by rw[htn];decide) fun a11 h11=>B9 (h11.look 283 rfl) (B1 ?_))
   exact next a11 (h11.to ⟨rfl,rfl,rfl,rfl,rfl,rfl,trivial⟩) _ fun a'' h=>h
 ·refine wp_seq (Zs (Aa8 (nn:=N.length) (b225:=false) h4 rfl rfl l4 (decide_eq_false Zo) fun a5 h5=>C9 (h5.look 225 rfl) ?_))
  refine A8 (A8 (B8 ?_))
  have hs:=Be7 E4.wd (hown.old E4.low) (E4.inLent hr) dc vs.c
  rw[<-hRe,hσ,Rv (by rw[<-hN];exact hK) hK' hRp] at hs
  refine Zs (Cc0 (n:=0) (b291:=true) (gh:=gh) (C0:=fun v=>Moved O w4 v) h5 rfl rfl rfl E4.wd.lh (hs.mono fun e w' hh=>⟨hh.1,hh.2.2⟩) Zd fun a6 v hM h6=>wp_ret ?_)
  refine G7 rfl h6 rfl ⟨rfl,hM.below E4.low (fun b hb e=> ?_) E4.low.size⟩
  have:=E4.ob b e
  have:=E4.z5
  omega
end
end Go.Proofs.YtbjegfpfmnleeaaGreatDoor
namespace Go.Proofs.YtbjegfpfmnleeaaGreatDoor
set_option maxRecDepth 100000
section
variable {K R:List Int} {L:Int->List Int} {D:DD} {i:Nat}
theorem Km{e:Nat}(h:Bf K R L i e D): ∀(f j:Nat),j<f->j<D.length->
  (∀(k l:Nat) (x:Int),k<l->(L2 D j)[k]? =some x->(L2 D j)[l]? ≠some x)/\(∀(k:Nat) (x:Int),(L2 D j)[k]? =some x->∃a,a<=j/\nAt D a=x/\(qAt D a=a↔k=0))/\(∀(k:Nat) (x y:Int),(L2 D j)[k]? =some y->(L2 D j)[k+1]? =some x->x∈L y)
 | 0,j,hf,_=>by omega
 | f+1,j,hf,hj=>by
  rw[W7 h hj]
  by_cases hq:qAt D j=j
  ·rw[if_pos hq]
   refine⟨fun k l x hkl hk=> ?_,fun k x hk=> ?_,fun k x y hk hk1=> ?_⟩
   ·have:l≠0:=by omega
    rw[List.getElem?_eq_none (by simp;omega)]
    exact fun e=>by cases e
   ·have hk0:k=0:=by
     have:=(List.getElem?_eq_some_iff.1 hk).1
     simp at this
     exact this
    subst hk0
    have:nAt D j=x:=by simpa using hk
    exact⟨j,Nat.le_refl _,this,fun _=>rfl,fun _=>hq⟩
   ·rw[List.getElem?_eq_none (by simp)] at hk1
    cases hk1
  ·rw[if_neg hq]
   obtain⟨p1,p2,p3⟩:=h.par j hj hq
   obtain⟨a1,a2,a3⟩:=Km h f (qAt D j) Zo Zo
   have hp:=N5 h (qAt D j+1) (qAt D j) Zo Zo
   have hpos:=Lz hp
   have hlast:=Bo hp
   have hne: ∀k x,(L2 D (qAt D j))[k]? =some x->x≠nAt D j:=fun k x hk e=>by
    obtain⟨a,b1,b2,_⟩:=a2 k x hk
    have:=h.nd a j Zo hj (by rw[b2,e])
    omega
   refine⟨fun k l x hkl hk hl=> ?_,fun k x hk=> ?_,fun k x y hk hk1=> ?_⟩
   ·rcases Nat.lt_or_ge l (L2 D (qAt D j)).length with h1 | h1
    ·rw[List.getElem?_append_left h1] at hl
     rw[List.getElem?_append_left Zo] at hk
     exact a1 k l x hkl hk hl
    ·have hll:l=(L2 D (qAt D j)).length:=by
      have:=(List.getElem?_eq_some_iff.1 hl).1
      simp at this
      omega
     subst hll
     have hx:nAt D j=x:=by simpa using hl
     rw[List.getElem?_append_left hkl] at hk
     exact hne k x hk hx.symm
   ·rcases Nat.lt_or_ge k (L2 D (qAt D j)).length with h1 | h1
    ·rw[List.getElem?_append_left h1] at hk
     obtain⟨a,b1,b2,b3⟩:=a2 k x hk
     exact⟨a,Zo,b2,b3⟩
    ·have hkk:k=(L2 D (qAt D j)).length:=by
      have:=(List.getElem?_eq_some_iff.1 hk).1
      simp at this
      omega
     subst hkk
     have hx:nAt D j=x:=by simpa using hk
     exact⟨j,Nat.le_refl _,hx,fun e=>absurd e hq,fun e=>by omega⟩
   ·rcases Nat.lt_or_ge (k+1) (L2 D (qAt D j)).length with h1 | h1
    ·rw[List.getElem?_append_left h1] at hk1
     rw[List.getElem?_append_left Zo] at hk
     exact a3 k x y hk hk1
    ·have hkk:k+1=(L2 D (qAt D j)).length:=by
      have:=(List.getElem?_eq_some_iff.1 hk1).1
      simp at this
      omega
     rw[hkk] at hk1
     have hx:nAt D j=x:=by simpa using hk1
     rw[List.getElem?_append_left Zo] at hk
     rw[List.getLast?_eq_getElem?,show(L2 D (qAt D j)).length-1=k by omega,hk] at hlast
     injection hlast with hlast
     rw[hlast,<-hx]
     exact p3
end
structure WayP (K R:List Int) (L:Int->List Int) (z:Int) (p:List Int):Prop where
 once: ∀(k l:Nat) (x:Int),k<l->p[k]? =some x->p[l]? ≠some x
 inK: ∀x,x∈p->x∈K
 root: ∀(k:Nat) (x:Int),p[k]? =some x->(x∈R↔k=0)
 led: ∀(k:Nat) (x y:Int),p[k]? =some y->p[k+1]? =some x->x∈L y
 last:p≠[]->p.getLast? =some z
 is:p≠[]↔z∈N1 K L R
theorem Er3{T:Tm}{R:List Int}(hp:R.Pairwise (· <= ·))(z:Int):WayP (keysT T) R (E7 T) z (Ad3 T R z):=by
 have hB:=Sy T hp
 have hnd:((Ab T R).map (·.1)).Nodup:=hB.nodup
 unfold Ad3
 have hR:z∈N1 (keysT T) (E7 T) R↔z∈(Ab T R).map (·.1):=sortZ_mem
 by_cases hz:z∈(Ab T R).map (·.1)
 ·obtain⟨j,hj,rfl⟩:=mem_nAt.1 hz
  rw[Sx hnd hj]
  obtain⟨a1,a2,a3⟩:=Km hB (j+1) j Zo hj
  have hpt:=N5 hB (j+1) j Zo hj
  have hne:L2 (Ab T R) j≠[]:=fun e=>by have:=Lz hpt;rw[e] at this;simp at this
  refine⟨a1,fun x hx=> ?_,fun k x hk=> ?_,a3,fun _=>Bo hpt,fun _=>hR.2 hz,fun _=>hne⟩
  ·obtain⟨k,hk⟩:=List.mem_iff_getElem?.1 hx
   obtain⟨a,b1,b2,_⟩:=a2 k x hk
   rw[<-b2]
   exact hB.inK a Zo
  ·obtain⟨a,b1,b2,b3⟩:=a2 k x hk
   constructor
   ·intro hx
    obtain⟨a',c1,c2,c3⟩:=hB.roots x hx (by rw[<-b2];exact hB.inK a Zo)
    have:=hB.nd a' a c1 Zo (by rw[c2,b2])
    subst this
    exact b3.1 c3
   ·intro hk0
    rw[<-b2]
    exact hB.root a Zo (b3.2 hk0)
 ·rw[Gg hz]
  exact⟨fun k l x _ h=>(by simp at h),fun x h=>(by cases h),fun k x h=>(by simp at h),fun k x y h=>(by simp at h),fun h=>absurd rfl h,fun h=>absurd rfl h,fun h=>absurd (hR.1 h) hz⟩
end Go.Proofs.YtbjegfpfmnleeaaGreatDoor
namespace Go.Proofs.YtbjegfpfmnleeaaGreatDoor
open Go.RowKit Go.Maps
set_option maxRecDepth 100000
theorem Aa4(w:World):ZRow (w.alloc (.cells #[] 3)) w.heap.size ⟨some ⟨w.heap.size,0,none⟩,0,0⟩ []:=
 ⟨rfl,rfl,.inr ⟨w.heap.size,0,#[],rfl,Nat.le_refl _,Blk.new _ _ _,Nat.le_refl _,Zd,rfl,rfl⟩⟩
theorem Ld{w:World}{S:Nat->Prop}{qa:Option Addr}{bx:List Int}(h:PathAt w S qa bx)(hS: ∀b,S b->b<w.heap.size)(hb:bx.length<=1000)(qc:Nat):
  ∃(s':S3) (w':World),(∀ty,(Builtin.append_ #[24,24] ty #[.slice (some ⟨w.heap.size,0,none⟩) 0 0,.slice qa bx.length qc]).run Tryz.prog (w.alloc (.cells #[] 3))=.ok (S3.v s') w')/\ZRow w' w.heap.size s' bx/\Below w.heap.size w w':=by
 have hz:=Aa4 w
 have hp:PathAt (w.alloc (.cells #[] 3)) S qa bx:=h.keep (fun b hb _=>Below.heap_alloc _ _ _ (hS b hb)) (fun _ hb _=>hb)
 obtain⟨s',w',h1,h2,h3⟩:=Hl hz (by simp) (by simp) hp Zo qc
 rw[List.nil_append] at h2
 refine⟨s',w',h1,h2, ?_⟩
 have hb1:Below w.heap.size w (w.alloc (.cells #[] 3)):=B2 (Below.refl _ _) _
 exact hb1.trans (h3.bel (fun g hg=>(ARow.block hz hg).1) (by simp))
theorem Le{w:World}{B:Nat}{s:S3}{l:List Int}(h:ZRow w B s l)(hl:l.length<=1000)(hB:B<=w.heap.size):
    ∃(s':S3) (w':World),(∀ty,(Builtin.append_ #[24,24] ty #[.slice s.d s.n s.c,.slice (some ⟨w.heap.size,0,none⟩) 2 2]).run Tryz.prog (w.alloc (.cells #[ii (-71),ii (-72)] 3))=.ok (S3.v s') w')/\ZRow w' B s' (l++[-71,-72])/\Below B w w':=by
  have hb1:Below w.heap.size w (w.alloc (.cells #[ii (-71),ii (-72)] 3)):=B2 (Below.refl _ _) _
  have hX:=Blk.new w 3 #[ii (-71),ii (-72)]
  have hp:PathAt (w.alloc (.cells #[ii (-71),ii (-72)] 3)) (fun _=>True) (some ⟨w.heap.size,0,none⟩) [-71,-72]:=.inr ⟨w.heap.size,0,rfl,trivial,fun j x hx=>by
    rw[hX.cell]
    match j,hx with
    | 0, hx => obtain rfl : -71 = x := by simpa using hx
               rfl
    | 1, hx => obtain rfl : -72 = x := by simpa using hx
               rfl
    | j+2,hx=>simp at hx⟩
  have h0:=ARow.old h hb1
  obtain⟨s',w',h1,h2,h3⟩:=Hl (s:=s) (l:=l) (B:=B) h0 Zo (by have:=hb1.size;omega) hp Zd 2
  exact⟨s',w',h1,h2,(hb1.mono hB).trans (h3.bel (fun g hg=>(ARow.block h hg).1) (by have:=hb1.size;omega))⟩
theorem Dk8{g n c k:Nat}(hk:k<=c)(w:World):(Instr.sliceAt 24 (.slice (some ⟨g,0,none⟩) n c) none (some (ii (k:Int))) none).run Tryz.prog w=.ok (.slice (some ⟨g,0,none⟩) k c) w:=by
 have ht:Tryz.prog.underlying 24=some (.slice (Tryz.prog.elem 24)):=Tryz.underlying24
 obtain⟨i,hi1,hi2⟩:=Option.map_eq_some_iff.1 (show(Tryz.prog.info? (Tryz.prog.elem 24)).map (·.size)=some 1 by kernel_rfl)
 rw[run_sliceAt_slice _ _ _ _ _ _ ht,run_slice_h _ _ _ _ _ ht _ _ Zo Zo]
 simp[sizeOf,typeInfo,hi1,Result.andThen,sliced,Ck]
theorem Gb{w:World}{B B':Nat}{s t:S3}{l m:List Int}(h:ZRow w B s l)(k:ZRow w B' t m)(hl:l.length<=1000000000)(e:l=m):Calls Tryz.prog 16 #[.slice s.d s.n s.c,.slice t.d t.n t.c] w fun e w'=>e=.returned (.bool true)/\Below w.heap.size w w':=by
 have:=Ow h k hl
 rw[decide_eq_true e] at this
 exact this
set_option maxHeartbeats 16000000 in
theorem Bj{w:World}(hown:OwnAt w)(hw0:0<w.heap.size){xs:List I4}{pa:Option Addr}(hA:Acts4 w pa xs)(pc:Nat){l:Fo}{ia:Option Addr}(hok:l.ok)(hlen:l.len<=1034834473170)(hl:SlAt w (fun b=>b<w.heap.size) ia l)(lc:Nat){bx:List Int}{qa:Option Addr}(hbx:IntsIn w qa bx)(qc:Nat){tz:Int}(htz:F8 tz):
  Calls Tryz.prog 3 #[.slice pa xs.length pc,.slice ia l.len lc,.slice qa bx.length qc,ii tz] w fun e w'=>e=.returned (.bool true)/\Below w.heap.size w w':=by
 refine B6 (vs:=[.slice pa xs.length pc,.slice ia l.len lc,.slice qa bx.length qc,ii tz]) 292 Tryz.func3 Ap6 Zk (by simp) fun a0 h0=> ?_
 unfold Aa7
 refine Zs (Dk9 h0 fun a1 k1=> ?_)
 refine Zs (Dl0 (b:=true) (C0:=fun z=>Below w.heap.size w z) k1 (Kl hown hw0) fun a2 u1 hb1 k2=> ?_)
 have hz1:=hb1.size
 refine Zs (Dl1 (b:=Av l) (C0:=fun z=>Below u1.heap.size u1 z) k2 rfl (Zr hok hlen (hl.keep (fun b hb _=>hb1.block b hb) (fun b hb _=>by omega)) lc) fun a3 u2 hb12 k3=> ?_)
 have hb2:Below w.heap.size w u2:=A7 hb1 hb12
 have hz2:=hb2.size
 obtain⟨B,hB⟩: ∃B,B=u2.heap.size:=⟨_,rfl⟩
 refine Zs (Dl2 (C0:=fun wp u=>(∃gh O sd sk,Wd B u wp gh O (De xs) sd sk)/\Below u2.heap.size u2 u) k3 rfl (by rw[hB];exact Kk (hown.old hb2) Zo (hA.below hb2) pc) fun a4 wp u3 hu k4=> ?_)
 obtain⟨⟨gh,O,sd,sk,hW3⟩,hb23⟩:=hu
 have hb3:Below w.heap.size w u3:=A7 hb2 hb23
 obtain⟨σ,hσ⟩: ∃σ,σ=De xs:=⟨_,rfl⟩
 rw[<-hσ] at hW3
 cases hsm:Av l with
 | false=>
  rw[hsm] at k4
  refine wp_seq (Zs (Ry k4 rfl rfl rfl (fun w=>rfl) fun a5 k5=>wp_cond_true (k5.look 58 rfl) ?_))
  refine Zs (Pq (b62:=true) k5 rfl rfl (fun w=>rfl) fun a' h'=>wp_ret ?_)
  repeat (first | with_reducible refine D2 ?_ | with_reducible refine F1 ?_)
  exact G7 rfl h' rfl ⟨rfl,hb3⟩
 | true=>
 rw[hsm] at k4
 by_cases hbig:60<bx.length
 ·refine wp_seq (Zs (Gc (b57:=true) k4 rfl rfl rfl rfl (fun w=>rfl) (decide_eq_true Zo) fun a5 k5=>wp_cond_true (k5.look 58 rfl) ?_))
  refine Zs (Pq (b62:=true) k5 rfl rfl (fun w=>rfl) fun a' h'=>wp_ret ?_)
  repeat (first | with_reducible refine D2 ?_ | with_reducible refine F1 ?_)
  exact G7 rfl h' rfl ⟨rfl,hb3⟩
 refine wp_seq (Zs (Gc (b57:=false) k4 rfl rfl rfl rfl (fun w=>rfl) (decide_eq_false Zo) fun a5 k5=>B9 (k5.look 58 rfl) ?_))
 have k5:Sl 292 a5 [(11,pT wp),(0,.slice pa xs.length pc),(1,.slice ia l.len lc),(2,.slice qa bx.length qc),(3,ii tz)]:=k5.to ⟨rfl,rfl,rfl,rfl,rfl,trivial⟩
 have hsz:=smallF_iff.1 hsm
 have hr:Roots w l ia bx qa:=⟨hok,hsz.1,hsz.2,hl,hbx,Zo⟩
 obtain⟨T,hT⟩: ∃T,T=σ.T:=⟨_,rfl⟩
 obtain⟨N,hN⟩: ∃N,N=keysT T:=⟨_,rfl⟩
 have hK:KOk (keysT T):=by rw[hT];exact hW3.kok
 have hfew:(keysT T).length<=80:=by rw[hT];exact hW3.few
 have hgr:=Aa2 hW3 (hown.old hb3)
 rw[<-hT] at hgr
 obtain⟨Z0,hZ0⟩: ∃Z0,Z0=u3.heap.size:=⟨_,rfl⟩
 rw[<-hZ0] at hgr
 refine Zs (Dl3 (C0:=fun gp v=>GrAt v gp (fun b=>Z0<=b/\b<v.heap.size) (keysT T) ((keysT T).map (E7 T))/\Below Z0 u3 v) k5 rfl hgr fun a6 gp u4 hg4 k6=> ?_)
 obtain⟨hG4,hb34⟩:=hg4
 rw[hZ0] at hb34
 obtain⟨nd,nc,l4,_⟩:=hG4.things
 refine wp_seq (Zs (Dl4 (nn:=(keysT T).length) (b71:=false) k6 rfl l4 (decide_eq_false Zo) fun a7 k7=>B9 (k7.look 71 rfl) ?_))
 have hW4:=hW3.old hb34
 have hb4:Below w.heap.size w u4:=A7 hb3 hb34
 have hdn:sd.n=σ.X.length:=hW3.data.1
 have hfarX:=hW3.ok.far
 obtain⟨go,hgo⟩: ∃go,go=M9 tz (σ.X.length+2):=⟨_,rfl⟩
 have hgl:go<σ.X.length+2:=by rw[hgo];exact Db Zo
 have hpk:=N9 htz (n:=σ.X.length+2) Zo u4
 rw[<-hgo] at hpk
 refine Zs (Dl5 (n:=go) (C0:=fun z=>z=u4) k7 rfl rfl hW4.ld Zo (by rw[hdn];exact hpk) fun a8 u5 hu5 k8=> ?_)
 subst hu5
 obtain⟨Z1,hZ1⟩: ∃Z1,Z1=u5.heap.size:=⟨_,rfl⟩
 have hlc:=Ao9 l u5 (fun b=>b<w.heap.size) ia lc (hl.keep (fun b hb _=>hb4.block b hb) (fun _ hb _=>hb)) (Dx l hsz.2) Zo
 refine Zs (Bz3 (C0:=fun q v=>q.n=l.len/\LeB v (fun b=>u5.heap.size<=b) (fun b=>b<w.heap.size/\b<u5.heap.size) l q.d q.c/\Below u5.heap.size u5 v) k8 rfl (hlc.mono fun e w' ⟨q,r1,r2,_,r4,r5⟩=>⟨q,r1,r2,r4,r5⟩) fun a9 dq u6 hd6 k9=> ?_)
 obtain⟨hdqn,hLe6,hb56⟩:=hd6
 rw[hdqn] at k9
 have hb6:Below w.heap.size w u6:=A7 hb4 hb56
 have hz56:=hb56.size
 have hpb6:PathAt u6 (fun b=>b<w.heap.size) qa bx:=hbx.below hb6
 have hs6:=hb6.size
 obtain⟨s1,v1,e1,e2,e3⟩:=Ld hpb6 (fun b hb=>by omega) Zo qc
 obtain⟨s2,v2,f1,f2,f3⟩:=Le e2 Zo e3.size
 refine Zs (Bz4 (C0:=fun _ s z=>s=s1/\z=v1) (C1:=fun _ s z=>s=s2/\z=v2) k9 rfl (fun ty=>⟨s1,v1,e1 ty,rfl,rfl⟩) (fun s z hz ty=>by rw[hz.1,hz.2];exact⟨s2,v2,f1 ty,rfl,rfl⟩) fun a10 _ _ s z _ hz k10=> ?_)
 obtain⟨rfl,rfl⟩:=hz
 obtain⟨vs,hvs⟩: ∃vs:S3,vs=s:=⟨_,rfl⟩
 rw[<-hvs] at k10 f2
 have hb6v:Below u6.heap.size u6 z:=e3.trans f3
 have hvn:vs.n=(bx++[-71,-72]).length:=f2.1
 obtain⟨vg,hvd,hvo⟩:=ZRow.dsome f2 (by rw[List.length_append];show 0<_+2;omega)
 have hvc:bx.length<=vs.c:=by
  have:=(ZRow.path f2).2.2.1
  rw[List.length_append] at this
  omega
 refine Zs (Bz5 (d90:=vs.d) (n90:=bx.length) (q90:=vs.c) k10 rfl rfl (by rw[hvd];exact fun w=>Dk8 hvc w) fun a11 k11=> ?_)
 obtain⟨Z,hZ⟩: ∃Z,Z=z.heap.size:=⟨_,rfl⟩
 have hb5z:Below u5.heap.size u5 z:=A7 hb56 hb6v
 have hz5z:=hb5z.size
 have hz6z:=hb6v.size
 have hz34:=hb34.size
 have hz23:=hb23.size
 have hWz:=hW4.old hb5z
 have hO3: ∀b,O b->B<=b/\b<Z0:=fun b hb=>by rw[hZ0];exact hW3.hs.lim b hb
 have E0:Env w B Z0 Z1 Z wp gh gp O σ sd sk (keysT T) ((keysT T).map (E7 T)) l dq.d dq.c vs bx z:=by
  refine⟨hWz, ?_, ?_,f2.low Zo,fun g hg=>by rw[hZ];exact(ARow.block f2 hg).2,A7 hb4 hb5z,fun b hb=>.inl (hO3 b hb).2,fun b hb=>(hO3 b hb).1,fun b hb=> ?_,Zo,Zo,Zo,Zo,Zo⟩
  ·exact hG4.keep (fun b _ hl=>hb5z.block b hl) (fun b hb hl=>⟨hb.1,Zo⟩)
  ·exact hLe6.keep (fun b hb hl=>⟨hb6v.block b hl,Zo,Zo⟩) (fun b hb hl=>⟨hb6v.block b hl,hb.1⟩)
  ·rw[hZ0]
   rcases hb with rfl | hb | hb
   ·exact hW3.blk.lt
   ·exact(ARow.block hW3.data hb).2
   ·exact(ARow.block hW3.kinds hb).2
 have k11:Sl 292 a11 [(11,pT wp),(12,pT gp),(13,ii (go:Int)),(14,.slice dq.d l.len dq.c),(15,.slice vs.d vs.n vs.c),(16,.slice vs.d bx.length vs.c),(1,.slice ia l.len lc),(2,.slice qa bx.length qc)]:=k11.to ⟨rfl,rfl,rfl,rfl,rfl,rfl,rfl,rfl,trivial⟩
 clear k10 k9 k8 k7 k6 k5 k4 k3 k2 k1 h0 hWz hLe6 hG4 e1 e2 e3 f1 f2 f3 hpk hgr hlc
 obtain⟨R,hR⟩: ∃R,R=H7 bx l:=⟨_,rfl⟩
 have hRp:R.Pairwise (· <= ·):=by rw[hR];exact Bn _ _
 have hRP: ∀x,x∈R↔x∈L1 l++bx:=fun x=>by
  rw[hR]
  unfold H7
  rw[sortZ_mem,List.mem_append,List.mem_append]
  exact or_comm
 have hgz:F8 (go:Int):=⟨Zo,Zo⟩
 have hrl:=Xr hK hRp
 obtain⟨Wy,hWy⟩: ∃Wy,Wy=Ad3 T R (go:Int):=⟨_,rfl⟩
 have hWl:Wy.length<=1000:=by
  have hP:WayP (keysT T) R (E7 T) (go:Int) Wy:=by rw[hWy];exact Er3 hRp _
  have h1:Wy.Nodup:=by
   rw[List.nodup_iff_pairwise_ne,List.pairwise_iff_getElem]
   intro a b ha hb hab e
   exact hP.once a b _ hab (List.getElem?_eq_getElem ha) (by rw[List.getElem?_eq_getElem hb,e])
  have:=N7 Wy (keysT T) h1 hP.inK
  omega
 have q13:=Pp E0.wd (hown.old E0.low) (E0.inLent hr) dq.c vs.c
 rw[<-hT,<-hR] at q13
 refine Zs (Bz6 (C0:=fun q v=>ZRow v z.heap.size q (F6 T R)/\Below z.heap.size z v) k11 rfl rfl rfl E0.wd.lh q13 fun a12 p1 w1 hp1 k12=> ?_)
 obtain⟨hP1,hc1⟩:=hp1
 have E1:=E0.old hc1
 have q14:=Pp E1.wd (hown.old E1.low) (E1.inLent hr) dq.c vs.c
 rw[<-hT,<-hR] at q14
 refine Zs (Bz7 (C0:=fun q v=>ZRow v w1.heap.size q (F6 T R)/\Below w1.heap.size w1 v) k12 rfl rfl rfl E1.wd.lh q14 fun a13 p2 w2 hp2 k13=> ?_)
 obtain⟨hP2,hc2⟩:=hp2
 have E2:=E1.old hc2
 have q15:=Ev6 E2.wd (hown.old E2.low) (E2.inLent hr) dq.c vs.c hgz
 rw[<-hT,<-hR,<-hWy] at q15
 refine Zs (Bz8 (C0:=fun q v=>ZRow v w2.heap.size q Wy/\Below w2.heap.size w2 v) k13 rfl rfl rfl rfl E2.wd.lh q15 fun a14 p3 w3 hp3 k14=> ?_)
 replace k14:Sl 292 a14 [(19,.slice p3.d p3.n p3.c),(18,.slice p2.d p2.n p2.c),(17,.slice p1.d p1.n p1.c),(11,pT wp),(12,pT gp),(13,ii (go:Int)),(14,.slice dq.d l.len dq.c),(15,.slice vs.d vs.n vs.c),(16,.slice vs.d bx.length vs.c),(1,.slice ia l.len lc),(2,.slice qa bx.length qc)]:=k14.to ⟨rfl,rfl,rfl,rfl,rfl,rfl,rfl,rfl,rfl,rfl,rfl,trivial⟩
 obtain⟨hP3,hc3⟩:=hp3
 have E3:=E2.old hc3
 have q16:=Ev6 E3.wd (hown.old E3.low) (E3.inLent hr) dq.c vs.c hgz
 rw[<-hT,<-hR,<-hWy] at q16
 refine Zs (Bz9 (C0:=fun q v=>ZRow v w3.heap.size q Wy/\Below w3.heap.size w3 v) k14 rfl rfl rfl rfl E3.wd.lh q16 fun a15 p4 w4 hp4 k15=> ?_)
 obtain⟨hP4,hc4⟩:=hp4
 have E4:=E3.old hc4
 have hToL:ToL (keysT T) ((keysT T).map (E7 T)) (E7 T):=fun i x hx=>by rw[List.getElem?_map,hx];rfl
 have hG4':GrAt w4 gp (fun b=>b<w4.heap.size) (keysT T) ((keysT T).map (E7 T)):=E4.gr.keep (fun _ _ _=>rfl) (fun _ _ hl=>hl)
 have q17:=Kz hG4' Zo (fun r hr=>by obtain⟨x,_,rfl⟩:=List.mem_map.1 hr;exact Bm (by rw[hT];exact hW3.ok.tok)) (hr.inOld E4.low) lc qc
 refine Zs (Ca0 (C0:=fun q v=>ZRow v w4.heap.size q (F6 T R)/\Below w4.heap.size w4 v) k15 rfl rfl rfl (q17.mono fun e w' ⟨q,S,r1,r2,r3,r4,r5⟩=>⟨q,r1, ?_,r5⟩) fun a16 p5 w5 hp5 k16=> ?_)
 ·rw[Rs (P9 T) hToL hK.rise hRp hRP r3 r4] at r2
  exact r2
 obtain⟨hP5,hc5⟩:=hp5
 have E5:=E4.old hc5
 have hG5:GrAt w5 gp (fun b=>b<w5.heap.size) (keysT T) ((keysT T).map (E7 T)):=E5.gr.keep (fun _ _ _=>rfl) (fun _ _ hl=>hl)
 have q18:=Ao4 hG5 (hr.inOld E5.low) lc qc (go:Int)
 rw[Ao5 hToL (Sy T hRp) hRP] at q18
 refine Zs (Ca1 (C0:=fun q v=>ZRow v w5.heap.size q Wy/\Below w5.heap.size w5 v) k16 rfl rfl rfl rfl (by rw[hWy];exact q18) fun a17 p6 w6 hp6 k17=> ?_)
 replace k17:Sl 292 a17 [(22,.slice p6.d p6.n p6.c),(21,.slice p5.d p5.n p5.c),(20,.slice p4.d p4.n p4.c),(19,.slice p3.d p3.n p3.c),(18,.slice p2.d p2.n p2.c),(17,.slice p1.d p1.n p1.c),(11,pT wp),(12,pT gp),(14,.slice dq.d l.len dq.c),(15,.slice vs.d vs.n vs.c),(16,.slice vs.d bx.length vs.c),(1,.slice ia l.len lc),(2,.slice qa bx.length qc)]:=k17.to ⟨rfl,rfl,rfl,rfl,rfl,rfl,rfl,rfl,rfl,rfl,rfl,rfl,rfl,trivial⟩
 obtain⟨hP6,hc6⟩:=hp6
 have E6:=E5.old hc6
 have zc1:=hc1.size
 have zc2:=hc2.size
 have zc3:=hc3.size
 have zc4:=hc4.size
 have zc5:=hc5.size
 have zc6:=hc6.size
 have g1:=fun g hg=>ARow.block hP1 (g:=g) hg
 have g2:=fun g hg=>ARow.block hP2 (g:=g) hg
 have g3:=fun g hg=>ARow.block hP3 (g:=g) hg
 have g4:=fun g hg=>ARow.block hP4 (g:=g) hg
 have g5:=fun g hg=>ARow.block hP5 (g:=g) hg
 have A1:=((((hP1.old hc2).old hc3).old hc4).old hc5).old hc6
 have A2:=(((hP2.old hc3).old hc4).old hc5).old hc6
 have A3:=((hP3.old hc4).old hc5).old hc6
 have A4:=(hP4.old hc5).old hc6
 have A5:=hP5.old hc6
 refine Zs (Ca2 (b:=true) (C0:=fun v=>Below w6.heap.size w6 v) k17 rfl rfl (Gb A1 A5 Zo rfl) fun a18 w7 hc7 k18=> ?_)
 refine Zs (Ca3 (b:=true) (C0:=fun v=>Below w7.heap.size w7 v) k18 rfl rfl (Gb (A2.old hc7) (A5.old hc7) Zo rfl) fun a19 w8 hc8 k19=> ?_)
 have hc68:=A7 hc7 hc8
 refine Zs (Ca4 (b:=true) (C0:=fun v=>Below w8.heap.size w8 v) k19 rfl rfl (Gb (A3.old hc68) (hP6.old hc68) Zo rfl) fun a20 w9 hc9 k20=> ?_)
 have hc69:=A7 hc68 hc9
 refine Zs (Ca5 (b:=true) (C0:=fun v=>Below w9.heap.size w9 v) k20 rfl rfl (Gb (A4.old hc69) (hP6.old hc69) Zo rfl) fun a21 w10 hc10 k21=> ?_)
 replace k21:Sl 292 a21 [(26,.bool true),(25,.bool true),(24,.bool true),(23,.bool true),(21,.slice p5.d p5.n p5.c),(20,.slice p4.d p4.n p4.c),(19,.slice p3.d p3.n p3.c),(18,.slice p2.d p2.n p2.c),(17,.slice p1.d p1.n p1.c),(11,pT wp),(12,pT gp),(14,.slice dq.d l.len dq.c),(15,.slice vs.d vs.n vs.c),(16,.slice vs.d bx.length vs.c),(1,.slice ia l.len lc),(2,.slice qa bx.length qc)]:=k21.to ⟨rfl,rfl,rfl,rfl,rfl,rfl,rfl,rfl,rfl,rfl,rfl,rfl,rfl,rfl,rfl,rfl,trivial⟩
 have hc610:=A7 hc69 hc10
 have zc10:=hc610.size
 have E10:=E6.old hc610
 have hOZ: ∀b,O b->b<Z0:=fun b hb=>(hO3 b hb).2
 refine Zs (Ca6 (b:=true) (C0:=fun v=>Moved (MO p1 p2) w10 v) k21 rfl rfl (Pn (B:=Z) (ZRow.low (A1.old hc610) Zo) (ZRow.low (A2.old hc610) Zo) Zo (fun g hg e=>by have:=g1 g hg;have:=g2 g e;omega) Zo Zo) fun a22 w11 hM11 k22=> ?_)
 have E11:=E10.mine hM11 (fun g hg=>hg.elim (fun q=>by have:=g1 g q;omega) (fun q=>by have:=g2 g q;omega)) hOZ
 have zc11:=hM11.size
 have kp: ∀{B':Nat} {s:S3} {m:List Int},ZRow w10 B' s m->w2.heap.size<=B'->ZRow w11 B' s m:=fun h hB'=>ARow.keep h fun g hg=>hM11.block g (ARow.block h hg).2 fun e=>by
  have:=(ARow.block h hg).1
  rcases e with e | e
  ·have:=g1 g e;omega
  ·have:=g2 g e;omega
 have C3:=kp (A3.old hc610) (Nat.le_refl _)
 have C4:=kp (A4.old hc610) Zo
 have C5:=kp (A5.old hc610) Zo
 refine Zs (Ca7 (b:=true) (C0:=fun v=>Moved (MO p3 p4) w11 v) k22 rfl rfl (Pn (B:=Z) (ZRow.low C3 Zo) (ZRow.low C4 Zo) Zo (fun g hg e=>by have:=g3 g hg;have:=g4 g e;omega) Zo Zo) fun a23 w12 hM12 k23=> ?_)
 have E12:=E11.mine hM12 (fun g hg=>hg.elim (fun q=>by have:=g3 g q;omega) (fun q=>by have:=g4 g q;omega)) hOZ
 have zc12:=hM12.size
 have D5:ZRow w12 w4.heap.size p5 (F6 T R):=ARow.keep C5 fun g hg=>hM12.block g (ARow.block C5 hg).2 fun e=>by
  have:=(ARow.block C5 hg).1
  rcases e with e | e
  ·have:=g3 g e;omega
  ·have:=g4 g e;omega
 replace k23:Sl 292 a23 [(28,.bool true),(27,.bool true),(26,.bool true),(25,.bool true),(24,.bool true),(23,.bool true),(21,.slice p5.d p5.n p5.c),(11,pT wp),(12,pT gp),(14,.slice dq.d l.len dq.c),(15,.slice vs.d vs.n vs.c),(16,.slice vs.d bx.length vs.c),(1,.slice ia l.len lc),(2,.slice qa bx.length qc)]:=k23.to ⟨rfl,rfl,rfl,rfl,rfl,rfl,rfl,rfl,rfl,rfl,rfl,rfl,rfl,rfl,trivial⟩
 have q25:=Be7 E12.wd (hown.old E12.low) (E12.inLent hr) dq.c vs.c
 rw[<-hT,<-hR] at q25
 obtain⟨σ',hσ'⟩: ∃σ':St,σ'={σ with T:=H4 T R}:=⟨_,rfl⟩
 rw[<-hσ'] at q25
 refine Zs (Ca8 (n:=((O8 T R (keysT T).length:Nat):Int)) (C0:=fun v=>(∃O',Wd B v wp gh O' σ' sd sk/\∀b,O' b->O b\/w12.heap.size<=b)/\Moved O w12 v) k23 rfl rfl rfl E12.wd.lh q25 fun a24 w13 hq k24=> ?_)
 obtain⟨⟨O',hW13,hO'⟩,hM13⟩:=hq
 have E13:=E12.sweep hW13 hM13 hO'
 have zc13:=hM13.size
 have hTs:σ'.T=H4 T R:=by rw[hσ']
 have F5:ZRow w13 w4.heap.size p5 (F6 T R):=ARow.keep D5 fun g hg=>hM13.block g (ARow.block D5 hg).2 fun e=>by
  have:=(ARow.block D5 hg).1
  have:=hOZ g e
  omega
 have q26:=Mv E13.wd
 rw[hTs,U3 hK hRp] at q26
 refine Zs (Ca9 (C0:=fun q v=>ZRow v w13.heap.size q (F6 T R)/\Below w13.heap.size w13 v) k24 rfl E13.wd.lh q26 fun a25 p7 w14 hp7 k25=> ?_)
 replace k25:Sl 292 a25 [(30,.slice p7.d p7.n p7.c),(29,ii ((O8 T R (keysT T).length:Nat):Int)),(28,.bool true),(27,.bool true),(26,.bool true),(25,.bool true),(24,.bool true),(23,.bool true),(21,.slice p5.d p5.n p5.c),(11,pT wp),(12,pT gp),(14,.slice dq.d l.len dq.c),(15,.slice vs.d vs.n vs.c),(16,.slice vs.d bx.length vs.c),(1,.slice ia l.len lc),(2,.slice qa bx.length qc)]:=k25.to ⟨rfl,rfl,rfl,rfl,rfl,rfl,rfl,rfl,rfl,rfl,rfl,rfl,rfl,rfl,rfl,rfl,trivial⟩
 obtain⟨hP7,hc14⟩:=hp7
 have E14:=E13.old hc14
 have F5':=F5.old hc14
 refine Zs (Cb0 (b:=true) (C0:=fun v=>Below w14.heap.size w14 v) k25 rfl rfl (Gb hP7 F5' Zo rfl) fun a26 w15 hc15 k26=> ?_)
 have E15:=E14.old hc15
 have hbk:=Ap1 l w15 (fun b=>Z1<=b/\b<Z) (fun b=>b<w.heap.size) (fun b=>b<w.heap.size) dq.d ia dq.c lc E15.le (hl.keep (fun b hb _=>E15.low.block b hb) (fun _ hb _=>hb)) (Dx l hsz.2) Zo
 refine Zs (Cb1 (b:=true) (C0:=fun v=>Below w15.heap.size w15 v) k26 rfl rfl (hbk.mono fun e w' ⟨r1,m,r2⟩=>⟨r1,by rw[r2];exact B3 (Below.refl _ _) m⟩) fun a27 w16 hc16 k27=> ?_)
 replace k27:Sl 292 a27 [(32,.bool true),(31,.bool true),(29,ii ((O8 T R (keysT T).length:Nat):Int)),(28,.bool true),(27,.bool true),(26,.bool true),(25,.bool true),(24,.bool true),(23,.bool true),(21,.slice p5.d p5.n p5.c),(11,pT wp),(12,pT gp),(14,.slice dq.d l.len dq.c),(15,.slice vs.d vs.n vs.c),(16,.slice vs.d bx.length vs.c),(1,.slice ia l.len lc),(2,.slice qa bx.length qc)]:=k27.to ⟨rfl,rfl,rfl,rfl,rfl,rfl,rfl,rfl,rfl,rfl,rfl,rfl,rfl,rfl,rfl,rfl,rfl,trivial⟩
 have E16:=E15.old hc16
 have zc16:=E16.low.size
 have hpb16:PathAt w16 (fun b=>b<w.heap.size) qa bx:=hbx.below E16.low
 obtain⟨s3,v3,e1,e2,e3⟩:=Ld hpb16 (fun b hb=>by omega) Zo qc
 obtain⟨s4,v4,f1,f2,f3⟩:=Le e2 Zo e3.size
 have hb16v:Below w16.heap.size w16 v4:=e3.trans f3
 have E17:=E16.old hb16v
 refine Zs (Cb2 (b:=true) (C0:=fun _ s z=>s=s3/\z=v3) (C1:=fun _ s z=>s=s4/\z=v4) (C2:=fun v=>Below v4.heap.size v4 v) k27 rfl rfl (fun ty=>⟨s3,v3,e1 ty,rfl,rfl⟩) (fun s z hz ty=>by rw[hz.1,hz.2];exact⟨s4,v4,f1 ty,rfl,rfl⟩) (fun s z _ s' z' hz=>by rw[hz.1,hz.2];exact Gb E17.va f2 (by rw[List.length_append];show _+2<=_;omega) rfl) fun a28 _ _ _ _ w17 _ _ hc17 k28=> ?_)
 have E18:=E17.old hc17
 have hc1417:Below w14.heap.size w14 w17:=A7 (A7 (A7 hc15 hc16) hb16v) hc17
 have G5:=F5'.old hc1417
 obtain⟨nd',nc',l18,_⟩:=E18.gr.things
 have hp5n:p5.n=(F6 T R).length:=hP5.1
 have hgn:=Nk hK hRp
 refine wp_seq (Zs (Ai (nn:=(keysT T).length) (b217:=false) k28 rfl rfl rfl rfl rfl rfl rfl rfl rfl rfl rfl rfl l18 Zo (decide_eq_false Zo) fun a29 k29=>B9 (k29.look 218 rfl) ?_))
 exact Bz0 E18 hown hr hR hTs hK G5 (k29.to ⟨rfl,rfl,rfl,rfl,rfl,trivial⟩)
end Go.Proofs.YtbjegfpfmnleeaaGreatDoor
