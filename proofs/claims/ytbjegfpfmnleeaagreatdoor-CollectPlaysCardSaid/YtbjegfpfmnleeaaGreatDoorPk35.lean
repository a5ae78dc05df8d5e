/-
   Written by an AI agent.
-/
import Derived.Test.YtbjegfpfmnleeaaGreatDoorPk34
namespace Go.Proofs.YtbjegfpfmnleeaaGreatDoor
open Go.RowKit Go.Maps
set_option maxRecDepth 100000
def Dv(N:List Int)(To:List (List Int))(F:List Int)(ez:Nat):Nat->Option Nat->List Int
 | 0,_=>[]
 | _+1,none=>[]
 | f+1,some k=>N.getD k 0::if k=ez then[] else Dv N To F ez f (P6 N F (J6 N F k (To.getD k [])))
def Cd9(N:List Int)(To:List (List Int))(R:List Nat)(z:Int):List Int:=match gAt N z with
 | none=>[]
 | some e=>Dv N To (Bi N To e) e (N.length+1) (P6 N (Bi N To e) R)
theorem Rr{N F:List Int}{o:Option Nat}{k:Nat}(ho: ∀p,o=some p->0<=F.getD p (-1)): ∀p,H3 N F o k=some p->0<=F.getD p (-1):=by
 intro p hp
 unfold H3 at hp
 split at hp
 ·exact ho p hp
 ·rename_i hk
  cases o with
  | none=>injection hp with hp;subst hp;omega
  | some q=>
   simp only at hp
   split at hp
   ·injection hp with hp;subst hp;omega
   ·exact ho p hp
theorem Bz{N F:List Int}: ∀(L:List Nat) (o:Option Nat),(∀p,o=some p->0<=F.getD p (-1))->∀p,L.foldl (H3 N F) o=some p->0<=F.getD p (-1)
 | [],_,ho=>ho
 | _::r,_,ho=>Bz r _ (Rr ho)
theorem Hr{N F:List Int}: ∀(L:List Nat) (o:Option Nat) (p:Nat),L.foldl (H3 N F) o=some p->o=some p\/p∈L
 | [],_,_,h=>.inl h
 | k::r,o,p,h=>by
  rcases Hr r _ p h with h1 | h1
  ·unfold H3 at h1
   split at h1
   ·exact .inl h1
   ·cases o with
    | none=>injection h1 with h1;exact .inr (by rw[h1];exact List.mem_cons_self)
    | some q=>
     simp only at h1
     split at h1
     ·injection h1 with h1;exact .inr (by rw[h1];exact List.mem_cons_self)
     ·exact .inl h1
  ·exact .inr (List.mem_cons_of_mem _ h1)
theorem Dk4{N:List Int}{To:List (List Int)}{st:Nat}{F:List Int}{i m:Nat}(h: ∀x,x∈F-> -1<=x/\x<=(m:Int))(hs:st<=m): ∀x,x∈Na N To st F i-> -1<=x/\x<=(m:Int):=by
 unfold Na
 split
 ·exact h
 ·split
  ·intro x hx
   rcases List.mem_or_eq_of_mem_set hx with hx | rfl
   ·exact h x hx
   ·omega
  ·exact h
theorem Zi{N:List Int}{To:List (List Int)}{st m:Nat}(hs:st<=m): ∀(l:List Nat) (F:List Int),(∀x,x∈F-> -1<=x/\x<=(m:Int))->∀x,x∈l.foldl (Na N To st) F-> -1<=x/\x<=(m:Int)
 | [],_,h=>h
 | _::r,_,h=>Zi hs r _ (Dk4 h hs)
theorem Pg{N:List Int}{To:List (List Int)}{F:List Int}{m:Nat}(h: ∀x,x∈F-> -1<=x/\x<=(m:Int)): ∀s,s<=m->∀x,x∈Z4 N To F s-> -1<=x/\x<=(m:Int)
 | 0,_=>h
 | s+1,hs=>by
  rw[U4]
  exact Zi hs _ _ (Pg h s Zo)
theorem Dk5{N:List Int}{To:List (List Int)}{tz:Nat}: ∀x,x∈Bi N To tz-> -1<=x/\x<=(N.length:Int):=
 Pg (fun x hx=>by
  rcases List.mem_or_eq_of_mem_set hx with hx | rfl
  ·have:=(List.mem_replicate.1 hx).2
   omega
  ·omega) N.length (Nat.le_refl _)
theorem By0{N:List Int}{To:List (List Int)}{tz:Nat}:(Bi N To tz).length=N.length:=by
 show(Z4 N To _ N.length).length=_
 rw[Dr,List.length_set,List.length_replicate]
theorem Dw{N F:List Int}{k:Nat}{r:List Int}{n:Nat}(h:n∈J6 N F k r):n<N.length/\F.getD n (-1)=F.getD k (-1)-1:=by
 unfold J6 at h
 rw[List.mem_filter] at h
 obtain⟨x,_,hx⟩:=List.mem_filterMap.1 h.1
 exact⟨(D6 hx).2,by simpa using h.2⟩
theorem Ph{N:List Int}{To:List (List Int)}{F:List Int}{ez:Nat}: ∀(f:Nat) (o:Option Nat),(Dv N To F ez f o).length<=f
 | 0,_=>Nat.le_refl _
 | _+1,none=>Nat.zero_le _
 | f+1,some k=>by
  unfold Dv
  split
  ·simp
  ·have:=Ph (N:=N) (To:=To) (F:=F) (ez:=ez) f (P6 N F (J6 N F k (To.getD k [])))
   simp only[List.length_cons]
   omega
def oF(F:List Int):Value->Nat
 | .int _ k=>if k<0 then 0 else(F.getD k.toNat (-1)).toNat+1
 | _=>0
theorem Zj{F:List Int}{k:Nat}:oF F (ii (k:Int))=(F.getD k (-1)).toNat+1:=by
 show(if(k:Int)<0 then 0 else(F.getD (k:Int).toNat (-1)).toNat+1)=_
 rw[if_neg Zo,Int.toNat_natCast]
theorem By1{F:List Int}:oF F (ii (-1))=0:=by
 show(if(-1:Int)<0 then 0 else(F.getD (-1:Int).toNat (-1)).toNat+1)=_
 rw[if_pos Zo]
set_option maxHeartbeats 4000000 in
theorem Ao4{w:World}{gp:Nat}{N:List Int}{To:List (List Int)}(hG:GrAt w gp (fun b=>b<w.heap.size) N To){l:Fo}{ia:Option Addr}{bx:List Int}{pa:Option Addr}(hI:InAt w l ia bx pa)(lc pc:Nat)(z:Int):
  Calls Tryz.prog 15 #[pT gp,.slice ia l.len lc,.slice pa bx.length pc,ii z] w fun e w'=> ∃q:S3,e=.returned (.slice q.d q.n q.c)/\(ZRow w' w.heap.size q (Cd9 N To (gTo N (L1 l++bx)) z)/\Below w.heap.size w w'):=by
 refine B6 (vs:=[pT gp,.slice ia l.len lc,.slice pa bx.length pc,ii z]) 94 Tryz.func15 An2 Zk (by simp) fun a0 h0=> ?_
 unfold Yn
 refine Zs (Df8 h0 fun a1 h1=> ?_)
 refine Zs (Df9 (e:=oI (gAt N z)) (C0:=fun w'=>w=w') h1 rfl rfl (Dn hG z) fun a2 w1 hq h2=> ?_)
 subst hq
 have hNf:=hG.far
 cases hg:gAt N z with
 | none=>
  rw[hg] at h2
  refine wp_seq (Zs (Bd5 (e:= -1) (b20:=true) h2 rfl Zd fun a3 h3=>wp_cond_true (h3.look 20 rfl) ?_))
  refine Zs (Dg0 h3 fun a4 h4=>wp_ret ?_)
  repeat (first | with_reducible refine D2 ?_ | with_reducible refine F1 ?_)
  refine G7 rfl h4 rfl ⟨⟨none,0,0⟩,rfl, ?_,Below.refl _ _⟩
  unfold Cd9
  rw[hg]
  exact ZRow.nil _ _
 | some ez=>
  rw[hg] at h2
  have hez:=(D6 hg).2
  refine wp_seq (Zs (Bd5 (e:=(ez:Int)) (b20:=false) h2 rfl (decide_eq_false Zo) fun a3 h3=>B9 (h3.look 20 rfl) ?_))
  obtain⟨fg,hfg⟩: ∃fg,fg=w.heap.size:=⟨_,rfl⟩
  obtain⟨F,hF⟩: ∃F,F=Bi N To ez:=⟨_,rfl⟩
  have hFl:F.length=N.length:=by rw[hF];exact By0
  have hFle: ∀x,x∈F-> -1<=x/\x<=(N.length:Int):=by rw[hF];exact Dk5
  have hgf:=Ao0 hG hez
  rw[<-hF] at hgf
  refine Zs (Dg1 (e:=(ez:Int)) (C0:=fun q v=>q=⟨some ⟨fg,0,none⟩,F.length,F.length⟩/\FB v fg F/\Below w.heap.size w v) h3 rfl rfl (hgf.mono fun e w' ⟨r1,r2,r3⟩=>⟨⟨some ⟨fg,0,none⟩,F.length,F.length⟩,by rw[hfg,hFl];exact r1,rfl,by rw[hfg];exact r2,r3⟩) fun a4 q w4 hq h4=> ?_)
  obtain⟨rfl,hF4,hb4⟩:=hq
  obtain⟨R,hR⟩: ∃R,R=gTo N (L1 l++bx):=⟨_,rfl⟩
  have hRn: ∀k,k∈R->k<N.length:=fun k hk=>by
   rw[hR] at hk
   obtain⟨x,_,hx⟩:=List.mem_filterMap.1 hk
   exact(D6 hx).2
  have hRl:R.length<=1000000:=by
   rw[hR]
   refine Nat.le_trans (List.length_filterMap_le _ _) ?_
   have:=hI.len
   rw[List.length_append] at this ⊢
   omega
  have hro:=Fz (hG.old hb4) (hI.old hb4) lc pc
  rw[Pf,<-hR] at hro
  have h4:Sl 94 a4 [(10,.slice (some ⟨fg,0,none⟩) F.length F.length),(9,ii (ez:Int)),(0,pT gp),(1,.slice ia l.len lc),(2,.slice pa bx.length pc)]:=h4.to ⟨rfl,rfl,rfl,rfl,rfl,trivial⟩
  refine Zs (Dg2 (k:=oI (P6 N F R)) (C0:=fun q v=>ZRow v w4.heap.size q (zN R)/\Below w4.heap.size w4 v) (C1:=fun v=>Below w4.heap.size w4 v) h4 rfl rfl rfl rfl hro (fun q v hq=> ?_) fun a5 q w5 w6 hq hb6 h5=> ?_)
  ·obtain⟨p1,p2,_⟩:=ZRow.path hq.1
   rw[p2,Ds]
   have hF5:FB v fg F:=(hq.2.block fg (by rw[hfg];exact Nat.lt_of_lt_of_le (by have:=hF4.lt;omega) (Nat.le_refl _))).trans hF4
   exact(Ku (hG.old (A7 hb4 hq.2)) p1 hF5.path hFl hRn Zo _ _).mono fun e w' hh=>⟨hh.1,A7 hq.2 hh.2⟩
  have hb6:Below w.heap.size w w6:=A7 hb4 hb6
  have hfl:fg<w4.heap.size:=hF4.lt
  have hF6:FB w6 fg F:=by
   have:w6.heap[fg]? =w4.heap[fg]? :=by
    rename_i hb46
    exact hb46.block fg hfl
   exact this.trans hF4
  have hz46:w4.heap.size<=w6.heap.size:=by
   rename_i hb46
   exact hb46.size
  have hfar: ∀k x,F[k]? =some x-> -1<=x/\x<=(N.length:Int):=fun k x hx=>hFle x (List.mem_of_getElem? hx)
  refine Zs (Dg3 h5 fun a6 h6=> ?_)
  obtain⟨tot,htot⟩: ∃tot,tot=Cd9 N To R z:=⟨_,rfl⟩
  have htot':tot=Dv N To F ez (N.length+1) (P6 N F R):=by
   rw[htot,hF]
   unfold Cd9
   rw[hg]
  have htl:tot.length<=N.length+1:=by rw[htot'];exact Ph _ _
  rw[<-hR,<-htot]
  refine wp_seq (wp_block ?_)
  refine wp_loop (fun a' wr=> ∃(o:Option Nat) (f:Nat) (out:List Int) (t:S3),Sl 94 a' [(12,.slice t.d t.n t.c),(11,ii (oI o)),(10,.slice (some ⟨fg,0,none⟩) F.length F.length),(9,ii (ez:Int)),(0,pT gp)]/\ZRow wr w6.heap.size t out/\Below w6.heap.size w6 wr/\tot=out++Dv N To F ez f o/\(∀k,o=some k->k<N.length/\0<=F.getD k (-1)/\(F.getD k (-1)).toNat<f)) (fun a' _=>oF F (F9 a' 11))
   ⟨P6 N F R,N.length+1,[],⟨none,0,0⟩,h6.to ⟨rfl,rfl,rfl,rfl,rfl,trivial⟩,ZRow.nil _ _,Below.refl _ _,by rw[htot'];rfl,fun k hk=> ?_⟩ ?_
  ·have h1:=Hm R none (fun _ h=>by cases h) hRn k hk
   have h2:=Bz R none (fun _ h=>by cases h) k hk
   refine⟨h1,h2, ?_⟩
   have h3:=hfar k _ (List.getElem?_eq_getElem (by omega:k<F.length))
   rw[G0 (List.getElem?_eq_getElem (by omega:k<F.length))]
   omega
  rintro a7 w7 ⟨o,f,out,t,h7,hZ7,hb7,hT7,ho7⟩
  rw[h7.look 11 rfl]
  unfold Df7
  have hz7:=hb7.size
  cases o with
  | none=>
   refine wp_seq (Zs (Bd6 (k:= -1) (b32:=false) h7 rfl Zd fun a8 h8=>C9 (h8.look 32 rfl) ?_))
   refine A8 (A8 (B8 ?_))
   refine Zs (Bv7 h8 rfl fun a9 h9=>wp_ret ?_)
   refine G7 rfl h9 rfl ⟨t,rfl, ?_,A7 hb6 hb7⟩
   have:tot=out:=by
    rw[hT7]
    cases f<;>simp[Dv]
   rw[this]
   exact hZ7.low hb6.size
  | some k=>
   obtain⟨hkN,hk0,hkf⟩:=ho7 k rfl
   obtain⟨f',rfl⟩: ∃f',f=f'+1:=⟨f-1,Zo⟩
   refine wp_seq (Zs (Bd6 (k:=(k:Int)) (b32:=true) h7 rfl (decide_eq_true Zo) fun a8 h8=>wpn (h8.look 32 rfl) ?_))
   obtain⟨u,hu⟩: ∃u,N[k]? =some u:=⟨N[k],List.getElem?_eq_getElem hkN⟩
   obtain⟨y,hy⟩: ∃y,F[k]? =some y:=⟨F[k]'Zo,List.getElem?_eq_getElem _⟩
   obtain⟨r,hr⟩: ∃r,To[k]? =some r:=⟨To[k]'(by have:=hG.same;omega),List.getElem?_eq_getElem _⟩
   have hG7:=hG.old (A7 hb6 hb7)
   obtain⟨nd,nc,l7,hN7⟩:=hG7.things
   obtain⟨g,o,hnd,hc⟩:=G9 hN7 hu
   have hyb:=hfar k y hy
   rw[G0 hy] at hk0 hkf
   have houtl:out.length<=N.length+1:=by
    have:out.length<=tot.length:=by rw[hT7,List.length_append];omega
    omega
   have hst:tot=(out++[u])++if k=ez then[] else Dv N To F ez f' (P6 N F (J6 N F k r)):=by
    rw[hT7,List.append_assoc]
    congr 1
    show N.getD k 0::_=_
    rw[G0 hu,List.getD_eq_getElem?_getD,hr]
    rfl
   obtain⟨s',w9,e1,e2,e3,e4⟩:=ZRow.app' hZ7 Zo hz7 u
   refine wp_block ?_
   refine Zs (Dg4 (x:=u) (nd:=nd) (C0:=fun _ v' x'=>ZRow x' w6.heap.size v' (out++[u])/\Rw w7 x' t v') h8 rfl rfl rfl l7 (by rw[hnd];exact fun w=>D7 hkN w) (H9 Tryz.underlying3 rfl hc) (fun ty=>⟨s',w9,e1 ty,e2,e3,e4⟩) fun a9 t9 w10 hq h9=> ?_)
   obtain⟨hZ9,hW9⟩:=hq
   have hb9:Below w6.heap.size w6 w10:=hb7.trans (hW9.bel (fun g hg=>(ARow.block hZ7 hg).1) hz7)
   have h9:Sl 94 a9 [(12,.slice t9.d t9.n t9.c),(11,ii (k:Int)),(10,.slice (some ⟨fg,0,none⟩) F.length F.length),(9,ii (ez:Int)),(0,pT gp)]:=h9.to ⟨rfl,rfl,rfl,rfl,rfl,trivial⟩
   by_cases hke:k=ez
   ·refine wp_seq (Zs (Bd7 (b45:=true) h9 rfl rfl (decide_eq_true Zo) fun a10 h10=>wp_cond_true (h10.look 45 rfl) ?_))
    refine Zs (Bv0 h10 rfl fun a11 h11=>wp_ret ?_)
    repeat (first | with_reducible refine D2 ?_ | with_reducible refine F1 ?_)
    refine G7 rfl h11 rfl ⟨t9,rfl, ?_,A7 hb6 hb9⟩
    rw[if_pos hke,List.append_nil] at hst
    rw[hst]
    exact hZ9.low hb6.size
   ·refine wp_seq (Zs (Bd7 (b45:=false) h9 rfl rfl (decide_eq_false Zo) fun a10 h10=>B9 (h10.look 45 rfl) ?_))
    rw[if_neg hke] at hst
    refine Zs (Bv1 h10 fun a11 h11=> ?_)
    refine wp_seq (Zs (Bv2 h11 fun a12 h12=> ?_))
    have hz10:=hb9.size
    have hF10:FB w10 fg F:=(hb9.block fg Zo).trans hF6
    have hG10:GrAt w10 gp (fun b=>b<w.heap.size) N To:=hG.keep (fun b hb hl=>(A7 hb6 hb9).block b hl) (fun _ hb _=>hb)
    have hG10':GrAt w10 gp (fun b=>b<w10.heap.size) N To:=hG.old (A7 hb6 hb9)
    have hfw:fg<w10.heap.size:=by omega
    refine Bx9 hG10' (Nat.le_refl _) hF10 hfw hFl hy Zo hr (fr:=[(12,.slice t9.d t9.n t9.c),(9,ii (ez:Int))]) ⟨_,t9,rfl⟩ (fun a13 w13 t13 h13 hZ13 hb13=> ?_) ?_
    ·have hNl: ∀n,n∈J6 N F k r->n<N.length:=fun n hn=>(Dw hn).1
     have hlen:(J6 N F k r).length<=1000000:=by
      refine Nat.le_trans (List.length_filter_le _ _) (Nat.le_trans (List.length_filterMap_le _ _) ?_)
      exact hG.rows r (List.mem_of_getElem? hr)
     obtain⟨p1,p2,_⟩:=ZRow.path hZ13
     rw[p2,Ds] at h13
     have hF13:FB w13 fg F:=(hb13.block fg hfw).trans hF10
     have h13:Sl 94 a13 [(13,.slice t13.d (J6 N F k r).length t13.c),(12,.slice t9.d t9.n t9.c),(10,.slice (some ⟨fg,0,none⟩) F.length F.length),(9,ii (ez:Int)),(0,pT gp)]:=h13.to ⟨rfl,rfl,rfl,rfl,rfl,trivial⟩
     have hgb:=Ku (hG10'.old hb13) p1 hF13.path hFl hNl Zo t13.c F.length
     rw[show zN (J6 N F k r)=(J6 N F k r).map fun k=>((k:Nat):Int) from rfl] at p1
     refine Zl (Bv6 (k:=oI (P6 N F (J6 N F k r))) (C0:=fun v=>Below w13.heap.size w13 v) h13 rfl rfl rfl hgb fun a14 w14 hb14 h14=>B1 ⟨⟨P6 N F (J6 N F k r),f',out++[u],t9, ?_,(hZ9.old hb13).old hb14,A7 hb9 (A7 hb13 hb14),hst,fun n hn=> ?_⟩, ?_⟩)
     ·exact h14.to ⟨rfl,rfl,rfl,rfl,rfl,trivial⟩
     ·have h1:=Hm (J6 N F k r) none (fun _ h=>by cases h) hNl n hn
      have h2:=Bz (J6 N F k r) none (fun _ h=>by cases h) n hn
      rcases Hr _ _ _ hn with h3 | h3
      ·cases h3
      ·have h4:=(Dw h3).2
       rw[G0 hy] at h4
       refine⟨h1,h2, ?_⟩
       omega
     ·rw[h14.look 11 rfl]
      show oF F (ii (oI (P6 N F (J6 N F k r))))<oF F (ii ((k:Nat):Int))
      rw[Zj,G0 hy]
      cases hbn:P6 N F (J6 N F k r) with
      | none=>
       show oF F (ii (-1))<_
       rw[By1]
       omega
      | some n=>
       show oF F (ii ((n:Nat):Int))<_
       rw[Zj]
       rcases Hr _ _ _ hbn with h3 | h3
       ·cases h3
       ·have h4:=(Dw h3).2
        have h2:=Bz (J6 N F k r) none (fun _ h=>by cases h) n hbn
        rw[G0 hy] at h4
        omega
    ·exact h12.to ⟨rfl,rfl,rfl,rfl,rfl,rfl,rfl,trivial⟩
end Go.Proofs.YtbjegfpfmnleeaaGreatDoor
namespace Go.Proofs.YtbjegfpfmnleeaaGreatDoor
theorem Pi{l:List Int}{i j:Nat}{x d:Int}(hi:i<l.length):(l.set i x).getD j d=if j=i then x else l.getD j d:=by
 rw[List.getD_eq_getElem?_getD,List.getD_eq_getElem?_getD,List.getElem?_set]
 by_cases h:i=j
 ·subst h
  rw[if_pos rfl,if_pos hi,if_pos rfl]
  rfl
 ·rw[if_neg h,if_neg (Ne.symm h)]
theorem hits_iff{N F:List Int}{st:Nat}{r:List Int}:P7 N F st r=true↔∃x,x∈r/\∃n,gAt N x=some n/\F.getD n (-1)=(st:Int)-1:=by
 unfold P7
 rw[List.any_eq_true]
 constructor
 ·rintro⟨x,hx,h⟩
  cases hg:gAt N x with
  | none=>rw[Kv hg] at h;cases h
  | some n=>
   rw[Dq hg,decide_eq_true_eq] at h
   exact⟨x,hx,n,hg,h⟩
 ·rintro⟨x,hx,n,hg,h⟩
  exact⟨x,hx,by rw[Dq hg,decide_eq_true_eq];exact h⟩
section
variable {N:List Int} {To:List (List Int)}
theorem Pj{F:List Int}{st:Nat}(hst:1<=st)(hF:F.length=N.length): ∀i,i<=N.length->∀j,j<N.length->
  (Q3 N To F st i).getD j (-1)=if j<i/\F.getD j (-1)<0/\P7 N F st (To.getD j [])=true then(st:Int) else F.getD j (-1)
 | 0,_,j,_=>by
  rw[if_neg Zo]
  rfl
 | i+1,hi,j,hj=>by
  have ih:=Pj (F:=F) (st:=st) hst hF i Zo
  rw[Kx]
  obtain⟨P,hP⟩: ∃P,P=Q3 N To F st i:=⟨_,rfl⟩
  rw[<-hP] at ih ⊢
  have hPl:P.length=N.length:=by rw[hP];exact part_len.trans hF
  have hPi:P.getD i (-1)=F.getD i (-1):=by rw[ih i Zo,if_neg Zo]
  have hh: ∀r,P7 N P st r=P7 N F st r:=fun r=>by
   rw[Bool.eq_iff_iff,hits_iff,hits_iff]
   constructor
   ·rintro⟨x,hx,n,hg,h⟩
    refine⟨x,hx,n,hg, ?_⟩
    have h1:=ih n (D6 hg).2
    split at h1
    ·omega
    ·omega
   ·rintro⟨x,hx,n,hg,h⟩
    refine⟨x,hx,n,hg, ?_⟩
    have h1:=ih n (D6 hg).2
    rw[if_neg Zo] at h1
    omega
  unfold Na
  rw[hPi,hh]
  by_cases h0:0<=F.getD i (-1)
  ·rw[if_pos h0,ih j hj]
   by_cases hji:j=i
   ·subst hji
    rw[if_neg Zo,if_neg Zo]
   ·have:(j<i+1)↔(j<i):=by omega
    simp only[this]
  ·rw[if_neg h0]
   by_cases ht:P7 N F st (To.getD i [])=true
   ·rw[if_pos ht,Pi Zo]
    by_cases hji:j=i
    ·subst hji
     rw[if_pos rfl,if_pos ⟨Zo,Zo,ht⟩]
    ·rw[if_neg hji,ih j hj]
     have:(j<i+1)↔(j<i):=by omega
     simp only[this]
   ·rw[if_neg ht,ih j hj]
    by_cases hji:j=i
    ·subst hji
     rw[if_neg Zo,if_neg (by simp only[ht];simp)]
    ·have:(j<i+1)↔(j<i):=by omega
     simp only[this]
structure DJ (N:List Int) (To:List (List Int)) (tz:Nat) (F:List Int) (s:Nat):Prop where
 len:F.length=N.length
 z:F.getD tz (-1)=0
 z': ∀i,i<N.length->F.getD i (-1)=0->i=tz
 lo: ∀i,i<N.length-> -1<=F.getD i (-1)/\F.getD i (-1)<=(s:Int)
 sp: ∀i,i<N.length->0<F.getD i (-1)->∃x,x∈To.getD i []/\∃n,gAt N x=some n/\F.getD n (-1)=F.getD i (-1)-1
 tp: ∀i,i<N.length->∀x,x∈To.getD i []->∀n,gAt N x=some n->0<=F.getD n (-1)->(F.getD i (-1)<0->(s:Int)<=F.getD n (-1))/\(0<=F.getD i (-1)->F.getD i (-1)<=F.getD n (-1)+1)
theorem DJ.step{tz s:Nat}{F:List Int}(h:DJ N To tz F s)(htz:tz<N.length):DJ N To tz (Au N To F (s+1)) (s+1):=by
 have hG: ∀j,j<N.length->(Au N To F (s+1)).getD j (-1)=if F.getD j (-1)<0/\P7 N F (s+1) (To.getD j [])=true then((s+1:Nat):Int) else F.getD j (-1):=fun j hj=>by
  have:=Pj (To:=To) (st:=s+1) Zo h.len N.length (Nat.le_refl _) j hj
  simp only[hj,true_and] at this
  exact this
 obtain⟨G,hGe⟩: ∃G,G=Au N To F (s+1):=⟨_,rfl⟩
 have hGl:G.length=N.length:=by rw[hGe,Kw,h.len]
 rw[<-hGe] at hG ⊢
 have hpos: ∀j,j<N.length->0<=F.getD j (-1)->G.getD j (-1)=F.getD j (-1):=fun j hj h0=>by rw[hG j hj,if_neg Zo]
 refine⟨hGl, ?_,fun i hi h0=> ?_,fun i hi=> ?_,fun i hi h0=> ?_,fun i hi x hx n hg h0=> ?_⟩
 ·rw[hpos tz htz (by rw[h.z];omega),h.z]
 ·rw[hG i hi] at h0
  split at h0
  ·omega
  ·exact h.z' i hi h0
 ·have:=h.lo i hi
  rw[hG i hi]
  split<;>omega
 ·have hGi:=hG i hi
  by_cases hc:F.getD i (-1)<0/\P7 N F (s+1) (To.getD i [])=true
  ·rw[if_pos hc] at hGi
   obtain⟨x,hx,n,hg,hn⟩:=hits_iff.1 hc.2
   refine⟨x,hx,n,hg, ?_⟩
   rw[hpos n (D6 hg).2 Zo,hGi]
   exact hn
  ·rw[if_neg hc] at hGi
   rw[hGi] at h0 ⊢
   obtain⟨x,hx,n,hg,hn⟩:=h.sp i hi h0
   refine⟨x,hx,n,hg, ?_⟩
   rw[hpos n (D6 hg).2 Zo]
   exact hn
 ·have hnl:=(D6 hg).2
  have hGi:=hG i hi
  have hGn:=hG n hnl
  have hli:=h.lo i hi
  by_cases hcn:F.getD n (-1)<0/\P7 N F (s+1) (To.getD n [])=true
  ·rw[if_pos hcn] at hGn
   rw[hGn]
   refine⟨fun _=>by omega,fun _=> ?_⟩
   rw[hGi]
   split<;>omega
  ·rw[if_neg hcn] at hGn
   rw[hGn] at h0 ⊢
   obtain⟨h1,h2⟩:=h.tp i hi x hx n hg h0
   by_cases hci:F.getD i (-1)<0/\P7 N F (s+1) (To.getD i [])=true
   ·rw[if_pos hci] at hGi
    rw[hGi]
    have:=h1 hci.1
    omega
   ·rw[if_neg hci] at hGi
    rw[hGi]
    refine⟨fun hneg=> ?_,h2⟩
    have h3:=h1 hneg
    have h4:F.getD n (-1)≠(s:Int):=fun e=>hci ⟨hneg,hits_iff.2 ⟨x,hx,n,hg,Zo⟩⟩
    omega
theorem DJ.start{tz:Nat}(htz:tz<N.length):DJ N To tz ((List.replicate N.length (-1)).set tz 0) 0:=by
 have hg: ∀j,((List.replicate N.length (-1:Int)).set tz 0).getD j (-1)=if j=tz then 0 else-1:=fun j=>by
  rw[Pi (by rw[List.length_replicate];exact htz)]
  split
  ·rfl
  ·rw[List.getD_eq_getElem?_getD,List.getElem?_replicate]
   split<;>rfl
 refine⟨by simp,by rw[hg,if_pos rfl],fun i hi h=> ?_,fun i hi=> ?_,fun i hi h=> ?_,fun i hi x hx n hgn h=> ?_⟩
 ·rw[hg] at h
  split at h
  ·assumption
  ·omega
 ·rw[hg]
  split<;>omega
 ·rw[hg] at h
  split at h<;>omega
 ·rw[hg] at h ⊢
  split at h
  ·rename_i hn
   rw[hg n,if_pos hn]
   split<;>omega
  ·omega
theorem DJ.steps{tz:Nat}(htz:tz<N.length): ∀s,DJ N To tz (Z4 N To ((List.replicate N.length (-1)).set tz 0) s) s
 | 0=>DJ.start htz
 | s+1=>by
  rw[U4]
  exact(DJ.steps htz s).step htz
theorem DJ.far{tz:Nat}(htz:tz<N.length):DJ N To tz (Bi N To tz) N.length:=DJ.steps htz N.length
theorem DJ.down{tz s:Nat}{F:List Int}(h:DJ N To tz F s): ∀(j n:Nat),n<N.length->F.getD n (-1)=(j:Int)->∀m,m<=j->(m:Int)∈F
 | j,n,hn,hj,m,hm=>by
  by_cases e:m=j
  ·subst e
   rw[<-hj,List.getD_eq_getElem?_getD,List.getElem?_eq_getElem (by rw[h.len];exact hn)]
   exact List.getElem_mem _
  ·obtain⟨x,_,n',hg,hn'⟩:=h.sp n hn Zo
   exact DJ.down h (j-1) n' (D6 hg).2 Zo m Zo
 termination_by j=>j
 decreasing_by omega
theorem DJ.low{tz s:Nat}{F:List Int}(h:DJ N To tz F s){n:Nat}(hn:n<N.length):F.getD n (-1)<(N.length:Int):=by
 by_cases h0:F.getD n (-1)<0
 ·omega
 ·obtain⟨j,hj⟩: ∃j:Nat,F.getD n (-1)=(j:Int):=⟨(F.getD n (-1)).toNat,Zo⟩
  have h1:=N7 ((List.range (j+1)).map fun k=>((k:Nat):Int)) F (by
   rw[List.nodup_iff_pairwise_ne,List.pairwise_map]
   exact List.nodup_range.imp fun h e=>h Zo) (fun x hx=>by
   obtain⟨m,hm,rfl⟩:=List.mem_map.1 hx
   rw[List.mem_range] at hm
   exact h.down j n hn hj m Zo)
  rw[List.length_map,List.length_range,h.len] at h1
  omega
def By2(N F:List Int)(u:Int):Int:=match gAt N u with
 | some k=>F.getD k (-1)
 | none=> -1
theorem I7{F:List Int}{u:Int}{k:Nat}(h:gAt N u=some k):By2 N F u=F.getD k (-1):=by
 unfold By2
 rw[h]
theorem Q4{u:Int}(h:u∈N): ∃k,gAt N u=some k:=by
 unfold gAt
 rw[if_pos h]
 exact⟨_,rfl⟩
theorem T3{u:Int}{k:Nat}(h:gAt N u=some k):u∈N:=List.mem_of_getElem? (D6 h).1
theorem Cb{u v:Int}{k:Nat}(h:gAt N u=some k)(h':gAt N v=some k):u=v:=by
 have h1:=(D6 h).1
 rw[(D6 h').1] at h1
 injection h1 with h1
 exact h1.symm
variable {L:Int->List Int}
def ToL(N:List Int)(To:List (List Int))(L:Int->List Int):Prop:= ∀(i:Nat) (x:Int),N[i]? =some x->To[i]? =some (L x)
theorem ToL.get(h:ToL N To L){u:Int}{k:Nat}(hg:gAt N u=some k):To.getD k []=L u:=by
 rw[List.getD_eq_getElem?_getD,h k u (D6 hg).1]
 rfl
theorem Zm(hT:ToL N To L){tz:Int}{e:Nat}(he:gAt N tz=some e):Far N L tz (By2 N (Bi N To e)):=by
 have hD:=DJ.far (To:=To) (D6 he).2
 obtain⟨F,hF⟩: ∃F,F=Bi N To e:=⟨_,rfl⟩
 rw[<-hF] at hD ⊢
 refine⟨by rw[I7 he,hD.z],fun u hu h0=> ?_,fun u hu h0=> ?_,fun u hu n hn hk h0=> ?_⟩
 ·obtain⟨k,hk⟩:=Q4 hu
  rw[I7 hk] at h0
  have:=hD.z' k (D6 hk).2 h0
  subst this
  exact Cb hk he
 ·obtain⟨k,hk⟩:=Q4 hu
  rw[I7 hk] at h0 ⊢
  obtain⟨x,hx,n,hg,hn⟩:=hD.sp k (D6 hk).2 h0
  rw[hT.get hk] at hx
  exact⟨x,hx,T3 hg,by rw[I7 hg];exact hn⟩
 ·obtain⟨k,hku⟩:=Q4 hu
  obtain⟨m,hm⟩:=Q4 hk
  rw[I7 hm] at h0 ⊢
  rw[I7 hku]
  obtain⟨h1,h2⟩:=hD.tp k (D6 hku).2 n (by rw[hT.get hku];exact hn) m hm h0
  have h3:=hD.low (D6 hm).2
  have h4:0<=F.getD k (-1):=by
   by_cases h5:F.getD k (-1)<0
   ·have:=h1 h5
    omega
   ·omega
  exact⟨h4,h2 h4⟩
def BestOf(N F:List Int)(L:List Nat):Option Nat->Prop
 | none=> ∀k,k∈L->F.getD k (-1)<0
 | some p=>p∈L/\0<=F.getD p (-1)/\∀k,k∈L->0<=F.getD k (-1)->F.getD p (-1)<F.getD k (-1)\/(F.getD p (-1)=F.getD k (-1)/\N.getD p 0<=N.getD k 0)
theorem BestOf.step{F:List Int}{S:List Nat}{o:Option Nat}(h:BestOf N F S o)(k:Nat):BestOf N F (S++[k]) (H3 N F o k):=by
 unfold H3
 by_cases hk:F.getD k (-1)<0
 ·rw[if_pos hk]
  cases o with
  | none=>
   intro x hx
   rcases List.mem_append.1 hx with hx | hx
   ·exact h x hx
   ·rw[List.mem_singleton.1 hx]
    exact hk
  | some p=>
   obtain⟨h1,h2,h3⟩:=h
   refine⟨List.mem_append_left _ h1,h2,fun x hx h0=> ?_⟩
   rcases List.mem_append.1 hx with hx | hx
   ·exact h3 x hx h0
   ·rw[List.mem_singleton.1 hx] at h0
    omega
 ·rw[if_neg hk]
  cases o with
  | none=>
   refine⟨List.mem_append_right _ (List.mem_singleton.2 rfl),Zo,fun x hx h0=> ?_⟩
   rcases List.mem_append.1 hx with hx | hx
   ·have:=h x hx
    omega
   ·rw[List.mem_singleton.1 hx]
    exact .inr ⟨rfl,Zo⟩
  | some p=>
   obtain⟨h1,h2,h3⟩:=h
   by_cases hc:F.getD k (-1)<F.getD p (-1)\/(F.getD k (-1)=F.getD p (-1)/\N.getD k 0<N.getD p 0)
   ·simp only[if_pos hc]
    refine⟨List.mem_append_right _ (List.mem_singleton.2 rfl),Zo,fun x hx h0=> ?_⟩
    rcases List.mem_append.1 hx with hx | hx
    ·have:=h3 x hx h0
     omega
    ·rw[List.mem_singleton.1 hx]
     exact .inr ⟨rfl,Zo⟩
   ·simp only[if_neg hc]
    refine⟨List.mem_append_left _ h1,h2,fun x hx h0=> ?_⟩
    rcases List.mem_append.1 hx with hx | hx
    ·exact h3 x hx h0
    ·rw[List.mem_singleton.1 hx]
     omega
theorem BestOf.fold{F:List Int}: ∀(T S:List Nat) (o:Option Nat),BestOf N F S o->BestOf N F (S++T) (T.foldl (H3 N F) o)
 | [],S,o,h=>by rw[List.append_nil];exact h
 | k::r,S,o,h=>by
  have:=BestOf.fold r (S++[k]) _ (h.step k)
  rw[List.append_assoc] at this
  exact this
theorem Zn{F:List Int}(L:List Nat):BestOf N F L (P6 N F L):=BestOf.fold L [] none fun _ h=>by cases h
theorem Zp(hT:ToL N To L){tz:Int}{e:Nat}(he:gAt N tz=some e): ∀(f:Nat) (k:Nat) (u:Int),gAt N u=some k->0<=(Bi N To e).getD k (-1)->((Bi N To e).getD k (-1)).toNat<f->
  Gr N L (By2 N (Bi N To e)) tz u (Dv N To (Bi N To e) e f (some k))
 | 0,_,_,_,_,h=>absurd h (Nat.not_lt_zero _)
 | f+1,k,u,hk,h0,hf=>by
  have hfar:=Zm hT he
  unfold Dv
  rw[G0 (D6 hk).1]
  by_cases hke:k=e
  ·subst hke
   rw[if_pos rfl,Cb hk he]
   exact .one
  ·rw[if_neg hke]
   have hpos:0<By2 N (Bi N To e) u:=by
    rcases Int.lt_or_eq_of_le h0 with h | h
    ·rw[I7 hk]
     exact h
    ·exfalso
     have:=hfar.z' u (T3 hk) (by rw[I7 hk];exact h.symm)
     subst this
     rw[he] at hk
     injection hk with hk
     exact hke hk.symm
   rw[hT.get hk]
   have hmem: ∀y,y∈L u->y∈N->By2 N (Bi N To e) y=By2 N (Bi N To e) u-1->∃m,gAt N y=some m/\m∈J6 N (Bi N To e) k (L u):=fun y h1 h2 h3=>by
    obtain⟨m,hm⟩:=Q4 h2
    refine⟨m,hm, ?_⟩
    unfold J6
    rw[List.mem_filter]
    refine⟨List.mem_filterMap.2 ⟨y,h1,hm⟩, ?_⟩
    rw[I7 hm,I7 hk] at h3
    exact decide_eq_true h3
   have hb:=Zn (N:=N) (F:=Bi N To e) (J6 N (Bi N To e) k (L u))
   cases hbn:P6 N (Bi N To e) (J6 N (Bi N To e) k (L u)) with
   | none=>
    rw[hbn] at hb
    obtain⟨x,hx,hxK,hfx⟩:=hfar.s u (T3 hk) hpos
    obtain⟨m,hm,hin⟩:=hmem x hx hxK hfx
    have h1:=hb m hin
    rw[I7 hm] at hfx
    omega
   | some n=>
    rw[hbn] at hb
    obtain⟨h1,h2,h3⟩:=hb
    have hn:=Dw h1
    obtain⟨x,hx,hgx⟩: ∃x,x∈L u/\gAt N x=some n:=by
     unfold J6 at h1
     rw[List.mem_filter] at h1
     obtain⟨x,hx,hg⟩:=List.mem_filterMap.1 h1.1
     exact⟨x,hx,hg⟩
    rw[I7 hk] at hpos
    refine .step (T3 hk) hx (T3 hgx) (by rw[I7 hgx,I7 hk];exact hn.2) (by rw[I7 hk];exact hpos) (fun y hy hyK hfy=> ?_) (Zp hT he f n x hgx h2 Zo)
    obtain⟨m,hm,hin⟩:=hmem y hy hyK hfy
    have hm2:=(Dw hin).2
    have h4:=h3 m hin Zo
    rw[G0 (D6 hgx).1,G0 (D6 hm).1] at h4
    omega
theorem to_mem{P:List Int}{k:Nat}:k∈gTo N P↔∃x,x∈P/\gAt N x=some k:=List.mem_filterMap
theorem Ao5(hT:ToL N To L){R P:List Int}{D:DD}(hB:Bf N R L D.length D.length D)(hRP: ∀x,x∈R↔x∈P)(z:Int):Cd9 N To (gTo N P) z=Cd1 D z:=by
 unfold Cd9
 cases hz:gAt N z with
 | none=>
  have hzK:z∉N:=fun h=>by
   obtain⟨k,hk⟩:=Q4 h
   rw[hk] at hz
   cases hz
  refine(Gg fun h=> ?_).symm
  obtain⟨p,hp⟩:=(Cg hB z).1 h
  exact hzK (Iq hp)
 | some e=>
  have hfar:=Zm hT hz
  have hb:=Zn (N:=N) (F:=Bi N To e) (gTo N P)
  have hroot: ∀u,u∈R->u∈N->∃k,gAt N u=some k/\k∈gTo N P:=fun u hu hk=>by
   obtain⟨k,hg⟩:=Q4 hk
   exact⟨k,hg,to_mem.2 ⟨u,(hRP u).1 hu,hg⟩⟩
  show Dv N To (Bi N To e) e (N.length+1) _=_
  cases hbn:P6 N (Bi N To e) (gTo N P) with
  | none=>
   rw[hbn] at hb
   show[]=_
   refine(Gg fun h=> ?_).symm
   obtain⟨p,hp⟩:=(Cg hB z).1 h
   refine Ch4 hfar (fun u hu hk=> ?_) p hp
   obtain⟨k,hg,hin⟩:=hroot u hu hk
   rw[I7 hg]
   exact hb k hin
  | some r=>
   rw[hbn] at hb
   obtain⟨h1,h2,h3⟩:=hb
   obtain⟨x,hx,hgx⟩:=to_mem.1 h1
   have hlow:=(DJ.far (To:=To) (D6 hz).2).low (D6 hgx).2
   have hgr:=Zp hT hz (N.length+1) r x hgx h2 Zo
   obtain⟨j,hj,e1,e2⟩:=Iw hfar hB ((hRP x).2 hx) (T3 hgx) hgr (fun u hu hk hp=>by
    obtain⟨k,hg,hin⟩:=hroot u hu hk
    rw[I7 hg] at hp ⊢
    rw[I7 hgx]
    have:=h3 k hin hp
    rw[G0 (D6 hgx).1,G0 (D6 hg).1] at this
    exact this)
   have:=Sx hB.nodup hj
   rw[e1,e2] at this
   exact this.symm
theorem Pk(hT:ToL N To L){R P:List Int}(hRP: ∀x,x∈R↔x∈P){u:Int}{k:Nat}(hg:gAt N u=some k):GRch N To (gTo N P) k↔∃p,Pth N R L p u:=by
 constructor
 ·intro h
  induction h generalizing u with
  | base h=>
   obtain⟨x,hx,hgx⟩:=to_mem.1 h
   obtain rfl:=Cb hg hgx
   exact⟨_,.root ((hRP u).2 hx) (T3 hg)⟩
  | step h1 h2 h3 h4 ih=>
   rename_i k n r x
   have hkl:k<N.length:=by
    cases h1 with
    | base h=>obtain⟨x,_,hgx⟩:=to_mem.1 h;exact(D6 hgx).2
    | step _ _ _ h=>exact(D6 h).2
   have hgk:gAt N N[k]=some k\/True:=.inr trivial
   obtain⟨v,hv⟩: ∃v,gAt N v=some k:=by
    cases h1 with
    | base h=>obtain⟨x,_,hgx⟩:=to_mem.1 h;exact⟨x,hgx⟩
    | step _ _ _ h=>exact⟨_,h⟩
   obtain⟨p,hp⟩:=ih hv
   have h5:=hT k v (D6 hv).1
   rw[h2] at h5
   injection h5 with h5
   subst h5
   obtain rfl:=Cb hg h4
   exact⟨_,.step hp h3 (T3 hg)⟩
 ·rintro⟨p,hp⟩
  induction hp generalizing k with
  | root a b=>exact .base (to_mem.2 ⟨_,(hRP _).1 a,hg⟩)
  | step a b c ih=>
   obtain⟨m,hm⟩:=Q4 (Iq a)
   exact .step (ih hm) (hT m _ (D6 hm).1) b hg
theorem Ao6{S:List Bool}(hN:N.Nodup){x:Int}:x∈Ky N S↔∃k,gAt N x=some k/\S[k]? =some true:=by
 unfold Ky
 rw[List.mem_map]
 constructor
 ·rintro⟨⟨y,b⟩,h1,rfl⟩
  rw[List.mem_filter] at h1
  obtain⟨h1,h2⟩:=h1
  obtain⟨k,hk⟩:=List.getElem?_of_mem h1
  rw[List.getElem?_zip_eq_some] at hk
  have h2:b=true:=h2
  subst h2
  refine⟨k, ?_,hk.2⟩
  refine Yy hk.1 fun h=> ?_
  obtain⟨i,hi⟩:=List.getElem?_of_mem h
  have hil:=(List.getElem?_eq_some_iff.1 hi).1
  rw[List.length_take] at hil
  rw[List.getElem?_take_of_lt Zo] at hi
  have:=(List.getElem?_inj (by omega:i<N.length) hN).1 (hi.trans hk.1.symm)
  omega
 ·rintro⟨k,hk,hS⟩
  refine⟨(x,true),List.mem_filter.2 ⟨List.mem_of_getElem? (i:=k) ?_,rfl⟩,rfl⟩
  rw[List.getElem?_zip_eq_some]
  exact⟨(D6 hk).1,hS⟩
theorem Zq{S:List Bool}(hN:N.Pairwise (· < ·))(hl:S.length=N.length):(Ky N S).Pairwise (· < ·):=by
 unfold Ky
 refine List.Pairwise.sublist ?_ hN
 have h1:((N.zip S).filter (·.2)).Sublist (N.zip S):=List.filter_sublist
 have h2:=h1.map (·.1)
 rw[List.map_fst_zip Zo] at h2
 exact h2
theorem Rs(hL:LOk L)(hT:ToL N To L)(hN:N.Pairwise (· < ·)){R P:List Int}(hp:R.Pairwise (· <= ·))(hRP: ∀x,x∈R↔x∈P){S:List Bool}(hSl:S.length=N.length)(hS: ∀k:Nat,S[k]? =some true↔GRch N To (gTo N P) k):Ky N S=N1 N L R:=by
 have hNd:N.Nodup:=hN.imp fun h e=>by omega
 refine N6 (Zq hN hSl) (Bq hL hp) fun x=> ?_
 rw[Ao6 hNd,R6 hL hp]
 constructor
 ·rintro⟨k,hk,h⟩
  exact(Pk hT hRP hk).1 ((hS k).1 h)
 ·rintro⟨p,h⟩
  obtain⟨k,hk⟩:=Q4 (Iq h)
  exact⟨k,hk,(hS k).2 ((Pk hT hRP hk).2 ⟨p,h⟩)⟩
end
end Go.Proofs.YtbjegfpfmnleeaaGreatDoor
