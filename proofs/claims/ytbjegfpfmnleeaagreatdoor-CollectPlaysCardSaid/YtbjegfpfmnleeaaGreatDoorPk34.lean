/-
   Written by an AI agent.
-/
import Derived.Test.YtbjegfpfmnleeaaGreatDoorPk33
namespace Go.Proofs.YtbjegfpfmnleeaaGreatDoor
open Go.RowKit Go.Maps
set_option maxRecDepth 100000
theorem Zb{N P r:List Int}{st k:Nat}{x:Int}(hx:r[k]? =some x):P7 N P st (r.take (k+1))=(P7 N P st (r.take k)||Cd8 N P st x):=by
 unfold P7
 rw[List.take_add_one,hx,List.any_append]
 simp
theorem P1{g o n c i:Nat}(hi:i<n)(w:World):(Instr.indexAt 31 (.slice (some ⟨g,o,none⟩) n c) (ii (i:Int))).run Tryz.prog w=.ok (.pointer (some ⟨g,o+i*1,none⟩)) w:=
 J2 i Tryz.underlying31 (show(Tryz.prog.info? 24).map (·.size)=some 1 by kernel_rfl) hi w
theorem An9(n i:Nat)(h:i<n):(List.replicate i (-1:Int)++List.replicate (n-i) 0).set i (-1)=List.replicate (i+1) (-1)++List.replicate (n-(i+1)) 0:=by
 obtain⟨k,hk⟩: ∃k,n-i=k+1:=⟨n-i-1,Zo⟩
 rw[hk,List.set_append_right _ _ (by simp),List.length_replicate,Nat.sub_self,List.replicate_succ,List.set_cons_zero,List.replicate_succ',List.append_assoc,show n-(i+1)=k by omega]
 rfl
theorem GrAt.row{w:World}{gp:Nat}{S:Nat->Prop}{N:List Int}{To:List (List Int)}(h:GrAt w gp S N To){i:Nat}{r:List Int}(hr:To[i]? =some r):
  ∃(td:Option Addr) (tc g o:Nat) (rd:Option Addr) (rc:Nat),Lds Tryz.prog 31 (.pointer (some ⟨gp,1,none⟩)) (.slice td To.length tc) w/\td=some ⟨g,o,none⟩/\Lds Tryz.prog 24 (.pointer (some ⟨g,o+i*1,none⟩)) (.slice rd r.length rc) w/\PathAt w S rd r:=by
 obtain⟨nd,nc,td,tc,hX,_,hT⟩:=h.blk
 obtain⟨g,o,rd,rc,e1,_,e3,e4⟩:=hT i r hr
 exact⟨td,tc,g,o,rd,rc,A9 hX Tryz.underlying31 rfl rfl,e1,H9 Tryz.underlying24 rfl e3,e4⟩
theorem GrAt.things{w:World}{gp:Nat}{S:Nat->Prop}{N:List Int}{To:List (List Int)}(h:GrAt w gp S N To):
  ∃(nd:Option Addr) (nc:Nat),Lds Tryz.prog 24 (pT gp) (.slice nd N.length nc) w/\PathAt w S nd N:=by
 obtain⟨nd,nc,td,tc,hX,hN,_⟩:=h.blk
 exact⟨nd,nc,A9 hX Tryz.underlying24 rfl rfl,hN⟩
def Ad7(w:World)(gp:Nat)(n:Nat)(fr:List (Nat×Value))(F:List Int)(a:Act)(v:World):Prop:=
 Sl 92 a (fr++[(5,.slice (some ⟨w.heap.size,0,none⟩) n n),(0,pT gp)])/\FB v w.heap.size F/\Below w.heap.size w v
set_option maxHeartbeats 2000000 in
theorem Dk1{w:World}{gp:Nat}{N:List Int}{To:List (List Int)}(hG:GrAt w gp (fun b=>b<w.heap.size) N To){P r:List Int}(hP:P.length=N.length){i st:Nat}(hi:To[i]? =some r)(hneg:P.getD i (-1)<0)(hst:1<=st)(hfar:st<=1000000)
  {K:Exit->Act->World->Prop} (hK: ∀a v,Ad7 w gp N.length [(8,ii (i:Int)),(7,ii (st:Int))] (if P7 N P st r then P.set i (st:Int) else P) a v->K .normal a v) {a:Act} {v:World} (h:Ad7 w gp N.length [(9,ii 0),(8,ii (i:Int)),(7,ii (st:Int))] P a v):
  (Code.block 6 (.loop Bu0)).wp Tryz.prog K a v:=by
 have hiN:i<N.length:=by have:=(List.getElem?_eq_some_iff.1 hi).1;have:=hG.same;omega
 have hrl:r.length<=1000000:=hG.rows r (List.mem_of_getElem? hi)
 refine wp_block ?_
 refine wp_loop (fun a' wr=> ∃k:Nat,k<=r.length/\Ad7 w gp N.length [(9,ii (k:Int)),(8,ii (i:Int)),(7,ii (st:Int))] (if P7 N P st (r.take k) then P.set i (st:Int) else P) a' wr) (fun a' _=>G1 r.length (F9 a' 9))
  ⟨0,Nat.zero_le _,by simpa[P7] using h⟩ ?_
 rintro a4 w4 ⟨k,hk,h4,hF4,hb4⟩
 rw[h4.look 9 rfl,B4]
 unfold Bu0
 obtain⟨C,hC⟩: ∃C,C=(if P7 N P st (r.take k) then P.set i (st:Int) else P):=⟨_,rfl⟩
 have hCl:C.length=N.length:=by
  rw[hC]
  split
  ·rw[List.length_set,hP]
  ·exact hP
 rw[<-hC] at hF4
 have hz4:=hb4.size
 have hG4:GrAt w4 gp (fun b=>b<w4.heap.size) N To:=hG.old hb4
 obtain⟨td,tc,g,o,rd,rc,l1,rfl,l2,hR⟩:=hG4.row hi
 by_cases hlt:k<r.length
 ·refine wp_seq (Zs (Yj (rn:=r.length) (b61:=true) h4 rfl rfl rfl l1 (fun w=>P1 (by have:=hG.same;omega) w) l2 (decide_eq_true Zo) fun a5 h5=>wpn (h5.look 61 rfl) ?_))
  obtain⟨x,hx⟩: ∃x,r[k]? =some x:=⟨r[k],List.getElem?_eq_getElem hlt⟩
  obtain⟨g2,o2,hrd,hc2⟩:=G9 hR hx
  have hht:=Zb (N:=N) (P:=P) (st:=st) hx
  obtain⟨mid,hmid⟩: ∃mid:Act->World->Prop,mid=Ad7 w gp N.length [(9,ii (k:Int)),(8,ii (i:Int)),(7,ii (st:Int))] (if P7 N P st (r.take (k+1)) then P.set i (st:Int) else P):=⟨_,rfl⟩
  refine wp_seq (Code.wp_mono (Q:=fun e a' w'=>e=.normal/\mid a' w') ?_ ?_)
  ·rintro e a7 w7 ⟨rfl,hr⟩
   rw[hmid] at hr
   obtain⟨h7,hF7,hb7⟩:=hr
   show Code.wp _ (G2 16) _ a7 w7
   refine Zl (Bu5 h7 rfl Zo fun a8 h8=>⟨⟨k+1,hlt,h8.to ⟨rfl,rfl,rfl,rfl,rfl,trivial⟩,hF7,hb7⟩, ?_⟩)
   rw[h8.look 9 rfl]
   show G1 r.length (ii ((k+1:Nat):Int))<_
   rw[B4]
   omega
  ·refine wp_block ?_
   refine Zs (Bu6 (x:=x) (n:=oI (gAt N x)) (rd:=rd) (C0:=fun w'=>w4=w') h5 rfl rfl rfl l1 (fun w=>P1 (by have:=hG.same;omega) w) l2 (by rw[hrd];exact fun w=>D7 hlt w) (H9 Tryz.underlying3 rfl hc2) (Dn hG4 x) fun a6 w5 hq h6=> ?_)
   subst hq
   cases hg:gAt N x with
   | none=>
    rw[hg] at h6
    rw[Kv hg] at hht
    refine Zs (Yk (n:= -1) h6 rfl Zd fun a7 h7=> ?_)
    refine B9 (h7.look 86 rfl) (B1 ⟨rfl, ?_⟩)
    rw[hmid,hht,Bool.or_false,<-hC]
    exact⟨h7.to ⟨rfl,rfl,rfl,rfl,rfl,trivial⟩,hF4,hb4⟩
   | some n=>
    rw[hg] at h6
    rw[Dq hg] at hht
    have hn:=(D6 hg).2
    obtain⟨y,hy⟩: ∃y,C[n]? =some y:=⟨C[n]'Zo,List.getElem?_eq_getElem _⟩
    have hyP:y=(st:Int)-1↔P.getD n (-1)=(st:Int)-1:=by
     rw[hC] at hy
     split at hy
     ·rw[List.getElem?_set] at hy
      split at hy
      ·rename_i hin
       subst hin
       split at hy
       ·injection hy with hy
        omega
       ·cases hy
      ·rw[G0 hy]
     ·rw[G0 hy]
    by_cases hys:y=(st:Int)-1
    ·refine Zs (Kr (n:=(n:Int)) (x:=y) (b85:=true) h6 rfl rfl rfl (decide_eq_true Zo) (fun w=>D7 Zo w) (H9 Tryz.underlying3 rfl (hF4.cell hy)) Zo (decide_eq_true hys) fun a7 h7=> ?_)
     refine wp_cond_true (h7.look 86 rfl) (Zl (Bu7 h7 rfl rfl rfl (fun w=>D7 Zo w) (hF4.st (i:=i) Zo (st:Int)) fun a8 h8=>B1 ⟨rfl, ?_⟩))
     rw[hmid,hht,decide_eq_true (hyP.1 hys),Bool.or_true,if_pos rfl]
     refine⟨h8.to ⟨rfl,rfl,rfl,rfl,rfl,trivial⟩, ?_,C8 _ _ _ hb4 (Nat.le_refl _)⟩
     have:=hF4.set i (st:Int)
     rw[hC] at this
     split at this
     ·rw[List.set_set] at this
      exact this
     ·exact this
    ·refine Zs (Kr (n:=(n:Int)) (x:=y) (b85:=false) h6 rfl rfl rfl (decide_eq_true Zo) (fun w=>D7 Zo w) (H9 Tryz.underlying3 rfl (hF4.cell hy)) Zo (decide_eq_false hys) fun a7 h7=> ?_)
     refine B9 (h7.look 86 rfl) (B1 ⟨rfl, ?_⟩)
     rw[hmid,hht,decide_eq_false (fun e=>hys (hyP.2 e)),Bool.or_false,<-hC]
     exact⟨h7.to ⟨rfl,rfl,rfl,rfl,rfl,trivial⟩,hF4,hb4⟩
 ·refine wp_seq (Zs (Yj (rn:=r.length) (b61:=false) h4 rfl rfl rfl l1 (fun w=>P1 (by have:=hG.same;omega) w) l2 (decide_eq_false Zo) fun a5 h5=>C9 (h5.look 61 rfl) ?_))
  refine A8 (A8 (B8 (hK _ _ ?_)))
  obtain rfl:k=r.length:=by omega
  rw[List.take_length] at hC
  rw[<-hC]
  exact⟨h5.to ⟨rfl,rfl,rfl,rfl,trivial⟩,hF4,hb4⟩
set_option maxHeartbeats 2000000 in
theorem Ze{w:World}{gp:Nat}{N:List Int}{To:List (List Int)}(hG:GrAt w gp (fun b=>b<w.heap.size) N To){P:List Int}(hP:P.length=N.length){st:Nat}(hst:1<=st)(hfar:st<=1000000)
  {K:Exit->Act->World->Prop} (hK: ∀a v,Ad7 w gp N.length [(7,ii (st:Int))] (Au N To P st) a v->K .normal a v) {a:Act} {v:World} (h:Ad7 w gp N.length [(8,ii 0),(7,ii (st:Int))] P a v):
  (Code.block 4 (.loop Bu1)).wp Tryz.prog K a v:=by
 have hNf:=hG.far
 refine wp_block ?_
 refine wp_loop (fun a' wr=> ∃i:Nat,i<=N.length/\Ad7 w gp N.length [(8,ii (i:Int)),(7,ii (st:Int))] (Q3 N To P st i) a' wr) (fun a' _=>G1 N.length (F9 a' 8))
  ⟨0,Nat.zero_le _,h⟩ ?_
 rintro a4 w4 ⟨i,hi,h4,hF4,hb4⟩
 rw[h4.look 8 rfl,B4]
 unfold Bu1
 have hG4:GrAt w4 gp (fun b=>b<w4.heap.size) N To:=hG.old hb4
 obtain⟨nd,nc,l1,_⟩:=hG4.things
 have hCl:(Q3 N To P st i).length=N.length:=part_len.trans hP
 by_cases hlt:i<N.length
 ·refine wp_seq (Zs (Yh (nn:=N.length) (b44:=true) h4 rfl rfl l1 (decide_eq_true Zo) fun a5 h5=>wpn (h5.look 44 rfl) ?_))
  obtain⟨r,hr⟩: ∃r,To[i]? =some r:=⟨To[i]'(by have:=hG.same;omega),List.getElem?_eq_getElem _⟩
  obtain⟨x,hx⟩: ∃x,(Q3 N To P st i)[i]? =some x:=⟨(Q3 N To P st i)[i]'Zo,List.getElem?_eq_getElem _⟩
  have hpt:Q3 N To P st (i+1)=Na N To st (Q3 N To P st i) i:=Kx
  obtain⟨mid,hmid⟩: ∃mid:Act->World->Prop,mid=Ad7 w gp N.length [(8,ii (i:Int)),(7,ii (st:Int))] (Q3 N To P st (i+1)):=⟨_,rfl⟩
  refine wp_seq (Code.wp_mono (Q:=fun e a' w'=>e=.normal/\mid a' w') ?_ ?_)
  ·rintro e a7 w7 ⟨rfl,hr⟩
   rw[hmid] at hr
   obtain⟨h7,hF7,hb7⟩:=hr
   show Code.wp _ (G2 12) _ a7 w7
   refine Zl (Bu3 h7 rfl Zo fun a8 h8=>⟨⟨i+1,hlt,h8.to ⟨rfl,rfl,rfl,rfl,trivial⟩,hF7,hb7⟩, ?_⟩)
   rw[h8.look 8 rfl]
   show G1 N.length (ii ((i+1:Nat):Int))<_
   rw[B4]
   omega
  ·refine wp_block ?_
   by_cases h0:0<=x
   ·refine wp_seq (Zs (Yi (x:=x) (b51:=true) h5 rfl rfl (fun w=>D7 Zo w) (H9 Tryz.underlying3 rfl (hF4.cell hx)) (decide_eq_true h0) fun a6 h6=>wp_cond_true (h6.look 51 rfl) (wp_exit (A8 (B8 ⟨rfl, ?_⟩)))))
    rw[hmid,hpt]
    have:Na N To st (Q3 N To P st i) i=Q3 N To P st i:=by
     unfold Na
     rw[G0 hx,if_pos h0]
    rw[this]
    exact⟨h6.to ⟨rfl,rfl,rfl,rfl,trivial⟩,hF4,hb4⟩
   ·refine wp_seq (Zs (Yi (x:=x) (b51:=false) h5 rfl rfl (fun w=>D7 Zo w) (H9 Tryz.underlying3 rfl (hF4.cell hx)) (decide_eq_false h0) fun a6 h6=>B9 (h6.look 51 rfl) ?_))
    refine Zs (Bu4 h6 fun a7 h7=> ?_)
    refine Dk1 hG hCl hr (by rw[G0 hx];omega) hst hfar (fun a8 w8 h8=>B1 ⟨rfl, ?_⟩) ⟨h7.to ⟨rfl,rfl,rfl,rfl,rfl,trivial⟩,hF4,hb4⟩
    rw[hmid,hpt]
    have:Na N To st (Q3 N To P st i) i=if P7 N (Q3 N To P st i) st r then(Q3 N To P st i).set i (st:Int) else Q3 N To P st i:=by
     unfold Na
     rw[G0 hx,if_neg h0,List.getD_eq_getElem?_getD,hr]
     rfl
    rw[this]
    exact h8
 ·refine wp_seq (Zs (Yh (nn:=N.length) (b44:=false) h4 rfl rfl l1 (decide_eq_false Zo) fun a5 h5=>C9 (h5.look 44 rfl) ?_))
  refine A8 (A8 (B8 (hK _ _ ?_)))
  obtain rfl:i=N.length:=by omega
  exact⟨h5.to ⟨rfl,rfl,rfl,trivial⟩,hF4,hb4⟩
set_option maxHeartbeats 2000000 in
theorem Ao0{w:World}{gp:Nat}{N:List Int}{To:List (List Int)}(hG:GrAt w gp (fun b=>b<w.heap.size) N To){tz:Nat}(ht:tz<N.length):
  Calls Tryz.prog 33 #[pT gp,ii (tz:Int)] w fun e w'=>e=.returned (.slice (some ⟨w.heap.size,0,none⟩) N.length N.length)/\FB w' w.heap.size (Bi N To tz)/\Below w.heap.size w w':=by
 have hNf:=hG.far
 refine B6 (vs:=[pT gp,ii (tz:Int)]) 92 Tryz.func33 Am9 Zk (by simp) fun a0 h0=> ?_
 unfold Yg
 refine Zs (De1 h0 fun a1 h1=> ?_)
 obtain⟨nd,nc,l1,_⟩:=hG.things
 obtain⟨w1,m1,hF1,hb1⟩:=Dk0 N.length hNf w
 refine Zs (De2 h1 rfl l1 m1 fun a2 h2=> ?_)
 obtain⟨mid,hmid⟩: ∃mid:Act->World->Prop,mid=fun a' v=>Sl 92 a' [(5,.slice (some ⟨w.heap.size,0,none⟩) N.length N.length),(0,pT gp),(1,ii (tz:Int))]/\FB v w.heap.size (List.replicate N.length (-1))/\Below w.heap.size w v:=⟨_,rfl⟩
 refine wp_seq (Code.wp_mono (Q:=fun e a' w'=>e=.normal/\mid a' w') ?_ ?_)
 ·rintro e a3 w3 ⟨rfl,hr⟩
  rw[hmid] at hr
  obtain⟨h3,hF3,hb3⟩:=hr
  show Code.wp _ _ _ a3 w3
  refine Zs (De6 h3 rfl rfl (fun w=>D7 ht w) (hF3.st (i:=tz) (by simpa using ht) 0) fun a4 h4=> ?_)
  have hF4:=hF3.set tz 0
  have hb4:Below w.heap.size w (w3.setCells w.heap.size (0+tz*1) [ii 0]):=C8 _ _ _ hb3 (Nat.le_refl _)
  generalize w3.setCells w.heap.size (0+tz*1) [ii 0]=w4 at hF4 hb4
  obtain⟨F0,hF0⟩: ∃F0,F0=(List.replicate N.length (-1:Int)).set tz 0:=⟨_,rfl⟩
  rw[<-hF0] at hF4
  have hFl:F0.length=N.length:=by rw[hF0,List.length_set,List.length_replicate]
  refine wp_seq (Zs (De7 h4 fun a5 h5=> ?_))
  refine wp_block ?_
  refine wp_loop (fun a' wr=> ∃s:Nat,s<=N.length/\Ad7 w gp N.length [(7,ii ((s+1:Nat):Int))] (Z4 N To F0 s) a' wr) (fun a' _=>G1 (N.length+1) (F9 a' 7))
   ⟨0,Nat.zero_le _,h5.to ⟨rfl,rfl,rfl,trivial⟩,hF4,hb4⟩ ?_
  rintro a6 w6 ⟨s,hs,h6,hF6,hb6⟩
  rw[h6.look 7 rfl,B4]
  unfold Dd9
  obtain⟨nd6,nc6,l6,_⟩:=(hG.old hb6).things
  by_cases hlt:s<N.length
  ·refine wp_seq (Zs (Bd2 (nn:=N.length) (b35:=true) h6 rfl rfl l6 (decide_eq_true Zo) fun a7 h7=>wpn (h7.look 35 rfl) ?_))
   obtain⟨mid2,hmid2⟩: ∃mid2:Act->World->Prop,mid2=Ad7 w gp N.length [(7,ii ((s+1:Nat):Int))] (Z4 N To F0 (s+1)):=⟨_,rfl⟩
   refine wp_seq (Code.wp_mono (Q:=fun e a' w'=>e=.normal/\mid2 a' w') ?_ ?_)
   ·rintro e a8 w8 ⟨rfl,hr⟩
    rw[hmid2] at hr
    obtain⟨h8,hF8,hb8⟩:=hr
    show Code.wp _ (G2 9) _ a8 w8
    refine Zl (De8 h8 rfl Zo fun a9 h9=>⟨⟨s+1,hlt,h9.to ⟨rfl,rfl,rfl,trivial⟩,hF8,hb8⟩, ?_⟩)
    rw[h9.look 7 rfl]
    show G1 (N.length+1) (ii ((s+1+1:Nat):Int))<_
    rw[B4]
    omega
   ·refine wp_block ?_
    refine Zs (Bu2 h7 fun a8 h8=> ?_)
    refine Ze hG ((Dr s).trans hFl) Zo Zo (fun a9 w9 h9=>B1 ⟨rfl, ?_⟩) ⟨h8.to ⟨rfl,rfl,rfl,rfl,trivial⟩,hF6,hb6⟩
    rw[hmid2,U4]
    exact h9
  ·refine wp_seq (Zs (Bd2 (nn:=N.length) (b35:=false) h6 rfl rfl l6 (decide_eq_false Zo) fun a7 h7=>C9 (h7.look 35 rfl) ?_))
   refine A8 (A8 (B8 ?_))
   refine Zs (Bu8 h7 rfl fun a8 h8=>wp_ret ?_)
   refine G7 rfl h8 rfl ⟨rfl, ?_,hb6⟩
   obtain rfl:s=N.length:=by omega
   unfold Bi
   rw[<-hF0]
   exact hF6
 ·refine Zs (De3 h2 fun a3 h3=> ?_)
  refine wp_block ?_
  refine wp_loop (fun a' wr=> ∃i:Nat,i<=N.length/\Sl 92 a' [(6,ii (i:Int)),(5,.slice (some ⟨w.heap.size,0,none⟩) N.length N.length),(0,pT gp),(1,ii (tz:Int))]/\FB wr w.heap.size (List.replicate i (-1)++List.replicate (N.length-i) 0)/\Below w.heap.size w wr) (fun a' _=>G1 N.length (F9 a' 6))
   ⟨0,Nat.zero_le _,h3.to ⟨rfl,rfl,rfl,rfl,trivial⟩,hF1,hb1⟩ ?_
  rintro a4 w4 ⟨i,hi,h4,hF4,hb4⟩
  rw[h4.look 6 rfl,B4]
  unfold De0
  by_cases hlt:i<N.length
  ·refine wp_seq (Zs (Bd1 (on:=N.length) (b20:=true) h4 rfl rfl (decide_eq_true Zo) fun a5 h5=>wpn (h5.look 20 rfl) ?_))
   refine wp_seq (wp_block (Zl (De5 h5 rfl rfl (fun w=>D7 hlt w) (hF4.st (i:=i) (by simp;omega) (-1)) fun a6 h6=>B1 ?_)))
   show Code.wp _ (G2 4) _ a6 _
   refine Zl (De4 h6 rfl Zo fun a7 h7=>⟨⟨i+1,hlt,h7.to ⟨rfl,rfl,rfl,rfl,trivial⟩, ?_,C8 _ _ _ hb4 (Nat.le_refl _)⟩, ?_⟩)
   ·have:=hF4.set i (-1)
    rw[An9 _ _ hlt] at this
    exact this
   ·rw[h7.look 6 rfl]
    show G1 N.length (ii ((i+1:Nat):Int))<_
    rw[B4]
    omega
  ·refine wp_seq (Zs (Bd1 (on:=N.length) (b20:=false) h4 rfl rfl (decide_eq_false Zo) fun a5 h5=>C9 (h5.look 20 rfl) ?_))
   refine A8 (A8 (B8 ⟨rfl, ?_⟩))
   rw[hmid]
   obtain rfl:i=N.length:=by omega
   rw[Nat.sub_self,List.replicate_zero,List.append_nil] at hF4
   exact⟨h5.to ⟨rfl,rfl,rfl,trivial⟩,hF4,hb4⟩
def BB(w:World)(g:Nat)(F:List Bool):Prop:=Blk w g 4 (F.map Value.bool).toArray
theorem BB.cell{w:World}{g:Nat}{F:List Bool}(h:BB w g F){i:Nat}{x:Bool}(hx:F[i]? =some x):w.cell? ⟨g,0+i*1,none⟩=some (.bool x):=by
 unfold BB at h
 rw[h.cell,Nat.zero_add,Nat.mul_one,List.getElem?_toArray,List.getElem?_map,hx]
 rfl
theorem BB.set{w:World}{g:Nat}{F:List Bool}(h:BB w g F)(i:Nat)(x:Bool):BB (w.setCells g (0+i*1) [.bool x]) g (F.set i x):=by
 have:=Blk.setL [.bool x] (0+i*1) _ _ h
 simp only[List.foldl_cons,List.foldl_nil,List.setIfInBounds_toArray,Nat.zero_add,Nat.mul_one] at this
 unfold BB
 rw[List.map_set,Nat.zero_add,Nat.mul_one]
 exact this
theorem BB.st{w:World}{g:Nat}{F:List Bool}(h:BB w g F){i:Nat}(hi:i<F.length)(x:Bool):((Instr.storeAt 4 (.pointer (some ⟨g,0+i*1,none⟩)) (.bool x)).run Tryz.prog w=.ok () (w.setCells g (0+i*1) [.bool x])):=
 Cd3 (O5 h (by rw[List.size_toArray,List.length_map];omega)) Zk rfl
theorem Bx7:(Tryz.prog.info? 4).map (fun i=>(i.zero,i.size,i.bytes))=some (some (.bool false),1,1):=by kernel_rfl
theorem Dk2(n:Nat)(hn:n<=1000000)(w:World): ∃w',(Instr.makeSlice 73 (ii (n:Int)) (ii (n:Int))).run Tryz.prog w=.ok (.slice (some ⟨w.heap.size,0,none⟩) n n) w'/\BB w' w.heap.size (List.replicate n false)/\Below w.heap.size w w':=by
 obtain⟨i,hi,hz0,hz1,hz2⟩:=An Bx7
 obtain⟨w',h1,h2,h3⟩:=run_make_full (P:=Tryz.prog) w w.heap.size 73 4 i _ 1 Tryz.underlying73 hi hz0 hz1 .i64 .i64 n (by rw[hz2];omega) (by unfold maxLen;omega) (Nat.le_refl _)
 refine⟨w',h1, ?_,J7 h3⟩
 rcases h2.2 with⟨e,_⟩ | ⟨g,cap,cur,e,r1,r2,r3,r4,r5,r6⟩
 ·cases e
 ·injection e with e1 e2 e3
  injection e1 with e1
  injection e1 with e1
  subst e1 e3
  unfold BB
  have:cur=((List.replicate n false).map Value.bool).toArray:=by
   apply Array.ext'
   rw[Nat.mul_one] at r5 r6
   rw[List.take_of_length_le (by rw[Array.length_toList];omega)] at r6
   rw[r6]
   show(madeCells #[.bool false] n).toList=_
   rw[toList_madeCells_one]
   simp
  rw[<-this]
  exact r2
inductive GRch (N:List Int) (To:List (List Int)) (R:List Nat):Nat->Prop
 | base {k:Nat}:k∈R->GRch N To R k
 | step {k n:Nat} {r:List Int} {x:Int}:GRch N To R k->To[k]? =some r->x∈r->gAt N x=some n->GRch N To R n
def isF:Value->Bool
 | .bool b=> !b
 | _=>false
def Bx8(w:World)(g:Nat):Nat:=match w.heap[g]? with
 | some (.cells cs _ _)=>(cs.toList.filter isF).length
 | _=>0
def Ew8:Value->Nat
 | .slice _ n _=>n
 | _=>0
theorem BB.lack{w:World}{g:Nat}{F:List Bool}(h:BB w g F):Bx8 w g=(F.filter fun b=> !b).length:=by
 unfold BB Blk at h
 unfold Bx8
 rw[h]
 show((F.map Value.bool).filter isF).length=_
 rw[List.filter_map,List.length_map]
 rfl
theorem Hp: ∀(F:List Bool) (i:Nat),F[i]? =some false->((F.set i true).filter fun b=> !b).length+1=(F.filter fun b=> !b).length
 | [],_,h=>by cases h
 | b::r,0,h=>by
  injection h with h
  subst h
  simp
 | b::r,i+1,h=>by
  have ih:=Hp r i h
  cases b
  ·simp only[List.set_cons_succ,List.filter_cons,Bool.not_false,if_true,List.length_cons]
   omega
  ·simpa using ih
def Ky(N:List Int)(S:List Bool):List Int:=((N.zip S).filter (·.2)).map (·.1)
def zN(l:List Nat):List Int:=l.map fun k=>((k:Nat):Int)
theorem Ds(l:List Nat):(zN l).length=l.length:=List.length_map _
theorem Be5(l:List Nat)(k:Nat):zN (l++[k])=zN l++[(k:Int)]:=by
 unfold zN
 rw[List.map_append]
 rfl
def gTo(N:List Int)(r:List Int):List Nat:=r.filterMap (gAt N)
theorem Pc{N r:List Int}{j:Nat}{x:Int}(hx:r[j]? =some x):gTo N (r.take (j+1))=gTo N (r.take j)++(gAt N x).toList:=by
 unfold gTo
 rw[List.take_add_one,hx,List.filterMap_append]
 cases h:gAt N x<;>simp[h]
set_option maxHeartbeats 2000000 in
theorem Zf{v:World}{B gp sg:Nat}{N:List Int}{To:List (List Int)}(hG:GrAt v gp (fun b=>b<B) N To)(hB:B<=v.heap.size){k:Nat}{r:List Int}(hr:To[k]? =some r){t:S3}{wl:List Nat}(hQ:QRow v B t (zN wl))(hl:wl.length+r.length<=100000000)
  {K:Exit->Act->World->Prop} (hK: ∀a v' t',Sl 90 a [(8,.slice t'.d t'.n t'.c),(7,.slice (some ⟨sg,0,none⟩) N.length N.length),(0,pT gp)]->QRow v' B t' (zN (wl++gTo N r))->Rw v v' t t'->K .normal a v')
  {a:Act} (h:Sl 90 a [(10,ii 0),(9,ii (k:Int)),(8,.slice t.d t.n t.c),(7,.slice (some ⟨sg,0,none⟩) N.length N.length),(0,pT gp)]):
  (Code.block 2 (.loop Bt1)).wp Tryz.prog K a v:=by
 have hrl:r.length<=1000000:=hG.rows r (List.mem_of_getElem? hr)
 have hkT:k<To.length:=(List.getElem?_eq_some_iff.1 hr).1
 refine wp_block ?_
 refine wp_loop (fun a' wr=> ∃(j:Nat) (t':S3),j<=r.length/\Sl 90 a' [(10,ii (j:Int)),(9,ii (k:Int)),(8,.slice t'.d t'.n t'.c),(7,.slice (some ⟨sg,0,none⟩) N.length N.length),(0,pT gp)]/\QRow wr B t' (zN (wl++gTo N (r.take j)))/\Rw v wr t t') (fun a' _=>G1 r.length (F9 a' 10))
  ⟨0,t,Nat.zero_le _,h,by simpa[gTo] using hQ,.of_below (Below.refl _ _) _⟩ ?_
 rintro a4 w4 ⟨j,t4,hj,h4,hQ4,hW4⟩
 rw[h4.look 10 rfl,B4]
 unfold Bt1
 have hne: ∀b,b<B->t.v.ownBlock≠some b:=fun b hb e=>by have:=(hQ.lt e).1;omega
 have hG4:GrAt w4 gp (fun b=>b<B) N To:=hG.keep (fun b hb hl'=>hW4.blk hl' (hne b hb)) (fun _ hb _=>hb)
 obtain⟨td,tc,g,o,rd,rc,l1,rfl,l2,hR⟩:=hG4.row hr
 have hz4:=hW4.m.size
 by_cases hlt:j<r.length
 ·refine wp_seq (Zs (Bd0 (rn:=r.length) (b48:=true) h4 rfl rfl rfl l1 (fun w=>P1 hkT w) l2 (decide_eq_true Zo) fun a5 h5=>wpn (h5.look 48 rfl) ?_))
  obtain⟨x,hx⟩: ∃x,r[j]? =some x:=⟨r[j],List.getElem?_eq_getElem hlt⟩
  obtain⟨g2,o2,hrd,hc2⟩:=G9 hR hx
  have htk:=Pc (N:=N) hx
  obtain⟨mid,hmid⟩: ∃mid:Act->World->Prop,mid=fun a' w'=> ∃t':S3,Sl 90 a' [(10,ii (j:Int)),(9,ii (k:Int)),(8,.slice t'.d t'.n t'.c),(7,.slice (some ⟨sg,0,none⟩) N.length N.length),(0,pT gp)]/\QRow w' B t' (zN (wl++gTo N (r.take (j+1))))/\Rw v w' t t':=⟨_,rfl⟩
  refine wp_seq (Code.wp_mono (Q:=fun e a' w'=>e=.normal/\mid a' w') ?_ ?_)
  ·rintro e a7 w7 ⟨rfl,hm⟩
   rw[hmid] at hm
   obtain⟨t7,h7,hQ7,hW7⟩:=hm
   show Code.wp _ (G6 10) _ a7 w7
   refine Zl (Bt3 h7 rfl Zo fun a8 h8=>⟨⟨j+1,t7,hlt,h8.to ⟨rfl,rfl,rfl,rfl,rfl,trivial⟩,hQ7,hW7⟩, ?_⟩)
   rw[h8.look 10 rfl]
   show G1 r.length (ii ((j+1:Nat):Int))<_
   rw[B4]
   omega
  ·refine wp_block ?_
   refine Zs (Bt4 (x:=x) (j:=oI (gAt N x)) (rd:=rd) (C0:=fun w'=>w4=w') h5 rfl rfl rfl l1 (fun w=>P1 hkT w) l2 (by rw[hrd];exact fun w=>D7 hlt w) (H9 Tryz.underlying3 rfl hc2) (Dn hG4 x) fun a6 w5 hq h6=> ?_)
   subst hq
   cases hg:gAt N x with
   | none=>
    rw[hg] at h6 htk
    refine Zs (Yc (j:= -1) (b64:=false) h6 rfl Zd fun a7 h7=>B9 (h7.look 64 rfl) (B1 ⟨rfl, ?_⟩))
    rw[hmid]
    refine⟨t4,h7.to ⟨rfl,rfl,rfl,rfl,rfl,trivial⟩, ?_,hW4⟩
    rw[htk]
    simpa using hQ4
   | some n=>
    rw[hg] at h6 htk
    have hln:(zN (wl++gTo N (r.take j))).length<=100000000:=by
     rw[Ds,List.length_append]
     have:=List.length_filterMap_le (gAt N) (r.take j)
     rw[List.length_take] at this
     unfold gTo
     omega
    obtain⟨s',w6,e1,e2,e3⟩:=hQ4.app hln Zo (n:Int)
    refine Zs (Yc (j:=(n:Int)) (b64:=true) h6 rfl (decide_eq_true Zo) fun a7 h7=>wp_cond_true (h7.look 64 rfl) (Zl (Bt5 (j:=(n:Int)) (C0:=fun _ v' x'=>QRow x' B v' (zN (wl++gTo N (r.take j))++[(n:Int)])/\Rw w4 x' t4 v') h7 rfl rfl (fun ty=>⟨s',w6,e1 ty,e2,e3⟩) fun a8 t8 w8 hq h8=>B1 ⟨rfl, ?_⟩)))
    rw[hmid]
    refine⟨t8,h8.to ⟨rfl,rfl,rfl,rfl,rfl,trivial⟩, ?_,hW4.trans hq.2⟩
    rw[htk,show wl++(gTo N (r.take j)++(some n).toList)=(wl++gTo N (r.take j))++[n] by simp,Be5]
    exact hq.1
 ·refine wp_seq (Zs (Bd0 (rn:=r.length) (b48:=false) h4 rfl rfl rfl l1 (fun w=>P1 hkT w) l2 (decide_eq_false Zo) fun a5 h5=>C9 (h5.look 48 rfl) ?_))
  refine A8 (A8 (B8 ?_))
  obtain rfl:j=r.length:=by omega
  rw[List.take_length] at hQ4
  exact hK _ _ t4 (h5.to ⟨rfl,rfl,rfl,trivial⟩) hQ4 hW4
theorem Dk3{N:List Int}{To:List (List Int)}{R:List Nat}(hR: ∀k,k∈R->k<N.length){k:Nat}(h:GRch N To R k):k<N.length:=by
 cases h with
 | base h=>exact hR k h
 | step _ _ _ h=>exact(D6 h).2
structure SeaJ (N:List Int) (To:List (List Int)) (R:List Nat) (S:List Bool) (wl:List Nat):Prop where
 len:S.length=N.length
 wait: ∀k,k∈wl->GRch N To R k
 seen: ∀k:Nat,S[k]? =some true->GRch N To R k
 root: ∀k,k∈R->S[k]? =some true\/k∈wl
 next: ∀(k:Nat) (r:List Int) (x:Int) (n:Nat),S[k]? =some true->To[k]? =some r->x∈r->gAt N x=some n->S[n]? =some true\/n∈wl
 few:wl.length+10000*(S.filter fun b=> !b).length<=20000000
theorem SeaJ.skip{N:List Int}{To:List (List Int)}{R:List Nat}{S:List Bool}{k:Nat}{wl:List Nat}(h:SeaJ N To R S (k::wl))(hk:S[k]? =some true):SeaJ N To R S wl:=by
 refine⟨h.len,fun x hx=>h.wait x (List.mem_cons_of_mem _ hx),h.seen,fun x hx=> ?_,fun x r y n h1 h2 h3 h4=> ?_,by have:=h.few;rw[List.length_cons] at this;omega⟩
 ·rcases h.root x hx with h' | h'
  ·exact .inl h'
  ·rcases List.mem_cons.1 h' with rfl | h'
   ·exact .inl hk
   ·exact .inr h'
 ·rcases h.next x r y n h1 h2 h3 h4 with h' | h'
  ·exact .inl h'
  ·rcases List.mem_cons.1 h' with rfl | h'
   ·exact .inl hk
   ·exact .inr h'
theorem SeaJ.visit{N:List Int}{To:List (List Int)}{R:List Nat}{S:List Bool}{k:Nat}{wl:List Nat}{r:List Int}(h:SeaJ N To R S (k::wl))(hk:S[k]? =some false)(hr:To[k]? =some r)(hl:r.length<=10000):SeaJ N To R (S.set k true) (wl++gTo N r):=by
 have hlt:=(List.getElem?_eq_some_iff.1 hk).1
 have hset: ∀j,S[j]? =some true->(S.set k true)[j]? =some true:=fun j hj=>by
  rw[List.getElem?_set]
  split
  ·rfl
  ·exact hj
 have hkt:(S.set k true)[k]? =some true:=by rw[List.getElem?_set_self hlt]
 have hold: ∀j,(S.set k true)[j]? =some true->j=k\/S[j]? =some true:=fun j hj=>by
  rw[List.getElem?_set] at hj
  split at hj
  ·rename_i e
   exact .inl e.symm
  ·exact .inr hj
 have hrk:GRch N To R k:=h.wait k List.mem_cons_self
 refine⟨by rw[List.length_set];exact h.len,fun x hx=> ?_,fun x hx=> ?_,fun x hx=> ?_,fun x r' y n h1 h2 h3 h4=> ?_, ?_⟩
 ·rcases List.mem_append.1 hx with hx | hx
  ·exact h.wait x (List.mem_cons_of_mem _ hx)
  ·obtain⟨y,hy,hg⟩:=List.mem_filterMap.1 hx
   exact .step hrk hr hy hg
 ·rcases hold x hx with rfl | hx
  ·exact hrk
  ·exact h.seen x hx
 ·rcases h.root x hx with h' | h'
  ·exact .inl (hset x h')
  ·rcases List.mem_cons.1 h' with rfl | h'
   ·exact .inl hkt
   ·exact .inr (List.mem_append_left _ h')
 ·rcases hold x h1 with rfl | h1
  ·rw[hr] at h2
   injection h2 with h2
   subst h2
   exact .inr (List.mem_append_right _ (List.mem_filterMap.2 ⟨y,h3,h4⟩))
  ·rcases h.next x r' y n h1 h2 h3 h4 with h' | h'
   ·exact .inl (hset n h')
   ·rcases List.mem_cons.1 h' with rfl | h'
    ·exact .inl hkt
    ·exact .inr (List.mem_append_left _ h')
 ·have h1:=Hp S k hk
  have h2:=h.few
  have h3:(gTo N r).length<=r.length:=List.length_filterMap_le _ _
  rw[List.length_append]
  rw[List.length_cons] at h2
  omega
theorem SeaJ.done{N:List Int}{To:List (List Int)}{R:List Nat}{S:List Bool}(h:SeaJ N To R S [])(k:Nat):S[k]? =some true↔GRch N To R k:=by
 refine⟨h.seen k,fun hk=> ?_⟩
 induction hk with
 | base hk=>exact(h.root _ hk).elim id (fun e=>by cases e)
 | step _ h2 h3 h4 ih=>exact(h.next _ _ _ _ ih h2 h3 h4).elim id (fun e=>by cases e)
theorem Du{g n c i:Nat}(hi:i<n)(w:World):(Instr.indexAt 73 (.slice (some ⟨g,0,none⟩) n c) (ii (i:Int))).run Tryz.prog w=.ok (.pointer (some ⟨g,0+i*1,none⟩)) w:=
 J2 i Tryz.underlying73 (show(Tryz.prog.info? 4).map (·.size)=some 1 by kernel_rfl) hi w
set_option maxHeartbeats 2000000 in
theorem Nb{w:World}{B gp sg:Nat}{N:List Int}{To:List (List Int)}(hG:GrAt w gp (fun b=>b<sg) N To)(hs:sg<B)(hN:N.length<=1000)(hrow: ∀r,r∈To->r.length<=10000){R:List Nat}(hR: ∀k,k∈R->k<N.length){t:S3}{S:List Bool}{wl:List Nat}(hw:w.heap.size<=B)
  {u:World} (hb:Below sg w u) (hu:B<=u.heap.size) (hB:BB u sg S) (hQ:QRow u B t (zN wl)) (hJ:SeaJ N To R S wl)
  {K:Exit->Act->World->Prop} (hK: ∀a v S',Sl 90 a [(7,.slice (some ⟨sg,0,none⟩) N.length N.length),(0,pT gp)]->BB v sg S'->Below sg w v->SeaJ N To R S' []->K .normal a v)
  {a:Act} (h:Sl 90 a [(8,.slice t.d t.n t.c),(7,.slice (some ⟨sg,0,none⟩) N.length N.length),(0,pT gp)]):
  (Code.block 0 (.loop Bt2)).wp Tryz.prog K a u:=by
 refine wp_block ?_
 refine wp_loop (fun a' wr=> ∃(t:S3) (S:List Bool) (wl:List Nat),Sl 90 a' [(8,.slice t.d t.n t.c),(7,.slice (some ⟨sg,0,none⟩) N.length N.length),(0,pT gp)]/\BB wr sg S/\QRow wr B t (zN wl)/\Below sg w wr/\B<=wr.heap.size/\SeaJ N To R S wl) (fun a' wr=>Bx8 wr sg*20000+Ew8 (F9 a' 8))
  ⟨t,S,wl,h,hB,hQ,hb,hu,hJ⟩ ?_
 rintro a4 w4 ⟨t4,S4,wl4,h4,hB4,hQ4,hb4,hu4,hJ4⟩
 rw[h4.look 8 rfl,hB4.lack]
 unfold Bt2
 have hn4:t4.n=wl4.length:=hQ4.1.trans (Ds _)
 cases hwl:wl4 with
 | nil=>
  rw[hwl] at hn4 hJ4
  refine wp_seq (Zs (Bc8 (wn:=t4.n) (b26:=false) h4 rfl (decide_eq_false (by rw[hn4];simp)) fun a5 h5=>C9 (h5.look 26 rfl) ?_))
  refine A8 (A8 (B8 (hK _ _ S4 (h5.to ⟨rfl,rfl,trivial⟩) hB4 hb4 hJ4)))
 | cons k wl5=>
  rw[hwl] at hn4 hJ4 hQ4
  rw[List.length_cons] at hn4
  have hQ4':QRow w4 B t4 ((k:Int)::zN wl5):=hQ4
  have hkN:k<N.length:=Dk3 hR (hJ4.wait k List.mem_cons_self)
  refine wp_seq (Zs (Bc8 (wn:=t4.n) (b26:=true) h4 rfl (decide_eq_true Zo) fun a5 h5=>wpn (h5.look 26 rfl) ?_))
  obtain⟨g,o,hd,hc⟩:=hQ4'.head
  obtain⟨t6,hsl,hQ6,ho6⟩:=hQ4'.tail
  have hn6:t6.n=wl5.length:=hQ6.1.trans (Ds _)
  refine wp_block ?_
  refine Zs (Dd5 (k:=k) (wd:=t4.d) h5 rfl (by rw[hd];exact fun w=>J2 (sz:=1) 0 Tryz.underlying24 Zk Zo w) (H9 Tryz.underlying3 rfl (by simpa using hc)) fun a6 h6=> ?_)
  refine Zs (Dd6 h6 rfl hsl fun a7 h7=> ?_)
  obtain⟨b,hbk⟩: ∃b,S4[k]? =some b:=⟨S4[k]'(by have:=hJ4.len;omega),List.getElem?_eq_getElem _⟩
  cases b with
  | true=>
   refine wp_seq (Zs (Bc9 (b35:=true) h7 rfl rfl (fun w=>Du hkN w) (H9 Tryz.underlying4 rfl (hB4.cell hbk)) fun a8 h8=>wp_cond_true (h8.look 35 rfl) (wp_exit (A8 (B8 ?_)))))
   refine⟨⟨t6,S4,wl5,h8.to ⟨rfl,rfl,rfl,trivial⟩,hB4,hQ6,hb4,hu4,hJ4.skip hbk⟩, ?_⟩
   rw[h8.look 8 rfl,hB4.lack]
   show _+t6.n<_+t4.n
   omega
  | false=>
   refine wp_seq (Zs (Bc9 (b35:=false) h7 rfl rfl (fun w=>Du hkN w) (H9 Tryz.underlying4 rfl (hB4.cell hbk)) fun a8 h8=>B9 (h8.look 35 rfl) ?_))
   refine Zs (Dd7 h8 rfl rfl (fun w=>Du hkN w) (hB4.st (i:=k) (by have:=hJ4.len;omega) true) fun a9 h9=> ?_)
   have hB9:=hB4.set k true
   have hb9:Below sg w (w4.setCells sg (0+k*1) [.bool true]):=C8 _ _ _ hb4 (Nat.le_refl _)
   have hQ9:QRow (w4.setCells sg (0+k*1) [.bool true]) B t6 (zN wl5):=hQ6.old fun g hg _=>B5 _ _ _ Zo
   have hz9':B<=(w4.setCells sg (0+k*1) [.bool true]).heap.size:=Nat.le_trans hu4 (Moved.set (O:=fun b=>b=sg) (Moved.of_below (Below.refl _ w4)) (.inl rfl) (0+k*1) [.bool true]).size
   generalize w4.setCells sg (0+k*1) [.bool true]=w9 at hB9 hb9 hQ9 hz9'
   refine Zs (Dd8 h9 fun a10 h10=> ?_)
   obtain⟨r,hr⟩: ∃r,To[k]? =some r:=⟨To[k]'(by have:=hG.same;omega),List.getElem?_eq_getElem _⟩
   have hrl:=hrow r (List.mem_of_getElem? hr)
   have hV:=hJ4.visit hbk hr hrl
   have hfew:=hJ4.few
   rw[List.length_cons] at hfew
   have hG9:GrAt w9 gp (fun b=>b<B) N To:=hG.keep (fun b hb hl=>hb9.block b hb) (fun b hb _=>by omega)
   refine Zf hG9 hz9' hr hQ9 Zo (fun a11 v t11 h11 hQ11 hW11=> ?_) (h10.to ⟨rfl,rfl,rfl,rfl,rfl,trivial⟩)
   have hne: ∀b,b<B->t6.v.ownBlock≠some b:=fun b hb e=>by have:=(hQ9.lt e).1;omega
   have hB11:BB v sg (S4.set k true):=(hW11.blk Zo (hne sg hs)).trans hB9
   have hn11:t11.n=(wl5++gTo N r).length:=hQ11.1.trans (Ds _)
   refine B1 ⟨⟨t11,_,_,h11.to ⟨rfl,rfl,rfl,trivial⟩,hB11,hQ11,hb9.trans (hW11.bel (fun g hg=>by have:=(hQ9.lt hg).1;omega) Zo),Nat.le_trans hz9' hW11.m.size,hV⟩, ?_⟩
   rw[h11.look 8 rfl,hB11.lack]
   have h1:=Hp S4 k hbk
   have h3:(gTo N r).length<=r.length:=List.length_filterMap_le _ _
   show _+t11.n<_+t4.n
   rw[hn11,List.length_append]
   omega
theorem Pf(N L:List Int):P0 N L=zN (gTo N L):=by
 unfold P0 zN gTo
 rw[List.map_filterMap]
def Ew(N:List Int)(S:List Bool)(i:Nat):List Int:=(((N.zip S).take i).filter (·.2)).map (·.1)
theorem Zh{N:List Int}{S:List Bool}{i:Nat}{x:Int}{b:Bool}(hx:N[i]? =some x)(hb:S[i]? =some b):Ew N S (i+1)=Ew N S i++if b then[x] else[]:=by
 unfold Ew
 have hz:(N.zip S)[i]? =some (x,b):=by
  rw[List.getElem?_zip_eq_some]
  exact⟨hx,hb⟩
 rw[List.take_add_one,hz,List.filter_append,List.map_append]
 cases b<;>rfl
theorem Ao2{N:List Int}{S:List Bool}(h:S.length=N.length):Ew N S N.length=Ky N S:=by
 unfold Ew Ky
 rw[List.take_of_length_le (by rw[List.length_zip];omega)]
theorem Ao3(N:List Int)(S:List Bool)(i:Nat):(Ew N S i).length<=N.length:=by
 unfold Ew
 rw[List.length_map]
 refine Nat.le_trans (List.length_filter_le _ _) ?_
 rw[List.length_take,List.length_zip]
 omega
set_option maxHeartbeats 2000000 in
theorem Kz{w:World}{gp:Nat}{N:List Int}{To:List (List Int)}(hG:GrAt w gp (fun b=>b<w.heap.size) N To)(hN:N.length<=1000)(hrow: ∀r,r∈To->r.length<=10000){l:Fo}{ia:Option Addr}{bx:List Int}{pa:Option Addr}(hI:InAt w l ia bx pa)(lc pc:Nat):
  Calls Tryz.prog 14 #[pT gp,.slice ia l.len lc,.slice pa bx.length pc] w fun e w'=> ∃(q:S3) (S:List Bool),e=.returned (.slice q.d q.n q.c)/\ZRow w' w.heap.size q (Ky N S)/\S.length=N.length/\(∀k:Nat,S[k]? =some true↔GRch N To (gTo N (L1 l++bx)) k)/\Below w.heap.size w w':=by
 refine B6 (vs:=[pT gp,.slice ia l.len lc,.slice pa bx.length pc]) 90 Tryz.func14 Am8 Zk (by simp) fun a0 h0=> ?_
 unfold Yb
 refine Zs (Dd2 h0 fun a1 h1=> ?_)
 obtain⟨nd,nc,l1,_⟩:=hG.things
 obtain⟨w1,m1,hB1,hb1⟩:=Dk2 N.length Zo w
 refine Zs (Dd3 h1 rfl l1 m1 fun a2 h2=> ?_)
 have hlt1:w.heap.size<w1.heap.size:=Blk.lt hB1
 refine Zs (Dd4 (C0:=fun q v=>ZRow v w1.heap.size q (P0 N (L1 l++bx))/\Below w1.heap.size w1 v) h2 rfl rfl rfl (Fz (hG.old hb1) (hI.old hb1) lc pc) fun a3 q w2 hq h3=> ?_)
 obtain⟨hZ2,hb2⟩:=hq
 obtain⟨R,hR⟩: ∃R,R=gTo N (L1 l++bx):=⟨_,rfl⟩
 rw[Pf,<-hR] at hZ2
 have hRl:R.length<=1000000:=by
  rw[hR]
  refine Nat.le_trans (List.length_filterMap_le _ _) ?_
  have:=hI.len
  rw[List.length_append] at this ⊢
  omega
 have hRn: ∀k,k∈R->k<N.length:=fun k hk=>by
  rw[hR] at hk
  obtain⟨x,_,hx⟩:=List.mem_filterMap.1 hk
  exact(D6 hx).2
 have hJ:SeaJ N To R (List.replicate N.length false) R:=by
  have hf: ∀k:Nat,(List.replicate N.length false)[k]? ≠some true:=fun k e=>by
   rw[List.getElem?_replicate] at e
   split at e<;>simp at e
  refine⟨List.length_replicate,fun k hk=>.base hk,fun k hk=>absurd hk (hf k),fun k hk=>.inr hk,fun k r x n hk=>absurd hk (hf k), ?_⟩
  have:=List.length_filter_le (fun b=> !b) (List.replicate N.length false)
  rw[List.length_replicate] at this
  omega
 have hB2:BB w2 w.heap.size (List.replicate N.length false):=(hb2.block _ hlt1).trans hB1
 obtain⟨mid,hmid⟩: ∃mid:Act->World->Prop,mid=fun a v=> ∃S',Sl 90 a [(7,.slice (some ⟨w.heap.size,0,none⟩) N.length N.length),(0,pT gp)]/\BB v w.heap.size S'/\Below w.heap.size w v/\SeaJ N To R S' []:=⟨_,rfl⟩
 refine wp_seq (Code.wp_mono (Q:=fun e a' w'=>e=.normal/\mid a' w') ?_ (Nb hG hlt1 hN hrow hRn Zo (A7 hb1 hb2) hb2.size hB2 (QRow.of_z hZ2) hJ (fun a v S' h1 h2 h3 h4=>⟨rfl,by rw[hmid];exact⟨S',h1,h2,h3,h4⟩⟩) (h3.to ⟨rfl,rfl,rfl,trivial⟩)))
 rintro e a4 v ⟨rfl,hm⟩
 rw[hmid] at hm
 obtain⟨S,h4,hB4,hb4,hJ4⟩:=hm
 show Code.wp _ _ _ a4 v
 have hSl:=hJ4.len
 have hvlt:w.heap.size<v.heap.size:=Blk.lt hB4
 refine Zs (Bt6 h4 fun a5 h5=> ?_)
 refine wp_seq (Zs (Bt7 h5 fun a6 h6=> ?_))
 refine wp_block ?_
 refine wp_loop (fun a' wr=> ∃(i:Nat) (t:S3),i<=N.length/\Sl 90 a' [(13,ii (i:Int)),(12,.slice t.d t.n t.c),(7,.slice (some ⟨w.heap.size,0,none⟩) N.length N.length),(0,pT gp)]/\ZRow wr v.heap.size t (Ew N S i)/\Below v.heap.size v wr) (fun a' _=>G1 N.length (F9 a' 13))
  ⟨0,⟨none,0,0⟩,Nat.zero_le _,h6.to ⟨rfl,rfl,rfl,rfl,trivial⟩,by simpa[Ew] using ZRow.nil v v.heap.size,Below.refl _ _⟩ ?_
 rintro a7 w7 ⟨i,t,hi,h7,hZ7,hb7⟩
 rw[h7.look 13 rfl,B4]
 unfold Dd1
 have hz7:=hb7.size
 have hB7:BB w7 w.heap.size S:=(hb7.block _ hvlt).trans hB4
 by_cases hlt:i<N.length
 ·refine wp_seq (Zs (Yd (sn:=N.length) (b72:=true) h7 rfl rfl (decide_eq_true Zo) fun a8 h8=>wpn (h8.look 72 rfl) ?_))
  obtain⟨x,hx⟩: ∃x,N[i]? =some x:=⟨N[i],List.getElem?_eq_getElem hlt⟩
  obtain⟨b,hbk⟩: ∃b,S[i]? =some b:=⟨S[i]'Zo,List.getElem?_eq_getElem _⟩
  have hps:=Zh hx hbk
  refine wp_seq (wp_block ?_)
  cases b with
  | false=>
   refine Zs (Yf (b78:=false) h8 rfl rfl (fun w=>Du hlt w) (H9 Tryz.underlying4 rfl (hB7.cell hbk)) fun a9 h9=>B9 (h9.look 78 rfl) (B1 ?_))
   show Code.wp _ (G6 17) _ a9 _
   refine Zl (Ye h9 rfl Zo fun a10 h10=>⟨⟨i+1,t,hlt,h10.to ⟨rfl,rfl,rfl,rfl,trivial⟩,by rw[hps];simpa using hZ7,hb7⟩, ?_⟩)
   rw[h10.look 13 rfl]
   show G1 N.length (ii ((i+1:Nat):Int))<_
   rw[B4]
   omega
  | true=>
   obtain⟨nd7,nc7,l7,hN7⟩:=(hG.old (A7 hb4 hb7)).things
   obtain⟨g,o,hnd,hc⟩:=G9 hN7 hx
   have hpl:=Ao3 N S i
   obtain⟨s',w9,e1,e2,e3,e4⟩:=ZRow.app' hZ7 Zo hz7 x
   refine Zs (Yf (b78:=true) h8 rfl rfl (fun w=>Du hlt w) (H9 Tryz.underlying4 rfl (hB7.cell hbk)) fun a9 h9=>wp_cond_true (h9.look 78 rfl) (Zl (Bt8 (x:=x) (nd:=nd7) (C0:=fun _ x' v'=>ZRow v' v.heap.size x' (Ew N S i++[x])/\Rw w7 v' t x') h9 rfl rfl rfl l7 (by rw[hnd];exact fun w=>D7 hlt w) (H9 Tryz.underlying3 rfl hc) (fun ty=>⟨s',w9,e1 ty,e2,e3,e4⟩) fun a10 t10 w10 hq h10=>B1 ?_)))
   show Code.wp _ (G6 17) _ a10 _
   refine Zl (Ye h10 rfl Zo fun a11 h11=>⟨⟨i+1,t10,hlt,h11.to ⟨rfl,rfl,rfl,rfl,trivial⟩,by rw[hps];exact hq.1,hb7.trans (hq.2.bel (fun g hg=>(ARow.block hZ7 hg).1) hz7)⟩, ?_⟩)
   rw[h11.look 13 rfl]
   show G1 N.length (ii ((i+1:Nat):Int))<_
   rw[B4]
   omega
 ·refine wp_seq (Zs (Yd (sn:=N.length) (b72:=false) h7 rfl rfl (decide_eq_false Zo) fun a8 h8=>C9 (h8.look 72 rfl) ?_))
  refine A8 (A8 (B8 ?_))
  refine Zs (Bt9 h8 rfl fun a9 h9=>wp_ret ?_)
  obtain rfl:i=N.length:=by omega
  rw[Ao2 hSl] at hZ7
  exact G7 rfl h9 rfl ⟨t,S,rfl,hZ7.low Zo,hSl,by rw[<-hR];exact hJ4.done,A7 hb4 hb7⟩
def J6(N F:List Int)(k:Nat)(r:List Int):List Nat:=(gTo N r).filter fun n=>decide (F.getD n (-1)=F.getD k (-1)-1)
theorem Rq{N F r:List Int}{k j:Nat}{x:Int}(hx:r[j]? =some x):J6 N F k (r.take (j+1))=J6 N F k (r.take j)++(gAt N x).toList.filter fun n=>decide (F.getD n (-1)=F.getD k (-1)-1):=by
 unfold J6
 rw[Pc hx,List.filter_append]
set_option maxHeartbeats 2000000 in
theorem Bx9{v:World}{B gp fg:Nat}{N F:List Int}{To:List (List Int)}(hG:GrAt v gp (fun b=>b<B) N To)(hB:B<=v.heap.size)(hF:FB v fg F)(hfB:fg<B)(hFl:F.length=N.length){k:Nat}{y:Int}(hy:F[k]? =some y)(hy0:0<=y/\y<=1000000){r:List Int}(hr:To[k]? =some r){fr:List (Nat×Value)}(hfr: ∃u o,fr=[(12,.slice (S3.d o) (S3.n o) (S3.c o)),(9,ii u)])
  {K:Exit->Act->World->Prop} (hK: ∀a v' t',Sl 94 a ([(13,.slice t'.d t'.n t'.c),(11,ii (k:Int)),(10,.slice (some ⟨fg,0,none⟩) F.length F.length),(0,pT gp)]++fr)->ZRow v' v.heap.size t' (zN (J6 N F k r))->Below v.heap.size v v'->K .normal a v')
  {a:Act} (h:Sl 94 a ([(14,ii 0),(13,.slice none 0 0),(11,ii (k:Int)),(10,.slice (some ⟨fg,0,none⟩) F.length F.length),(0,pT gp)]++fr)):
  (Code.block 2 (.loop Bu9)).wp Tryz.prog K a v:=by
 obtain⟨u9,o12,rfl⟩:=hfr
 have hrl:r.length<=1000000:=hG.rows r (List.mem_of_getElem? hr)
 have hkT:k<To.length:=(List.getElem?_eq_some_iff.1 hr).1
 have hkF:k<F.length:=(List.getElem?_eq_some_iff.1 hy).1
 refine wp_block ?_
 refine wp_loop (fun a' wr=> ∃(j:Nat) (t':S3),j<=r.length/\Sl 94 a' [(14,ii (j:Int)),(13,.slice t'.d t'.n t'.c),(11,ii (k:Int)),(10,.slice (some ⟨fg,0,none⟩) F.length F.length),(0,pT gp),(12,.slice o12.d o12.n o12.c),(9,ii u9)]/\ZRow wr v.heap.size t' (zN (J6 N F k (r.take j)))/\Below v.heap.size v wr) (fun a' _=>G1 r.length (F9 a' 14))
  ⟨0,⟨none,0,0⟩,Nat.zero_le _,h,by simpa[J6,gTo,zN] using ZRow.nil v v.heap.size,Below.refl _ _⟩ ?_
 rintro a4 w4 ⟨j,t4,hj,h4,hZ4,hb4⟩
 rw[h4.look 14 rfl,B4]
 unfold Bu9
 have hG4:GrAt w4 gp (fun b=>b<B) N To:=hG.keep (fun b hb hl'=>hb4.block b hl') (fun _ hb _=>hb)
 have hF4:FB w4 fg F:=(hb4.block fg Zo).trans hF
 obtain⟨td,tc,g,o,rd,rc,l1,rfl,l2,hR⟩:=hG4.row hr
 have hz4:=hb4.size
 have hZd: ∀md,ZRow (w4.drewN md) v.heap.size t4 (zN (J6 N F k (r.take j))):=fun md=>ARow.old hZ4 (B3 (Below.refl _ _) md)
 by_cases hlt:j<r.length
 ·refine wp_seq (Zs (Yo (rn:=r.length) (b56:=true) h4 rfl rfl rfl l1 (fun w=>P1 hkT w) l2 (decide_eq_true Zo) fun a5 h5=>wpn (h5.look 56 rfl) ?_))
  obtain⟨x,hx⟩: ∃x,r[j]? =some x:=⟨r[j],List.getElem?_eq_getElem hlt⟩
  obtain⟨g2,o2,hrd,hc2⟩:=G9 hR hx
  have htk:=Rq (N:=N) (F:=F) (k:=k) hx
  obtain⟨mid,hmid⟩: ∃mid:Act->World->Prop,mid=fun a' w'=> ∃t':S3,Sl 94 a' [(14,ii (j:Int)),(13,.slice t'.d t'.n t'.c),(11,ii (k:Int)),(10,.slice (some ⟨fg,0,none⟩) F.length F.length),(0,pT gp),(12,.slice o12.d o12.n o12.c),(9,ii u9)]/\ZRow w' v.heap.size t' (zN (J6 N F k (r.take (j+1))))/\Below v.heap.size v w':=⟨_,rfl⟩
  refine wp_seq (Code.wp_mono (Q:=fun e a' w'=>e=.normal/\mid a' w') ?_ ?_)
  ·rintro e a7 w7 ⟨rfl,hm⟩
   rw[hmid] at hm
   obtain⟨t7,h7,hZ7,hb7⟩:=hm
   show Code.wp _ (H5 14) _ a7 w7
   refine Zl (Bv3 h7 rfl Zo fun a8 h8=>⟨⟨j+1,t7,hlt,h8.to ⟨rfl,rfl,rfl,rfl,rfl,rfl,rfl,trivial⟩,hZ7,hb7⟩, ?_⟩)
   rw[h8.look 14 rfl]
   show G1 r.length (ii ((j+1:Nat):Int))<_
   rw[B4]
   omega
  ·refine wp_block ?_
   refine Zs (Bv4 (x:=x) (n:=oI (gAt N x)) (rd:=rd) (C0:=fun w'=>w4=w') h5 rfl rfl rfl l1 (fun w=>P1 hkT w) l2 (by rw[hrd];exact fun w=>D7 hlt w) (H9 Tryz.underlying3 rfl hc2) (Dn hG4 x) fun a6 w5 hq h6=> ?_)
   subst hq
   cases hg:gAt N x with
   | none=>
    rw[hg] at h6 htk
    refine Zs (Yp (n:= -1) h6 rfl Zd fun a7 md h7=>B9 (h7.look 84 rfl) (B1 ⟨rfl, ?_⟩))
    rw[hmid]
    refine⟨t4,h7.to ⟨rfl,rfl,rfl,rfl,rfl,rfl,rfl,trivial⟩, ?_,B3 hb4 _⟩
    rw[htk,show(none:Option Nat).toList.filter (fun n=>decide (F.getD n (-1)=F.getD k (-1)-1))=[] from rfl,List.append_nil]
    exact hZd _
   | some n=>
    rw[hg] at h6 htk
    have hn:=(D6 hg).2
    obtain⟨z,hz⟩: ∃z,F[n]? =some z:=⟨F[n]'Zo,List.getElem?_eq_getElem _⟩
    have hln:(zN (J6 N F k (r.take j))).length<=1000000:=by
     rw[Ds]
     have h1:=List.length_filterMap_le (gAt N) (r.take j)
     rw[List.length_take] at h1
     have h2:=List.length_filter_le (fun n=>decide (F.getD n (-1)=F.getD k (-1)-1)) (gTo N (r.take j))
     unfold J6
     unfold gTo at h2 ⊢
     omega
    by_cases hzy:z=y-1
    ·refine Zs (Kt (n:=(n:Int)) (x:=z) (y:=y) (b83:=true) h6 rfl rfl rfl (decide_eq_true Zo) (fun w=>D7 Zo w) (H9 Tryz.underlying3 rfl (hF4.cell hz)) (fun w=>D7 hkF w) (H9 Tryz.underlying3 rfl (hF4.cell hy)) Zo (decide_eq_true hzy) fun a7 md h7=> ?_)
     obtain⟨s',w6,e1,e2,e3,e4⟩:=(hZd md).app' Zo (by have:=(B3 (Below.refl w4.heap.size w4) md).size;omega) (n:Int)
     refine wp_cond_true (h7.look 84 rfl) (Zl (Bv5 (n:=(n:Int)) (C0:=fun _ v' x'=>ZRow x' v.heap.size v' (zN (J6 N F k (r.take j))++[(n:Int)])/\Rw (w4.drewN md) x' t4 v') h7 rfl rfl (fun ty=>⟨s',w6,e1 ty,e2,e3,e4⟩) fun a8 t8 w8 hq h8=>B1 ⟨rfl, ?_⟩))
     rw[hmid]
     refine⟨t8,h8.to ⟨rfl,rfl,rfl,rfl,rfl,rfl,rfl,trivial⟩, ?_,(B3 hb4 md).trans (hq.2.bel (fun g hg=>(ARow.block hZ4 hg).1) (B3 hb4 md).size)⟩
     rw[htk,show(Option.some n).toList.filter (fun n=>decide (F.getD n (-1)=F.getD k (-1)-1))=[n] by simp only[Option.toList_some,List.filter_cons,G0 hz,G0 hy,hzy,decide_true,if_true,List.filter_nil],Be5]
     exact hq.1
    ·refine Zs (Kt (n:=(n:Int)) (x:=z) (y:=y) (b83:=false) h6 rfl rfl rfl (decide_eq_true Zo) (fun w=>D7 Zo w) (H9 Tryz.underlying3 rfl (hF4.cell hz)) (fun w=>D7 hkF w) (H9 Tryz.underlying3 rfl (hF4.cell hy)) Zo (decide_eq_false hzy) fun a7 md h7=>B9 (h7.look 84 rfl) (B1 ⟨rfl, ?_⟩))
     rw[hmid]
     refine⟨t4,h7.to ⟨rfl,rfl,rfl,rfl,rfl,rfl,rfl,trivial⟩, ?_,B3 hb4 _⟩
     rw[htk,show(Option.some n).toList.filter (fun n=>decide (F.getD n (-1)=F.getD k (-1)-1))=[] by simp only[Option.toList_some,List.filter_cons,G0 hz,G0 hy,decide_eq_false hzy,Bool.false_eq_true,if_false,List.filter_nil],List.append_nil]
     exact hZd _
 ·refine wp_seq (Zs (Yo (rn:=r.length) (b56:=false) h4 rfl rfl rfl l1 (fun w=>P1 hkT w) l2 (decide_eq_false Zo) fun a5 h5=>C9 (h5.look 56 rfl) ?_))
  refine A8 (A8 (B8 ?_))
  obtain rfl:j=r.length:=by omega
  rw[List.take_length] at hZ4
  exact hK _ _ t4 (h5.to ⟨rfl,rfl,rfl,rfl,rfl,rfl,trivial⟩) hZ4 hb4
end Go.Proofs.YtbjegfpfmnleeaaGreatDoor
