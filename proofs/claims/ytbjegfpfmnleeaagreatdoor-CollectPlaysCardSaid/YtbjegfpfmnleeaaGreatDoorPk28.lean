/-
   Written by an AI agent.
-/
import Derived.Test.YtbjegfpfmnleeaaGreatDoorPk27
namespace Go.Proofs.YtbjegfpfmnleeaaGreatDoor
open Go.RowKit Go.Maps
set_option maxRecDepth 100000
section
variable {B0:Nat} {w:World} {gh:Nat} {O:Nat->Prop} {last:Nat} {T:Tm} {bm:Nat} {pt:Nat->Nat} {own:Nat->Nat->Prop}
structure InAt (w:World) (l:Fo) (ia:Option Addr) (bx:List Int) (pa:Option Addr):Prop where
 ok:l.ok
 far:l.len<=1000000
 at':SlAt w (fun b=>b<w.heap.size) ia l
 row:PathAt w (fun b=>b<w.heap.size) pa bx
 len:(bx++L1 l).length<=1000000
 num: ∀x,x∈bx++L1 l-> -9223372036854775808<=x/\x<=9223372036854775807
theorem InAt.old{w':World}{l:Fo}{ia:Option Addr}{bx:List Int}{pa:Option Addr}(h:InAt w l ia bx pa)(hb:Below w.heap.size w w'):InAt w' l ia bx pa:=
 ⟨h.ok,h.far,h.at'.keep (fun b hl _=>hb.block b hl) (fun b hl _=>Nat.lt_of_lt_of_le hl hb.size),h.row.keep (fun b hl _=>hb.block b hl) (fun b hl _=>Nat.lt_of_lt_of_le hl hb.size),h.len,h.num⟩
theorem Qh(n:Int)(D:DD):nAt (D++[(n,D.length)]) D.length=n:=Cf (n,D.length)
theorem Lx{w1:World}{a:Act}{R:List Int}{rp bt:Nat}(h:HSx B0 w gh O last T bm pt own)(hown:OwnAt w)(hT: ∀i t,(i,t)∈T->t.ok)(hJ:Sv w T R rp gh bt a w1):
  ckTail.wp Tryz.prog (Exit.jump 0 (Sv w T R rp gh bt) (bodyPost Tryz.prog Tryz.f29 (Bg5 w T R gh))) a w1:=by
 refine Code.wp_mono ?_ (Im h hown hT a w1 hJ)
 intro e a' w' hq
 cases e with
 | goto l=>exact⟨hq.1,hq.2.1⟩
 | normal=>exact hq
 | exit id=>exact hq
 | ret=>exact hq
 | panic c=>exact hq
 | outgrown=>exact hq
set_option maxHeartbeats 4000000 in
theorem Gf(h:HSx B0 w gh O last T bm pt own)(hown:OwnAt w)(hT: ∀i t,(i,t)∈T->t.ok){l:Fo}{ia:Option Addr}{bx:List Int}{pa:Option Addr}(hI:InAt w l ia bx pa)(lc pc:Nat):
  Calls Tryz.prog 29 #[pT gh,.slice ia l.len lc,.slice pa bx.length pc] w (Bg5 w T (H7 bx l) gh):=by
 refine B6 (vs:=[pT gh,.slice ia l.len lc,.slice pa bx.length pc]) 98 Tryz.func29 Bf8 Zk (by simp) fun a0 h0=> ?_
 unfold Ar9
 refine Zs (Dq9 h0 fun a1 h1=> ?_)
 obtain⟨rp,hrp⟩: ∃rp,rp=w.heap.size+1:=⟨_,rfl⟩
 obtain⟨bt,hbt⟩: ∃bt,bt=w.heap.size:=⟨_,rfl⟩
 have hK:=h.kok
 have hfar:=hK.far
 refine wp_scope_jumps 0 (Sv w T (H7 bx l) rp gh bt) (fun a' _=>G1 (keysT T).length (F9 a' 15)) (rest:=.seq .skip ckTail) Zk ?_ (fun a w' hJ=>wp_seq (wp_skip (Im h hown hT a w' hJ)))
 refine Zs (Dr0 h1 rfl fun a2 h2=> ?_)
 have e1:(w.alloc (.map #[] 0)).heap.size=rp:=by simp[hrp]
 rw[e1] at h2
 have hm0:MapI ((w.alloc (.map #[] 0)).alloc (.cells #[pT gh,.map (some w.heap.size),.slice none 0 0] Ae2)) bt 0 []:=by
  rw[hbt]
  exact(MapI.made w).keep (Below.heap_alloc _ _ _ (by simp))
 have hb0:=Blk.new (w.alloc (.map #[] 0)) Ae2 #[pT gh,.map (some w.heap.size),.slice none 0 0]
 rw[e1,<-hbt] at hb0
 rw[<-hbt] at hm0 ⊢
 have hbl:Below w.heap.size w ((w.alloc (.map #[] 0)).alloc (.cells #[pT gh,.map (some bt),.slice none 0 0] Ae2)):=B2 (B2 (Below.refl _ _) _) _
 change Code.wp _ _ _ a2 ((w.alloc (.map #[] 0)).alloc (.cells #[pT gh,.map (some bt),.slice none 0 0] Ae2))
 generalize (w.alloc (.map #[] 0)).alloc (.cells #[pT gh,.map (some bt),.slice none 0 0] Ae2)=u1 at hm0 hb0 hbl ⊢
 have hlr:=hb0.lt
 have hlm:=hm0.lt
 have hzu:=hbl.size
 refine wp_seq (Zs (Dr1 (b23:=false) h2 rfl (fun w=>rfl) fun a3 h3=>B9 (h3.look 23 rfl) ?_))
 refine wp_seq (Zs (Dr2 (C0:=fun q u=>ZRow u u1.heap.size q (keysT T)/\Below u1.heap.size u1 u) h3 rfl (Fe (h.old hbl)) fun a4 q u2 hq h4=> ?_))
 obtain⟨hq,hb2⟩:=hq
 have hqn:q.n=(keysT T).length:=hq.1
 rw[hqn] at h4
 have hq1: ∀g,q.v.ownBlock=some g->u1.heap.size<=g/\g<u2.heap.size:=fun g hg=>ARow.block hq hg
 refine wp_block ?_
 refine wp_loop (fun a' wr=> ∃j:Nat,j<=(keysT T).length/\Sl 98 a' [(28,ii (j:Int)),(27,ii ((keysT T).length:Int)),(26,.slice q.d (keysT T).length q.c),(7,pT rp),(0,pT gh),(1,.slice ia l.len lc),(2,.slice pa bx.length pc)]/\
   MapI wr bt j (tM ((keysT T).take j) [])/\Moved (fun b=>b=bt) u2 wr) (fun a' _=>G1 (keysT T).length (F9 a' 28))
  ⟨0,Nat.zero_le _,h4.to ⟨rfl,rfl,rfl,rfl,rfl,rfl,rfl,trivial⟩,hm0.keep (hb2.block _ hlm),.of_below (Below.refl _ _)⟩ ?_
 rintro a5 w5 ⟨j,hj,h5,hm5,hM5⟩
 rw[h5.look 28 rfl,B4]
 unfold Es2
 have hbr5:Blk w5 rp Ae2 #[pT gh,.map (some bt),.slice none 0 0]:=(hM5.block _ (by have:=hb2.size;omega) Zo).trans (hb0.below hb2 hlr)
 by_cases hjl:j<(keysT T).length
 ·refine Zs (Ce8 h5 rfl rfl (decide_eq_true Zo) fun a6 h6=> ?_)
  refine wp_seq (wpn (h6.look 29 rfl) ?_)
  obtain⟨x,hx⟩: ∃x,(keysT T)[j]? =some x:=⟨(keysT T)[j],List.getElem?_eq_getElem hjl⟩
  have hq5:ZRow w5 u1.heap.size q (keysT T):=ARow.keep hq fun g hg=>hM5.block g (hq1 g hg).2 (by have:=hq1 g hg;omega)
  obtain⟨g,hqd,_,hc⟩:=ZRow.get hq5 hx
  rw[hqd] at h6
  have hpos:=hK.pos x (List.mem_of_getElem? hx)
  refine wp_seq (wp_block ?_)
  refine Zs (Dr3 (x:=x) h6 rfl rfl (fun w=>D7 hjl w) (H9 Tryz.underlying3 rfl hc) fun a7 h7=> ?_)
  obtain⟨w6,hr,hm6,ht⟩:=hm5.store (k:=x) Tryz.underlying67 (by unfold maxLen;omega) Zo (ii 0)
  rw[Bg3 hK hx] at hm6
  refine Zl (Dr4 h7 rfl rfl (A9 hbr5 Tryz.underlying67 rfl rfl) hr fun a8 h8=> ?_)
  refine B1 ?_
  show Code.wp _ (J3 8) _ a8 w6
  refine Zl (Dr5 h8 rfl Zo fun a9 h9=>⟨⟨j+1,hjl, ?_,hm6,hM5.trans ((Moved.of_turned (S:=fun b=>b=bt) ht rfl).more fun b hb=>.inl hb)⟩, ?_⟩)
  ·rw[hqd]
   exact h9.to ⟨rfl,rfl,rfl,rfl,rfl,rfl,rfl,trivial⟩
  ·rw[h9.look 28 rfl]
   show G1 (keysT T).length (ii ((j+1:Nat):Int))<_
   rw[B4]
   omega
 refine Zs (Ce8 h5 rfl rfl (decide_eq_false Zo) fun a6 h6=> ?_)
 refine wp_seq (C9 (h6.look 29 rfl) ?_)
 refine A8 (A8 (B8 ?_))
 obtain rfl:j=(keysT T).length:=by omega
 rw[List.take_length] at hm5
 have hR0:Rch w.heap.size w5 rp gh bt (keysT T) [] ⟨none,0,0⟩:=⟨hbr5,hm5,ZRow.nil _ _,⟨Zo,Zo⟩,DOk.nil _⟩
 have hbw5:Below w.heap.size w w5:=(hbl.trans (hb2.mono hzu)).trans (F4 hM5 (fun b hb=>by omega) (by have:=hb2.size;omega))
 have hI5:=hI.old hbw5
 have hz5:=hbw5.size
 have h6:Sl 98 a6 [(7,pT rp),(0,pT gh),(1,.slice ia l.len lc),(2,.slice pa bx.length pc)]:=h6.to ⟨rfl,rfl,rfl,rfl,trivial⟩
 clear h5 h4 hM5 hbr5 hjl hj hq hq1 hb2 hb0 hm0 hlr hlm
 have hlenI:=hI.len
 rw[List.length_append] at hlenI
 refine Zs (Dr6 (C0:=fun y u=>ZRow u w5.heap.size y bx/\Below w5.heap.size w5 u) h6 rfl (Ae hI5.row pc Zo) fun a7 y w7 hy h7=> ?_)
 obtain⟨hy,hb7⟩:=hy
 have hz7:=hb7.size
 have h7:Sl 98 a7 [(10,.slice y.d y.n y.c),(7,pT rp),(0,pT gh),(1,.slice ia l.len lc)]:=h7.to ⟨rfl,rfl,rfl,rfl,trivial⟩
 refine wp_seq (Zs (Ce9 (ln:=l.len) h7 rfl fun a8 h8=> ?_))
 refine wp_block ?_
 refine wp_loop (fun a' wr=> ∃(i:Nat) (t:S3) (P:List Int),i<=l.len/\Sl 98 a' [(42,ii (i:Int)),(41,ii (l.len:Int)),(40,.slice ia l.len lc),(10,.slice t.d t.n t.c),(7,pT rp),(0,pT gh)]/\ZRow wr w5.heap.size t P/\Rw w7 wr y t/\P++L1 (l.drop i)=bx++L1 l) (fun a' _=>G1 l.len (F9 a' 42))
  ⟨0,y,bx,Nat.zero_le _,h8.to ⟨rfl,rfl,rfl,rfl,rfl,rfl,trivial⟩,hy,.of_below (Below.refl _ _) _,by rw[Fo.drop_zero]⟩ ?_
 rintro a9 w9 ⟨i,t,P,hi,h9,hZ9,hW9,hP⟩
 rw[h9.look 42 rfl,B4]
 unfold Es1
 have hPl:(P++L1 (l.drop i)).length<=1000000:=by rw[hP];exact hI.len
 rw[List.length_append] at hPl
 have hz9:=hW9.m.size
 have hyo: ∀g,y.v.ownBlock=some g->w5.heap.size<=g:=fun g hg=>(ARow.block hy hg).1
 have hlfar:=hI.far
 by_cases hlt:i<l.len
 ·refine Zs (As0 h9 rfl rfl (decide_eq_true Zo) fun b1 k1=> ?_)
  refine wp_seq (wpn (k1.look 43 rfl) ?_)
  obtain⟨h',k',hg⟩:=Fo.get_lt l i hlt
  have hb79:Below w5.heap.size w5 w9:=hb7.trans (hW9.bel hyo hz7)
  have hd9:SlAt w9 (fun b=>b<w5.heap.size) ia l:=hI5.at'.keep (fun b hb _=>hb79.block b hb) (fun b hb _=>hb)
  obtain⟨b,o,hia,hSb,pa',pc',ja,jc,hc,hdd⟩:=hd9.get hg
  rw[hia] at k1
  refine wp_seq (wp_block ?_)
  have hY:=Q8 (w:=w9) ⟨h',k'⟩ ⟨pa',pc',ja,jc⟩
  refine Zs (Cf0 (d:=⟨h',k'⟩) (m:=⟨pa',pc',ja,jc⟩) k1 rfl rfl (fun w=>J2 i Tryz.underlying23 K4 hlt w) (M2 (d:=⟨h',k'⟩) (m:=⟨pa',pc',ja,jc⟩) hc) (D1 (Blk.new w9 C7 zA) (by show 0+11<=11;omega)) fun b3 k3=> ?_)
  change Code.wp _ _ _ b3 ((w9.alloc (.cells zA C7)).setCells w9.heap.size 0 (Dt.cs ⟨h',k'⟩ ⟨pa',pc',ja,jc⟩).toList)
  generalize (w9.alloc (.cells zA C7)).setCells w9.heap.size 0 (Dt.cs ⟨h',k'⟩ ⟨pa',pc',ja,jc⟩).toList=v at hY ⊢
  obtain⟨hYb,hbv⟩:=hY
  have hdv:(⟨h',k'⟩:Dt).at v (fun b=>b<w5.heap.size) ⟨pa',pc',ja,jc⟩:=hdd.keep (fun x hx hl=>hbv.block x hl) (fun _ hx _=>hx)
  rw[Bl l hg] at hP hPl
  simp only[List.length_append] at hPl
  have hto: ∀g,t.v.ownBlock=some g->w5.heap.size<=g:=fun g hg=>(ARow.block hZ9 hg).1
  refine Zl (Cf1 (d:=⟨h',k'⟩) (m:=⟨pa',pc',ja,jc⟩) (C0:=fun t8 w8=>ZRow w8 w5.heap.size t8 (P++Aa h' k')/\Rw v w8 t t8) k3 rfl rfl (C6 hYb rfl) (Lw l hI.ok i h' k' hg v w5.heap.size _ t P _ (hZ9.old hbv) (by have:=hbv.size;omega) hdv (fun b hb e=>by have:=hto b e;omega) (by simp only[List.length_append];omega)) fun b4 t8 w8 hq k4=> ?_)
  obtain⟨hZ8,hW8⟩:=hq
  refine B1 ?_
  show Code.wp _ (J3 14) _ b4 w8
  refine Zl (Cf2 k4 rfl Zo fun b5 k5=>⟨⟨i+1,t8,_,hlt, ?_,hZ8,hW9.trans (Rw.pre hbv hW8), ?_⟩, ?_⟩)
  ·rw[hia]
   exact k5.to ⟨rfl,rfl,rfl,rfl,rfl,rfl,trivial⟩
  ·rw[<-hP]
   simp only[List.append_assoc]
  ·rw[k5.look 42 rfl]
   show G1 l.len (ii ((i+1:Nat):Int))<_
   rw[B4]
   omega
 refine Zs (As0 h9 rfl rfl (decide_eq_false Zo) fun b2 k2=> ?_)
 refine wp_seq (C9 (k2.look 43 rfl) ?_)
 refine A8 (A8 (B8 ?_))
 obtain rfl:i=l.len:=by omega
 rw[Fo.drop_len l _ (Nat.le_refl _)] at hP
 have hP':P=bx++L1 l:=by simpa[L1] using hP
 have k2:Sl 98 b2 [(10,.slice t.d t.n t.c),(7,pT rp),(0,pT gh)]:=k2.to ⟨rfl,rfl,rfl,trivial⟩
 have hb59:Below w5.heap.size w5 w9:=hb7.trans (hW9.bel hyo hz7)
 have hI_len:=hI.len
 rw[<-hP'] at hI_len
 refine Zs (Cf3 k2 rfl (Co hZ9 Zo) fun a10 w10 hq h10=> ?_)
 obtain⟨hZ10,hW10⟩:=hq
 have hto: ∀g,t.v.ownBlock=some g->w5.heap.size<=g:=fun g hg=>(ARow.block hZ9 hg).1
 have hb10:Below w5.heap.size w5 w10:=hb59.trans (hW10.bel hto Zo)
 obtain⟨R,hRR⟩: ∃R,R=H7 bx l:=⟨_,rfl⟩
 have hZ10:ZRow w10 w5.heap.size t R:=by rw[hRR];unfold H7;rw[<-hP'];exact hZ10
 rw[<-hRR]
 have hRl:R.length<=1000000:=by rw[hRR];unfold H7 L3;rw[List.length_mergeSort];exact hI.len
 have hRi: ∀x,x∈R-> -9223372036854775808<=x/\x<=9223372036854775807:=fun x hx=>hI.num x (by rw[hRR] at hx;exact sortZ_mem.1 hx)
 have hRc:=hR0.keep (w':=w10) fun b hb=>hb10.block b (by have:=(hR0.lim hb).2;omega)
 have hbw10:Below w.heap.size w w10:=hbw5.trans (hb10.mono hz5)
 have htn:t.n=R.length:=hZ10.1
 rw[htn] at h10
 have hz10:=hb10.size
 refine wp_seq (Zs (Cf4 (on:=R.length) h10 rfl fun a11 h11=> ?_))
 refine wp_block ?_
 refine wp_loop (fun a' wr=> ∃(j:Nat) (s':S3),j<=R.length/\Sl 98 a' [(54,ii (j:Int)),(53,ii (R.length:Int)),(52,.slice t.d R.length t.c),(7,pT rp),(0,pT gh)]/\
   Rch w.heap.size wr rp gh bt (keysT T) ((R.take j).foldl (fun D n=>cmR (keysT T) D n) []) s'/\Below w.heap.size w wr/\w10.heap.size<=wr.heap.size/\ZRow wr w5.heap.size t R/\(∀g,s'.v.ownBlock=some g->w10.heap.size<=g)) (fun a' _=>G1 R.length (F9 a' 54))
  ⟨0,⟨none,0,0⟩,Nat.zero_le _,h11.to ⟨rfl,rfl,rfl,rfl,rfl,trivial⟩,hRc,hbw10,Nat.le_refl _,hZ10,fun g hg=>by cases hg⟩ ?_
 rintro a12 w12 ⟨j,s',hj,h12,hR12,hb12,hz12,hZ12,ho12⟩
 rw[h12.look 54 rfl,B4]
 unfold Es0
 by_cases hjl:j<R.length
 ·refine Zs (As1 h12 rfl rfl (decide_eq_true Zo) fun a13 h13=> ?_)
  refine wp_seq (wpn (h13.look 55 rfl) ?_)
  obtain⟨x,hx⟩: ∃x,R[j]? =some x:=⟨R[j],List.getElem?_eq_getElem hjl⟩
  obtain⟨g,htd,_,hc⟩:=ZRow.get hZ12 hx
  rw[htd] at h13
  refine wp_seq (wp_block ?_)
  refine Zs (Cf5 (x:=x) h13 rfl rfl (fun w=>D7 hjl w) (H9 Tryz.underlying3 rfl hc) fun a14 h14=> ?_)
  obtain⟨D',hD'⟩: ∃D',D'=(R.take j).foldl (fun D n=>cmR (keysT T) D n) []:=⟨_,rfl⟩
  rw[<-hD'] at hR12
  refine Zl (Cf6 (x:=x) (C0:=fun v=> ∃s2,RchQ w.heap.size w12 v rp gh bt (keysT T) (cmR (keysT T) D' x) s' s2) h14 rfl rfl (Ij hK hR12 hb12.size (hRi x (List.mem_of_getElem? hx)) (q:=D'.length) (Nat.le_refl _) (fun _ _=>(Qh x D').symm)) fun a15 v hv h15=> ?_)
  obtain⟨s2,hQ⟩:=hv
  refine B1 ?_
  show Code.wp _ (J3 20) _ a15 v
  have hzv:=hQ.m.size
  refine Zl (Cf7 h15 rfl Zo fun a16 h16=>⟨⟨j+1,s2,hjl, ?_, ?_, ?_,Zo, ?_, ?_⟩, ?_⟩)
  ·rw[htd]
   exact h16.to ⟨rfl,rfl,rfl,rfl,rfl,trivial⟩
  ·rw[List.take_add_one,hx]
   simp only[Option.toList_some,List.foldl_append,List.foldl_cons,List.foldl_nil]
   rw[<-hD']
   exact hQ.r
  ·exact hb12.trans (F4 hQ.m (fun b hb=>(hR12.lim hb).1) hb12.size)
  ·refine ARow.keep hZ12 fun b hbb=>hQ.m.block b (ARow.block hZ12 hbb).2 fun q=> ?_
   have h1:=ARow.block hZ10 hbb
   have h2:=hR0.blk.lt
   have h3:=hR0.mp.lt
   rcases q with rfl | rfl | q
   ·omega
   ·omega
   ·have:=ho12 b q
    omega
  ·intro g' hg'
   rcases hQ.o with e | ⟨g3,e,hg3⟩
   ·rw[e] at hg'
    exact ho12 g' hg'
   ·rw[e] at hg'
    injection hg' with hg'
    omega
  ·rw[h16.look 54 rfl]
   show G1 R.length (ii ((j+1:Nat):Int))<_
   rw[B4]
   omega
 refine Zs (As1 h12 rfl rfl (decide_eq_false Zo) fun a13 h13=> ?_)
 refine wp_seq (C9 (h13.look 55 rfl) ?_)
 refine A8 (A8 (B8 ?_))
 obtain rfl:j=R.length:=by omega
 rw[List.take_length] at hR12
 refine Zs (Cf8 h13 fun a14 h14=> ?_)
 refine wp_seq (wp_label ?_)
 show ckTail.wp _ _ a14 w12
 exact Lx h hown hT ⟨(keysT T).length+1,0,_,s',h14.to ⟨rfl,rfl,rfl,trivial⟩,hR12,hb12,Nat.zero_le _,rfl,Zo⟩
end
def F6(T:Tm)(R:List Int):List Int:=N1 (keysT T) (E7 T) R
theorem P9(T:Tm):LOk (E7 T):=fun n=>by
 unfold E7 S2
 cases I6 T n.toNat with
 | none=>exact List.Pairwise.nil
 | some t=>exact Aj4 (Bp _)
theorem Bn(bx:List Int)(l:Fo):(H7 bx l).Pairwise (· <= ·):=Bp _
def H4(T:Tm)(R:List Int):Tm:=T.filter fun t=>decide ((t.1:Int)∈F6 T R)
def O4(T:Tm)(R:List Int)(i:Nat):Tm:=T.filter fun t=>decide ((t.1:Int)∉(keysT T).take i\/(t.1:Int)∈F6 T R)
theorem Bg6(T:Tm)(R:List Int):O4 T R 0=T:=List.filter_eq_self.2 fun t _=>by simp
theorem Bg7(T:Tm)(R:List Int):O4 T R (keysT T).length=H4 T R:=by
 unfold O4 H4
 apply List.filter_congr
 intro t ht
 have:(t.1:Int)∈keysT T:=List.mem_map.2 ⟨t,ht,rfl⟩
 simp[this]
theorem Qi{T:Tm}{R:List Int}{i:Nat}{x:Int}(hx:(keysT T)[i]? =some x)(hr:x∈F6 T R):O4 T R (i+1)=O4 T R i:=by
 unfold O4
 apply List.filter_congr
 intro t _
 rw[List.take_add_one,hx]
 by_cases h:(t.1:Int)∈F6 T R
 ·simp[h]
 ·have:(t.1:Int)≠x:=fun e=>h (e ▸ hr)
  simp[h,this]
theorem Qj{T:Tm}{R:List Int}{i:Nat}{x:Int}(hp:0<=x)(hx:(keysT T)[i]? =some x)(hr:x∉F6 T R):O4 T R (i+1)=Qm (O4 T R i) x.toNat:=by
 unfold O4 Qm
 rw[List.filter_filter]
 apply List.filter_congr
 intro t _
 rw[List.take_add_one,hx]
 by_cases h:t.1=x.toNat
 ·have e:(t.1:Int)=x:=by omega
  rw[e]
  simp[h,hr]
 ·have e:(t.1:Int)≠x:=by omega
  simp[h,e]
theorem Sw{T:Tm}{R:List Int}(hK:KOk (keysT T)){i:Nat}{x:Int}(hx:(keysT T)[i]? =some x):(I6 (O4 T R i) x.toNat).isSome=true:=by
 have hm:=List.mem_of_getElem? hx
 obtain⟨t,ht,e⟩:=List.mem_map.1 hm
 have hn:x∉(keysT T).take i:=fun hm2=>by
  obtain⟨j,hj⟩:=List.mem_iff_getElem?.1 hm2
  have hji:j<i:=by
   have:=(List.getElem?_eq_some_iff.1 hj).1
   rw[List.length_take] at this
   omega
  rw[List.getElem?_take_of_lt hji] at hj
  obtain⟨h1,e1⟩:=List.getElem?_eq_some_iff.1 hj
  obtain⟨h2,e2⟩:=List.getElem?_eq_some_iff.1 hx
  have:=List.pairwise_iff_getElem.1 hK.rise j i h1 h2 hji
  omega
 unfold I6
 rw[Option.isSome_map,List.find?_isSome]
 refine⟨t,List.mem_filter.2 ⟨ht, ?_⟩, ?_⟩
 ·rw[<-e] at hn
  simp[hn]
 ·have:t.1=x.toNat:=by omega
  simp[this]
def O8(T:Tm)(R:List Int)(i:Nat):Nat:=(((keysT T).take i).filter fun x=>decide (x∉F6 T R)).length
theorem Ff{α:Type}(p:α->Bool): ∀l:List α,(l.filter p).length+(l.filter fun x=> !p x).length=l.length
 | []=>rfl
 | x::r=>by
  have ih:=Ff p r
  by_cases h:p x=true
  ·rw[List.filter_cons_of_pos h,List.filter_cons_of_neg (by simp[h])]
   simp only[List.length_cons]
   omega
  ·rw[List.filter_cons_of_neg h,List.filter_cons_of_pos (by simp[h])]
   simp only[List.length_cons]
   omega
theorem Nk{T:Tm}(hK:KOk (keysT T)){R:List Int}(hp:R.Pairwise (· <= ·)):O8 T R (keysT T).length+(F6 T R).length=(keysT T).length:=by
 have h1:=Fi (P9 T) hp hK.rise
 have h2:=Ff (fun x=>decide (x∈F6 T R)) (keysT T)
 unfold O8
 rw[List.take_length]
 unfold F6 at h2 ⊢
 rw[h1] at h2
 have e:(keysT T).filter (fun x=>decide (x∉N1 (keysT T) (E7 T) R))=(keysT T).filter fun x=> !decide (x∈N1 (keysT T) (E7 T) R):=List.filter_congr fun x _=>by simp
 rw[e]
 omega
theorem HQ.then{B:Nat}{w w1 w':World}{gh:Nat}{O O1:Nat->Prop}{n:Nat}{T':Tm}(hM:Moved O w w1)(hs: ∀b,O b->O1 b)(hb: ∀b,O1 b->O b\/w.heap.size<=b)(k:HQ B w1 w' gh O1 n T'):HQ B w w' gh O n T':=by
 obtain⟨O2,k1,k2,k3,k4⟩:=k
 have:=hM.size
 exact⟨O2,k1,hM.trans (k2.more hb),fun b h=>k3 b (hs b h),fun b h=>(k4 b h).elim (hb b) fun q=>.inr Zo⟩
def Cd1(D:DD)(z:Int):List Int:=match (List.range D.length).find? (fun j=>decide (nAt D j=z)) with
 | some j=>L2 D j
 | none=>[]
theorem Sx{D:DD}{j:Nat}(hd:(D.map (·.1)).Nodup)(hj:j<D.length):Cd1 D (nAt D j)=L2 D j:=by
 unfold Cd1
 cases hf:(List.range D.length).find? (fun i=>decide (nAt D i=nAt D j)) with
 | none=>
  have:=List.find?_eq_none.1 hf j (List.mem_range.2 hj)
  simp at this
 | some i=>
  have h1:=List.find?_some hf
  have h2:=List.mem_range.1 (List.mem_of_find?_eq_some hf)
  have h1:nAt D i=nAt D j:=by simpa using h1
  have h3:i=j:=by
   have hd':=List.nodup_iff_pairwise_ne.1 hd
   have e: ∀k,k<D.length->(D.map (·.1))[k]? =some (nAt D k):=fun k hk=>by simp[nAt,hk]
   rcases Nat.lt_trichotomy i j with h | h | h
   ·exact absurd h1 (List.pairwise_iff_getElem.1 hd' i j (by simpa using h2) (by simpa using hj) h |> fun hne=>by
     have e1:=e i h2
     have e2:=e j hj
     rw[List.getElem?_eq_getElem (by simpa using h2)] at e1
     rw[List.getElem?_eq_getElem (by simpa using hj)] at e2
     injection e1 with e1
     injection e2 with e2
     rw[<-e1,<-e2]
     exact hne)
   ·exact h
   ·exact absurd h1.symm (List.pairwise_iff_getElem.1 hd' j i (by simpa using hj) (by simpa using h2) h |> fun hne=>by
     have e1:=e i h2
     have e2:=e j hj
     rw[List.getElem?_eq_getElem (by simpa using h2)] at e1
     rw[List.getElem?_eq_getElem (by simpa using hj)] at e2
     injection e1 with e1
     injection e2 with e2
     rw[<-e1,<-e2]
     exact hne)
  rw[h3]
theorem Gg{D:DD}{z:Int}(h:z∉D.map (·.1)):Cd1 D z=[]:=by
 unfold Cd1
 rw[List.find?_eq_none.2 fun j hj=>by
  have:nAt D j≠z:=fun e=>h (mem_nAt.2 ⟨j,List.mem_range.1 hj,e⟩)
  simpa using this]
theorem Bg8{D:DD}(hd:(D.map (·.1)).Nodup){j:Nat}(hj:j<D.length):byV D (nAt D j)=nAt D (qAt D j):=by
 unfold byV
 have hg:D[j]? =some D[j]:=List.getElem?_eq_getElem hj
 have e1:nAt D j=D[j].1:=by unfold nAt;rw[hg];rfl
 have e2:qAt D j=D[j].2:=by unfold qAt;rw[hg];rfl
 have hf:D.find? (fun p=>decide (p.1=nAt D j))=some D[j]:=by
  rw[List.find?_eq_some_iff_getElem]
  refine⟨by simp[e1],j,hj,rfl,fun k hk=> ?_⟩
  have hd':=List.nodup_iff_pairwise_ne.1 hd
  have:=List.pairwise_iff_getElem.1 hd' k j (by simp;omega) (by simpa using hj) hk
  simp only[List.getElem_map] at this
  simp[e1,this]
 rw[hf]
 show nAt D D[j].2=_
 rw[e2]
theorem Ae5(u:World)(x:Int):ZRow (u.alloc (.cells #[ii x] 3)) u.heap.size ⟨some ⟨u.heap.size,0,none⟩,1,1⟩ [x]:=
 ⟨rfl,rfl,.inr ⟨u.heap.size,1,#[ii x],rfl,Nat.le_refl _,Blk.new _ _ _,Nat.le_refl _,Zd,rfl,rfl⟩⟩
def Ad3(T:Tm)(R:List Int)(z:Int):List Int:=Cd1 (Ab T R) z
def nSl:Value->Nat
 | .slice _ n _=>n
 | _=>0
section
variable {B0:Nat} {w:World} {gh:Nat} {O:Nat->Prop} {last:Nat} {T:Tm} {bm:Nat} {pt:Nat->Nat} {own:Nat->Nat->Prop}
theorem Sy(T:Tm){R:List Int}(hp:R.Pairwise (· <= ·)):Bf (keysT T) R (E7 T) (Ab T R).length (Ab T R).length (Ab T R):=Tc (P9 T) hp
set_option maxHeartbeats 1000000 in
theorem Ce(h:HSx B0 w gh O last T bm pt own)(hown:OwnAt w)(hT: ∀i t,(i,t)∈T->t.ok){l:Fo}{ia:Option Addr}{bx:List Int}{pa:Option Addr}(hI:InAt w l ia bx pa)(lc pc:Nat):
  Calls Tryz.prog 12 #[pT gh,.slice ia l.len lc,.slice pa bx.length pc] w fun e w'=> ∃q:S3,e=.returned (.slice q.d q.n q.c)/\(ZRow w' w.heap.size q (F6 T (H7 bx l))/\Below w.heap.size w w'):=by
 refine B6 (vs:=[pT gh,.slice ia l.len lc,.slice pa bx.length pc]) 16 Tryz.func12 Bf9 Zk (by simp) fun a0 h0=> ?_
 unfold As4
 refine Zs (Dr7 h0 fun a1 h1=> ?_)
 have hK:=h.kok
 have hfar:=hK.far
 refine Zs (Dr8 (C0:=fun rp u=>(∃bt s,Rch w.heap.size u rp gh bt (keysT T) (Ab T (H7 bx l)) s)/\Below w.heap.size w u)
  (C1:=fun z u=> ∃rp bt,Rch w.heap.size u rp gh bt (keysT T) (Ab T (H7 bx l)) z)
  (C2:=fun x u=> ∃(g1:Nat) (s:S3),x=.func (.func 51) #[] #[pT g1]/\Blk u g1 24 #[.slice s.d ((Ab T (H7 bx l)).map (·.1)).length s.c]/\ZRow u w.heap.size s ((Ab T (H7 bx l)).map (·.1))/\Below w.heap.size w u)
  (C3:=fun q u=>ZRow u w.heap.size q (F6 T (H7 bx l))/\Below w.heap.size w u)
  h1 rfl rfl rfl (Gf h hown hT hI lc pc) (fun rp u hz=>let⟨bt,s,hR⟩:=hz.1;⟨s,hR.ls,rp,bt,hR⟩) (fun rp u hu z hz=> ?_) (fun rp u hu z hz x v hv=> ?_) fun a2 rp u z x v q v2 hu hz hv hq h2=>wp_ret ?_)
 ·obtain⟨rp',bt,hR⟩:=hz
  have hb:=hu.2
  refine(Qd z u).mono ?_
  rintro e w' ⟨rfl,rfl⟩
  have hn:z.n=((Ab T (H7 bx l)).map (·.1)).length:=hR.row.1
  refine⟨_,rfl,u.heap.size,z,rfl, ?_,hR.row.old (B2 (Below.refl _ _) _),B2 hb _⟩
  rw[<-hn]
  exact Blk.new _ _ _
 ·obtain⟨g1,s,rfl,hB,hZ,hb⟩:=hv
  obtain⟨rp',bt,hR⟩:=hz
  have hl:=hR.d.len
  obtain⟨p1,p2,p3,p4⟩:=ZRow.path hZ
  refine(Qf (z:=s) hB p1 (fun b hb=>hb.2) (by rw[List.length_map];omega) (hown.old hb)).mono ?_
  rintro e w' ⟨q,rfl,hq,hb'⟩
  exact⟨q,rfl,ZRow.low hq hb.size,hb.trans (hb'.mono hb.size)⟩
 ·exact G7 rfl h2 rfl ⟨q,rfl,hq⟩
set_option maxHeartbeats 2000000 in
theorem Ip(h:HSx B0 w gh O last T bm pt own)(hown:OwnAt w)(hT: ∀i t,(i,t)∈T->t.ok){l:Fo}{ia:Option Addr}{bx:List Int}{pa:Option Addr}(hI:InAt w l ia bx pa)(lc pc:Nat):
  Calls Tryz.prog 18 #[pT gh,.slice ia l.len lc,.slice pa bx.length pc] w fun e w'=>e=.returned (ii ((O8 T (H7 bx l) (keysT T).length:Nat):Int))/\HQ B0 w w' gh O last (H4 T (H7 bx l)):=by
 refine B6 (vs:=[pT gh,.slice ia l.len lc,.slice pa bx.length pc]) 42 Tryz.func18 Bg0 Zk (by simp) fun a0 h0=> ?_
 unfold As5
 obtain⟨R,hRR⟩: ∃R,R=H7 bx l:=⟨_,rfl⟩
 have hRp:R.Pairwise (· <= ·):=by rw[hRR];exact Bn _ _
 refine Zs (Dr9 h0 fun a1 h1=> ?_)
 have hK:=h.kok
 have hfar:=hK.far
 refine Zs (Ds0 (C0:=fun rp u=>(∃bt s,Rch w.heap.size u rp gh bt (keysT T) (Ab T R) s)/\Below w.heap.size w u) h1 rfl rfl rfl (by rw[hRR];exact Gf h hown hT hI lc pc) fun a2 rp u hu h2=> ?_)
 rw[<-hRR]
 obtain⟨⟨bt,s,hR⟩,hb⟩:=hu
 have hzu:=hb.size
 refine wp_seq (Zs (Ds1 (C0:=fun x v=>x=.func (.func 55) #[] #[pT u.heap.size]/\v=u.alloc (.cells #[.map (some bt)] 67))
  (C1:=fun q v=>ZRow v u.heap.size q (keysT T)/\Below u.heap.size u v) h2 rfl hR.lm ((Vf (some bt) u).mono fun e w' ⟨h1,h2⟩=>⟨_,h1,rfl,h2⟩) ?_ fun a3 x v1 q v hx hq h3=> ?_))
 ·rintro x7 w1 ⟨rfl,rfl⟩
  have hl:=hR.d.len
  refine(Ml bt _ u.heap.size (mD (tM (keysT T) (Ab T R))) Vh _ (hR.mp.keep (Below.heap_alloc _ _ _ hR.mp.lt)) (by rw[(Blk.new u _ _).cell];rfl) (by simp) ?_ ?_).mono fun e w' hh=> ?_
  ·rw[Gt];unfold maxLen tM;rw[List.length_map];omega
  ·rw[Gt];unfold tM;rw[List.length_map];omega
  ·obtain⟨v,ss,rfl,hp,ho,_,hb'⟩:=hh
   rw[Vi] at hp
   have e1:(tM (keysT T) (Ab T R)).map (·.1)=keysT T:=by
    unfold tM
    rw[List.map_map]
    exact List.map_id _
   rw[e1] at hp
   have e2:ss.mergeSort (fun x y=>decide (x<=y))=keysT T:=by
    refine N6 (Gi ((hp.nodup_iff).2 (hK.rise.imp fun h=>by omega))) hK.rise fun x=> ?_
    exact sortZ_mem.trans hp.mem_iff
   rw[e2,hp.length_eq] at ho
   obtain⟨s',rfl,hs'⟩:=ARow.of_v ho
   exact⟨s',rfl,ZRow.low hs' (by simp),(B2 (Below.refl _ u) _).trans (hb'.mono (by simp))⟩
 ·obtain⟨hq,hbv⟩:=hq
  have hqn:q.n=(keysT T).length:=hq.1
  rw[hqn] at h3
  have hzv:=hbv.size
  have hbw:Below w.heap.size w v:=hb.trans (hbv.mono hzu)
  have hRv:=hR.old hbv
  have hlim:=fun b hb=>(h.lim b hb).2
  refine wp_block ?_
  refine wp_loop (fun a' wr=> ∃(i:Nat) (O1:Nat->Prop),i<=(keysT T).length/\Sl 42 a' [(22,ii (i:Int)),(21,ii ((keysT T).length:Int)),(20,.slice q.d (keysT T).length q.c),(8,ii ((O8 T R i:Nat):Int)),(7,pT rp),(0,pT gh)]/\
    HS B0 wr gh O1 last (O4 T R i)/\Moved O v wr/\(∀b,O b->O1 b)/\(∀b,O1 b->O b\/v.heap.size<=b)) (fun a' _=>G1 (keysT T).length (F9 a' 22))
   ⟨0,O,Nat.zero_le _,h3.to ⟨rfl,rfl,rfl,rfl,rfl,rfl,trivial⟩,by rw[Bg6];exact⟨bm,pt,own,h.old hbw⟩,.of_below (Below.refl _ _),fun _ h=>h,fun _ h=>.inl h⟩ ?_
  rintro a4 w4 ⟨i,O1,hi,h4,hS4,hM4,o1,o2⟩
  rw[h4.look 22 rfl,B4]
  unfold Es3
  have hR4:Rch w.heap.size w4 rp gh bt (keysT T) (Ab T R) s:=hRv.keep fun b hb=>hM4.block b (hRv.lim hb).2 fun q=>by have:=hlim b q;have:=(hRv.lim hb).1;omega
  have hz4:=hM4.size
  by_cases hlt:i<(keysT T).length
  ·refine Zs (Cg5 h4 rfl rfl (decide_eq_true Zo) fun a5 h5=> ?_)
   refine wp_seq (wpn (h5.look 23 rfl) ?_)
   obtain⟨x,hx⟩: ∃x,(keysT T)[i]? =some x:=⟨(keysT T)[i],List.getElem?_eq_getElem hlt⟩
   have hq4:ZRow w4 u.heap.size q (keysT T):=ARow.keep hq fun g hg=>hM4.block g (ARow.block hq hg).2 fun q=>by have:=hlim g q;have:=(ARow.block hq hg).1;omega
   obtain⟨g,hqd,_,hc⟩:=ZRow.get hq4 hx
   rw[hqd] at h5
   have hxm:=List.mem_of_getElem? hx
   have hpos:=hK.pos x hxm
   refine wp_seq (wp_block ?_)
   refine Zs (Ds2 (n:=x) h5 rfl rfl (fun w=>D7 hlt w) (H9 Tryz.underlying3 rfl hc) fun a6 h6=> ?_)
   have hlk:=hR4.mp.look (z:=.int .i64 0) Tryz.underlying67 (fun _=>Tryz.zeroValue3 _) (k:=x) Zo
   rw[Su,if_pos hxm] at hlk
   have hrm:x∈F6 T R↔x∈(Ab T R).map (·.1):=sortZ_mem
   have hgl:O8 T R i<=1000:=Nat.le_trans (List.length_filter_le _ _) (by rw[List.length_take];omega)
   have goneS:O8 T R (i+1)=O8 T R i+(if x∈F6 T R then 0 else 1):=by
    unfold O8
    rw[List.take_add_one,hx,List.filter_append,List.length_append]
    by_cases hr:x∈F6 T R<;>simp[hr]
   have step: ∀(a8:Act) (w8:World) (O2:Nat->Prop),Sl 42 a8 [(22,ii (i:Int)),(21,ii ((keysT T).length:Int)),(20,.slice (some ⟨g,0,none⟩) (keysT T).length q.c),(8,ii ((O8 T R (i+1):Nat):Int)),(7,pT rp),(0,pT gh)]->HS B0 w8 gh O2 last (O4 T R (i+1))->Moved O v w8->(∀b,O b->O2 b)->(∀b,O2 b->O b\/v.heap.size<=b)->∀Qn:Exit->Act->World->Prop,(∀a'',((∃(i:Nat) (O1:Nat->Prop),i<=(keysT T).length/\Sl 42 a'' [(22,ii (i:Int)),(21,ii ((keysT T).length:Int)),(20,.slice q.d (keysT T).length q.c),(8,ii ((O8 T R i:Nat):Int)),(7,pT rp),(0,pT gh)]/\
    HS B0 w8 gh O1 last (O4 T R i)/\Moved O v w8/\(∀b,O b->O1 b)/\(∀b,O1 b->O b\/v.heap.size<=b))/\G1 (keysT T).length (F9 a'' 22)<(keysT T).length-i)->Qn .normal a'' w8)->Code.wp Tryz.prog (Ej 7) Qn a8 w8:=fun a8 w8 O2 h8 hS8 hM8 p1 p2 Qn hQn=>by
    refine Zl (Ds4 h8 rfl Zo fun a9 h9=>hQn a9 ⟨⟨i+1,O2,hlt, ?_,hS8,hM8,p1,p2⟩, ?_⟩)
    ·rw[hqd]
     exact h9.to ⟨rfl,rfl,rfl,rfl,rfl,rfl,trivial⟩
    ·rw[h9.look 22 rfl]
     show G1 (keysT T).length (ii ((i+1:Nat):Int))<_
     rw[B4]
     omega
   by_cases hr:x∈F6 T R
   ·refine Zs (Ae1 (was:=byV (Ab T R) x) h6 rfl rfl hR4.lm hlk (decide_eq_false (Ss hK hR4.d (hrm.1 hr))) fun a7 h7=>B9 (h7.look 37 rfl) (B1 ?_))
    show Code.wp _ (Ej 7) _ a7 w4
    refine step a7 w4 O1 (h7.to ⟨rfl,rfl,rfl, ?_,rfl,rfl,trivial⟩) (by rw[Qi hx hr];exact hS4) hM4 o1 o2 _ fun a'' h=>h
    rw[goneS,if_pos hr]
    rfl
   ·obtain⟨bm4,pt4,own4,hX4⟩:=hS4
    have hfr:=Aw7 hX4 (n:=x.toNat) Zo
    rw[show((x.toNat:Nat):Int)=x by omega,Sw hK hx] at hfr
    refine Zs (Ae0 (was:=byV (Ab T R) x) (b36:=true) (C0:=fun z=>HQ B0 w4 z gh O1 last (Qm (O4 T R i) x.toNat)) h6 rfl rfl rfl hR4.lm hlk (decide_eq_true (Ge fun c=>hr (hrm.2 c))) hfr fun a7 w7 hQ h7=>wp_cond_true (h7.look 37 rfl) ?_)
    refine Zl (Ds3 (c:=O8 T R i) h7 rfl Zo fun a8 h8=>B1 ?_)
    show Code.wp _ (Ej 7) _ a8 w7
    obtain⟨O2,k1,k2,k3,k4⟩:=HQ.then hM4 o1 o2 hQ
    refine step a8 w7 O2 (h8.to ⟨rfl,rfl,rfl, ?_,rfl,rfl,trivial⟩) (by rw[Qj Zo hx hr];exact k1) k2 k3 k4 _ fun a'' h=>h
    rw[goneS,if_neg hr]
    rfl
  ·refine Zs (Cg5 h4 rfl rfl (decide_eq_false Zo) fun a5 h5=> ?_)
   refine wp_seq (C9 (h5.look 23 rfl) ?_)
   refine A8 (A8 (B8 ?_))
   obtain rfl:i=(keysT T).length:=by omega
   rw[Bg7] at hS4
   refine Zs (Ds5 (c:=O8 T R (keysT T).length) h5 rfl fun a6 h6=>wp_ret ?_)
   exact G7 rfl h6 rfl ⟨rfl,HQ.pre hbw ⟨O1,hS4,hM4,o1,o2⟩⟩
set_option maxHeartbeats 2000000 in
theorem Sz(h:HSx B0 w gh O last T bm pt own)(hown:OwnAt w)(hT: ∀i t,(i,t)∈T->t.ok){l:Fo}{ia:Option Addr}{bx:List Int}{pa:Option Addr}(hI:InAt w l ia bx pa)(lc pc:Nat){z:Int}(hz: -9223372036854775808<=z/\z<=9223372036854775807):
  Calls Tryz.prog 13 #[pT gh,.slice ia l.len lc,.slice pa bx.length pc,ii z] w fun e w'=> ∃q:S3,e=.returned (.slice q.d q.n q.c)/\(ZRow w' w.heap.size q (Ad3 T (H7 bx l) z)/\Below w.heap.size w w'):=by
 refine B6 (vs:=[pT gh,.slice ia l.len lc,.slice pa bx.length pc,ii z]) 45 Tryz.func13 Bg1 Zk (by simp) fun a0 h0=> ?_
 unfold As6
 obtain⟨R,hRR⟩: ∃R,R=H7 bx l:=⟨_,rfl⟩
 have hRp:R.Pairwise (· <= ·):=by rw[hRR];exact Bn _ _
 refine Zs (Ds7 h0 fun a1 h1=> ?_)
 have hK:=h.kok
 have hfar:=hK.far
 refine Zs (Ds8 (C0:=fun rp u=>(∃bt s,Rch w.heap.size u rp gh bt (keysT T) (Ab T R) s)/\Below w.heap.size w u) h1 rfl rfl rfl (by rw[hRR];exact Gf h hown hT hI lc pc) fun a2 rp u hu h2=> ?_)
 rw[<-hRR]
 obtain⟨⟨bt,s,hR⟩,hb⟩:=hu
 have hzu:=hb.size
 have hBf:=Sy T hRp
 unfold Ad3
 obtain⟨D,hD⟩: ∃D,D=Ab T R:=⟨_,rfl⟩
 rw[<-hD] at hR hBf ⊢
 have hlD:=hR.d.len
 have lk: ∀(v:World) (x:Int),Rch w.heap.size v rp gh bt (keysT T) D s-> -9223372036854775808<=x/\x<=9223372036854775807->Lkp Tryz.prog 67 (.map (some bt)) (ii x) false (ii (byV D x)) v:=fun v x hv hx=>by
  have:=hv.mp.look (z:=.int .i64 0) Tryz.underlying67 (fun _=>Tryz.zeroValue3 _) (k:=x) hx
  rw[Su] at this
  by_cases hk:x∈keysT T
  ·rw[if_pos hk] at this
   exact this
  ·rw[if_neg hk] at this
   rw[Ge fun c=>hk (hv.d.sub x c)]
   exact this
 by_cases hzd:z∈D.map (·.1)
 ·obtain⟨j0,hj0,rfl⟩:=mem_nAt.1 hzd
  refine wp_seq (Zs (Cg6 (b21:=false) h2 rfl rfl hR.lm (lk u _ hR hz) (decide_eq_false (Ss hK hR.d hzd)) fun a3 h3=>B9 (h3.look 21 rfl) ?_))
  refine Zs (Dt0 h3 rfl fun a4 h4=> ?_)
  have hbu:=B2 (Below.refl _ u) (.cells #[ii (nAt D j0)] 3)
  have hZ0:ZRow (u.alloc (.cells #[ii (nAt D j0)] 3)) u.heap.size ⟨some ⟨u.heap.size,0,none⟩,1,1⟩ [nAt D j0]:=Ae5 u (nAt D j0)
  change Code.wp _ _ _ a4 (u.alloc (.cells #[ii (nAt D j0)] 3))
  generalize u.alloc (.cells #[ii (nAt D j0)] 3)=u1 at hbu hZ0 ⊢
  have hz1:=hbu.size
  rw[Sx hR.d.nd hj0]
  refine wp_seq (wp_block ?_)
  refine wp_loop (fun a' wr=> ∃(j:Nat) (t:S3) (tail:List Int),j<D.length/\Sl 45 a' [(10,.slice t.d t.n t.c),(3,ii (nAt D j)),(9,pT rp)]/\ZRow wr u.heap.size t (nAt D j::tail).reverse/\Below u.heap.size u wr/\L2 D j0=L2 D j++tail/\tail.length+j<=D.length) (fun a' _=>D.length+1-nSl (F9 a' 10))
   ⟨j0,_,[],hj0,h4.to ⟨rfl,rfl,rfl,trivial⟩,hZ0,hbu,by rw[List.append_nil],by simp;omega⟩ ?_
  rintro a5 w5 ⟨j,t,tail,hj,h5,hZ5,hb5,hch,hln⟩
  have htn:t.n=tail.length+1:=by have:=hZ5.1;simpa using this
  rw[h5.look 10 rfl]
  show Code.wp _ Ds6 _ a5 w5
  unfold Ds6
  have hR5:=hR.old hb5
  have hpj:=hK.pos _ (hR.d.nAt_in hj)
  have hby:=Bg8 hR.d.nd hj
  have hceq:=W7 hBf hj
  by_cases hq:qAt D j=j
  ·refine wp_seq (Zs (Cg7 (bz:=byV D (nAt D j)) (b31:=false) h5 rfl rfl hR5.lm (lk w5 _ hR5 Zo) (decide_eq_false (by rw[hby,hq];simp)) fun a6 h6=>C9 (h6.look 31 rfl) ?_))
   refine A8 (A8 (B8 ?_))
   rw[if_pos hq] at hceq
   rw[hceq] at hch
   have hZ5:ZRow w5 u.heap.size t (L2 D j0).reverse:=by rw[hch];exact hZ5
   have hcl:(L2 D j0).length<=1000000:=by rw[hch];simp;omega
   refine Zs (Dt3 h6 rfl (Jr hZ5 (by rw[List.length_reverse];omega)) fun a7 w7 hq7 h7=> ?_)
   obtain⟨hZ7,hW7⟩:=hq7
   rw[List.reverse_reverse] at hZ7
   refine Zs (Dt4 h7 rfl fun a8 h8=>wp_ret ?_)
   exact G7 rfl h8 rfl ⟨t,rfl,ZRow.low hZ7 hzu,hb.trans (((hb5.trans (hW7.bel (fun g hg=>(ARow.block hZ5 hg).1) hb5.size)).mono hzu))⟩
  ·obtain⟨p1,p2,p3⟩:=hBf.par j hj hq
   have hne:byV D (nAt D j)≠nAt D j:=fun e=>by
    rw[hby] at e
    exact hq (hBf.nd _ _ Zo hj e)
   refine wp_seq (Zs (Cg7 (bz:=byV D (nAt D j)) (b31:=true) h5 rfl rfl hR5.lm (lk w5 _ hR5 Zo) (decide_eq_true hne) fun a6 h6=>wpn (h6.look 31 rfl) ?_))
   refine wp_block ?_
   refine Zs (Dt1 (bz:=byV D (nAt D j)) h6 rfl rfl hR5.lm (lk w5 _ hR5 Zo) fun a7 h7=> ?_)
   refine Zl (Dt2 (tz:=byV D (nAt D j)) (C0:=fun _ t2 v=>ZRow v u.heap.size t2 ((nAt D j::tail).reverse++[byV D (nAt D j)])/\Rw w5 v t t2) h7 rfl rfl (fun ty=> ?_) fun a8 t2 v hv h8=> ?_)
   ·obtain⟨s',x,r1,r2,r3,r4⟩:=ZRow.app hZ5 (by simp;omega) hb5.size (byV D (nAt D j)) ty
    exact⟨s',x,r1,r2,r3,r4.imp_right fun e=>⟨_,e,Zo⟩⟩
   ·obtain⟨hZ8,hW8⟩:=hv
    rw[if_neg hq] at hceq
    refine B1 ⟨⟨qAt D j,t2,nAt D j::tail,Zo, ?_, ?_,hb5.trans (hW8.bel (fun g hg=>(ARow.block hZ5 hg).1) hb5.size), ?_,by simp;omega⟩, ?_⟩
    ·rw[<-hby]
     exact h8.to ⟨rfl,rfl,rfl,trivial⟩
    ·rw[List.reverse_cons (a:=nAt D (qAt D j)),<-hby]
     exact hZ8
    ·rw[hch,hceq,List.append_assoc]
     rfl
    ·rw[h8.look 10 rfl]
     have h9:t2.n=tail.length+2:=by have:=hZ8.1;simpa using this
     show D.length+1-t2.n<D.length+1-t.n
     omega
 ·refine wp_seq (Zs (Cg6 (b21:=true) h2 rfl rfl hR.lm (lk u _ hR hz) (decide_eq_true (Ge hzd)) fun a3 h3=>wp_cond_true (h3.look 21 rfl) ?_))
  refine Zs (Ds9 h3 fun a4 h4=>wp_ret ?_)
  rw[Gg hzd]
  exact D2 (G7 rfl h4 rfl ⟨⟨none,0,0⟩,rfl,ZRow.nil _ _,hb⟩)
end
end Go.Proofs.YtbjegfpfmnleeaaGreatDoor
