/-
   Written by an AI agent.
-/
import Derived.Test.YtbjegfpfmnleeaaGreatDoorQw30
import Derived.Test.YtbjegfpfmnleeaaGreatDoorQw16
import Derived.Test.YtbjegfpfmnleeaaGreatDoorQw26
import Derived.Test.YtbjegfpfmnleeaaGreatDoorQw27
namespace Go.Proofs.YtbjegfpfmnleeaaGreatDoor
open Go.RowKit Go.Maps
set_option maxRecDepth 100000
def reachT(T:Tm)(R:List Int):List Int:=reachB (keysT T) (leadsI T) R
theorem leads_ok(T:Tm):LOk (leadsI T):=fun n=>by
 unfold leadsI leadsT
 cases tget T n.toNat with
 | none=>exact List.Pairwise.nil
 | some t=>exact dedup_lt (sortZ_le _)
theorem roots_le(bx:List Int)(l:Fo):(rootsB bx l).Pairwise (· <= ·):=sortZ_le _
def sweptT(T:Tm)(R:List Int):Tm:=T.filter fun t=>decide ((t.1:Int)∈reachT T R)
def sweepI(T:Tm)(R:List Int)(i:Nat):Tm:=T.filter fun t=>decide ((t.1:Int)∉(keysT T).take i\/(t.1:Int)∈reachT T R)
theorem sweep_0(T:Tm)(R:List Int):sweepI T R 0=T:=List.filter_eq_self.2 fun t _=>by simp
theorem sweep_n(T:Tm)(R:List Int):sweepI T R (keysT T).length=sweptT T R:=by
 unfold sweepI sweptT
 apply List.filter_congr
 intro t ht
 have:(t.1:Int)∈keysT T:=List.mem_map.2 ⟨t,ht,rfl⟩
 simp[this]
theorem sweep_keep{T:Tm}{R:List Int}{i:Nat}{x:Int}(hx:(keysT T)[i]? =some x)(hr:x∈reachT T R):sweepI T R (i+1)=sweepI T R i:=by
 unfold sweepI
 apply List.filter_congr
 intro t _
 rw[List.take_add_one,hx]
 by_cases h:(t.1:Int)∈reachT T R
 ·simp[h]
 ·have:(t.1:Int)≠x:=fun e=>h (e ▸ hr)
  simp[h,this]
theorem sweep_drop{T:Tm}{R:List Int}{i:Nat}{x:Int}(hp:0<=x)(hx:(keysT T)[i]? =some x)(hr:x∉reachT T R):sweepI T R (i+1)=tdel (sweepI T R i) x.toNat:=by
 unfold sweepI tdel
 rw[List.filter_filter]
 apply List.filter_congr
 intro t _
 rw[List.take_add_one,hx]
 by_cases h:t.1=x.toNat
 ·have e:(t.1:Int)=x:=by omega
  rw[e]
  simp[h,hr]
 ·have e:(t.1:Int)≠x:=by omega
  simp[h,e]
theorem sweep_has{T:Tm}{R:List Int}(hK:KOk (keysT T)){i:Nat}{x:Int}(hx:(keysT T)[i]? =some x):(tget (sweepI T R i) x.toNat).isSome=true:=by
 have hm:=List.mem_of_getElem? hx
 obtain⟨t,ht,e⟩:=List.mem_map.1 hm
 have hn:x∉(keysT T).take i:=fun hm2=>by
  obtain⟨j,hj⟩:=List.mem_iff_getElem?.1 hm2
  have hji:j<i:=by
   have:=(List.getElem?_eq_some_iff.1 hj).1
   rw[List.length_take] at this
   omega
  rw[List.getElem?_take_of_lt hji] at hj
  obtain⟨h1,e1⟩:=List.getElem?_eq_some_iff.1 hj
  obtain⟨h2,e2⟩:=List.getElem?_eq_some_iff.1 hx
  have:=List.pairwise_iff_getElem.1 hK.rise j i h1 h2 hji
  omega
 unfold tget
 rw[Option.isSome_map,List.find?_isSome]
 refine⟨t,List.mem_filter.2 ⟨ht, ?_⟩, ?_⟩
 ·rw[<-e] at hn
  simp[hn]
 ·have:t.1=x.toNat:=by omega
  simp[this]
def goneI(T:Tm)(R:List Int)(i:Nat):Nat:=(((keysT T).take i).filter fun x=>decide (x∉reachT T R)).length
theorem filter_len{α:Type}(p:α->Bool): ∀l:List α,(l.filter p).length+(l.filter fun x=> !p x).length=l.length
 | []=>rfl
 | x::r=>by
  have ih:=filter_len p r
  by_cases h:p x=true
  ·rw[List.filter_cons_of_pos h,List.filter_cons_of_neg (by simp[h])]
   simp only[List.length_cons]
   omega
  ·rw[List.filter_cons_of_neg h,List.filter_cons_of_pos (by simp[h])]
   simp only[List.length_cons]
   omega
theorem gone_n{T:Tm}(hK:KOk (keysT T)){R:List Int}(hp:R.Pairwise (· <= ·)):goneI T R (keysT T).length+(reachT T R).length=(keysT T).length:=by
 have h1:=sweep_left (leads_ok T) hp hK.rise
 have h2:=filter_len (fun x=>decide (x∈reachT T R)) (keysT T)
 unfold goneI
 rw[List.take_length]
 unfold reachT at h2 ⊢
 rw[h1] at h2
 have e:(keysT T).filter (fun x=>decide (x∉reachB (keysT T) (leadsI T) R))=(keysT T).filter fun x=> !decide (x∈reachB (keysT T) (leadsI T) R):=List.filter_congr fun x _=>by simp
 rw[e]
 omega
theorem HQ.then{B:Nat}{w w1 w':World}{gh:Nat}{O O1:Nat->Prop}{n:Nat}{T':Tm}(hM:Moved O w w1)(hs: ∀b,O b->O1 b)(hb: ∀b,O1 b->O b\/w.heap.size<=b)(k:HQ B w1 w' gh O1 n T'):HQ B w w' gh O n T':=by
 obtain⟨O2,k1,k2,k3,k4⟩:=k
 have:=hM.size
 exact⟨O2,k1,hM.trans (k2.more hb),fun b h=>k3 b (hs b h),fun b h=>(k4 b h).elim (hb b) fun q=>.inr (by omega)⟩
def wayB(D:DD)(z:Int):List Int:=match (List.range D.length).find? (fun j=>decide (nAt D j=z)) with
 | some j=>chain D j
 | none=>[]
theorem way_in{D:DD}{j:Nat}(hd:(D.map (·.1)).Nodup)(hj:j<D.length):wayB D (nAt D j)=chain D j:=by
 unfold wayB
 cases hf:(List.range D.length).find? (fun i=>decide (nAt D i=nAt D j)) with
 | none=>
  have:=List.find?_eq_none.1 hf j (List.mem_range.2 hj)
  simp at this
 | some i=>
  have h1:=List.find?_some hf
  have h2:=List.mem_range.1 (List.mem_of_find?_eq_some hf)
  have h1:nAt D i=nAt D j:=by simpa using h1
  have h3:i=j:=by
   have hd':=List.nodup_iff_pairwise_ne.1 hd
   have e: ∀k,k<D.length->(D.map (·.1))[k]? =some (nAt D k):=fun k hk=>by simp[nAt,hk]
   rcases Nat.lt_trichotomy i j with h | h | h
   ·exact absurd h1 (List.pairwise_iff_getElem.1 hd' i j (by simpa using h2) (by simpa using hj) h |> fun hne=>by
     have e1:=e i h2
     have e2:=e j hj
     rw[List.getElem?_eq_getElem (by simpa using h2)] at e1
     rw[List.getElem?_eq_getElem (by simpa using hj)] at e2
     injection e1 with e1
     injection e2 with e2
     rw[<-e1,<-e2]
     exact hne)
   ·exact h
   ·exact absurd h1.symm (List.pairwise_iff_getElem.1 hd' j i (by simpa using hj) (by simpa using h2) h |> fun hne=>by
     have e1:=e i h2
     have e2:=e j hj
     rw[List.getElem?_eq_getElem (by simpa using h2)] at e1
     rw[List.getElem?_eq_getElem (by simpa using hj)] at e2
     injection e1 with e1
     injection e2 with e2
     rw[<-e1,<-e2]
     exact hne)
  rw[h3]
theorem way_out{D:DD}{z:Int}(h:z∉D.map (·.1)):wayB D z=[]:=by
 unfold wayB
 rw[List.find?_eq_none.2 fun j hj=>by
  have:nAt D j≠z:=fun e=>h (mem_nAt.2 ⟨j,List.mem_range.1 hj,e⟩)
  simpa using this]
theorem byV_nAt{D:DD}(hd:(D.map (·.1)).Nodup){j:Nat}(hj:j<D.length):byV D (nAt D j)=nAt D (qAt D j):=by
 unfold byV
 have hg:D[j]? =some D[j]:=List.getElem?_eq_getElem hj
 have e1:nAt D j=D[j].1:=by unfold nAt;rw[hg];rfl
 have e2:qAt D j=D[j].2:=by unfold qAt;rw[hg];rfl
 have hf:D.find? (fun p=>decide (p.1=nAt D j))=some D[j]:=by
  rw[List.find?_eq_some_iff_getElem]
  refine⟨by simp[e1],j,hj,rfl,fun k hk=> ?_⟩
  have hd':=List.nodup_iff_pairwise_ne.1 hd
  have:=List.pairwise_iff_getElem.1 hd' k j (by simp;omega) (by simpa using hj) hk
  simp only[List.getElem_map] at this
  simp[e1,this]
 rw[hf]
 show nAt D D[j].2=_
 rw[e2]
theorem zrow_one(u:World)(x:Int):ZRow (u.alloc (.cells #[.int .i64 x] 3)) u.heap.size ⟨some ⟨u.heap.size,0,none⟩,1,1⟩ [x]:=
 ⟨rfl,rfl,.inr ⟨u.heap.size,1,#[.int .i64 x],rfl,Nat.le_refl _,Blk.new _ _ _,Nat.le_refl _,by decide,rfl,rfl⟩⟩
def wayT(T:Tm)(R:List Int)(z:Int):List Int:=wayB (runT T R) z
def nSl:Value->Nat
 | .slice _ n _=>n
 | _=>0
section
variable {B0:Nat} {w:World} {gh:Nat} {O:Nat->Prop} {last:Nat} {T:Tm} {bm:Nat} {pt:Nat->Nat} {own:Nat->Nat->Prop}
theorem run_bf(T:Tm){R:List Int}(hp:R.Pairwise (· <= ·)):Bf (keysT T) R (leadsI T) (runT T R).length (runT T R).length (runT T R):=bf_run (leads_ok T) hp
set_option maxHeartbeats 1000000 in
theorem reached_any(h:HSx B0 w gh O last T bm pt own)(hown:OwnAt w)(hT: ∀i t,(i,t)∈T->t.ok){l:Fo}{ia:Option Addr}{bx:List Int}{pa:Option Addr}(hI:InAt w l ia bx pa)(lc pc:Nat):
  Calls Tryz.prog 12 #[.pointer (some ⟨gh,0,none⟩),.slice ia l.len lc,.slice pa bx.length pc] w fun e w'=> ∃q:S3,e=.returned (.slice q.d q.n q.c)/\(ZRow w' w.heap.size q (reachT T (rootsB bx l))/\Below w.heap.size w w'):=by
 refine calls_ev (vs:=[.pointer (some ⟨gh,0,none⟩),.slice ia l.len lc,.slice pa bx.length pc]) 16 Tryz.func12 cr_body (by kernel_rfl) (by simp) fun a0 h0=> ?_
 unfold crBody
 refine wp_seq (rg_wp (cr_r0 h0 fun a1 h1=> ?_))
 have hK:=h.kok
 have hfar:=hK.far
 refine wp_seq (rg_wp (cr_r1 (C0:=fun rp u=>(∃bt s,Rch w.heap.size u rp gh bt (keysT T) (runT T (rootsB bx l)) s)/\Below w.heap.size w u)
  (C1:=fun z u=> ∃rp bt,Rch w.heap.size u rp gh bt (keysT T) (runT T (rootsB bx l)) z)
  (C2:=fun x u=> ∃(g1:Nat) (s:S3),x=.func (.func 51) #[] #[.pointer (some ⟨g1,0,none⟩)]/\Blk u g1 24 #[.slice s.d ((runT T (rootsB bx l)).map (·.1)).length s.c]/\ZRow u w.heap.size s ((runT T (rootsB bx l)).map (·.1))/\Below w.heap.size w u)
  (C3:=fun q u=>ZRow u w.heap.size q (reachT T (rootsB bx l))/\Below w.heap.size w u)
  h1 rfl rfl rfl (look_any h hown hT hI lc pc) (fun rp u hz=>let⟨bt,s,hR⟩:=hz.1;⟨s,hR.ls,rp,bt,hR⟩) (fun rp u hu z hz=> ?_) (fun rp u hu z hz x v hv=> ?_) fun a2 rp u z x v q v2 hu hz hv hq h2=>wp_ret ?_))
 ·obtain⟨rp',bt,hR⟩:=hz
  have hb:=hu.2
  refine(values_any z u).mono ?_
  rintro e w' ⟨rfl,rfl⟩
  have hn:z.n=((runT T (rootsB bx l)).map (·.1)).length:=hR.row.1
  refine⟨_,rfl,u.heap.size,z,rfl, ?_,hR.row.old (bl_alloc (Below.refl _ _) _),bl_alloc hb _⟩
  rw[<-hn]
  exact Blk.new _ _ _
 ·obtain⟨g1,s,rfl,hB,hZ,hb⟩:=hv
  obtain⟨rp',bt,hR⟩:=hz
  have hl:=hR.d.len
  obtain⟨p1,p2,p3,p4⟩:=ZRow.path hZ
  refine(sorted_any (z:=s) hB p1 (fun b hb=>hb.2) (by rw[List.length_map];omega) (hown.old hb)).mono ?_
  rintro e w' ⟨q,rfl,hq,hb'⟩
  exact⟨q,rfl,ZRow.low hq hb.size,hb.trans (hb'.mono hb.size)⟩
 ·exact ret1 rfl h2 rfl ⟨q,rfl,hq⟩
set_option maxHeartbeats 2000000 in
theorem sweep_any(h:HSx B0 w gh O last T bm pt own)(hown:OwnAt w)(hT: ∀i t,(i,t)∈T->t.ok){l:Fo}{ia:Option Addr}{bx:List Int}{pa:Option Addr}(hI:InAt w l ia bx pa)(lc pc:Nat):
  Calls Tryz.prog 18 #[.pointer (some ⟨gh,0,none⟩),.slice ia l.len lc,.slice pa bx.length pc] w fun e w'=>e=.returned (.int .i64 ((goneI T (rootsB bx l) (keysT T).length:Nat):Int))/\HQ B0 w w' gh O last (sweptT T (rootsB bx l)):=by
 refine calls_ev (vs:=[.pointer (some ⟨gh,0,none⟩),.slice ia l.len lc,.slice pa bx.length pc]) 42 Tryz.func18 cs_body (by kernel_rfl) (by simp) fun a0 h0=> ?_
 unfold csBody
 obtain⟨R,hRR⟩: ∃R,R=rootsB bx l:=⟨_,rfl⟩
 have hRp:R.Pairwise (· <= ·):=by rw[hRR];exact roots_le _ _
 refine wp_seq (rg_wp (cs_r0 h0 fun a1 h1=> ?_))
 have hK:=h.kok
 have hfar:=hK.far
 refine wp_seq (rg_wp (cs_r1 (C0:=fun rp u=>(∃bt s,Rch w.heap.size u rp gh bt (keysT T) (runT T R) s)/\Below w.heap.size w u) h1 rfl rfl rfl (by rw[hRR];exact look_any h hown hT hI lc pc) fun a2 rp u hu h2=> ?_))
 rw[<-hRR]
 obtain⟨⟨bt,s,hR⟩,hb⟩:=hu
 have hzu:=hb.size
 refine wp_seq (wp_seq (rg_wp (cs_r2 (C0:=fun x v=>x=.func (.func 55) #[] #[.pointer (some ⟨u.heap.size,0,none⟩)]/\v=u.alloc (.cells #[.map (some bt)] 67))
  (C1:=fun q v=>ZRow v u.heap.size q (keysT T)/\Below u.heap.size u v) h2 rfl hR.lm ((keysR_any (some bt) u).mono fun e w' ⟨h1,h2⟩=>⟨_,h1,rfl,h2⟩) ?_ fun a3 x v1 q v hx hq h3=> ?_)))
 ·rintro x7 w1 ⟨rfl,rfl⟩
  have hl:=hR.d.len
  refine(sortedR_any bt _ u.heap.size (mD (tM (keysT T) (runT T R))) heldR _ (hR.mp.keep (Below.heap_alloc _ _ _ hR.mp.lt)) (by rw[(Blk.new u _ _).cell];rfl) (by simp) ?_ ?_).mono fun e w' hh=> ?_
  ·rw[mD_size];unfold maxLen tM;rw[List.length_map];omega
  ·rw[mD_size];unfold tM;rw[List.length_map];omega
  ·obtain⟨v,ss,rfl,hp,ho,_,hb'⟩:=hh
   rw[mD_keys] at hp
   have e1:(tM (keysT T) (runT T R)).map (·.1)=keysT T:=by
    unfold tM
    rw[List.map_map]
    exact List.map_id _
   rw[e1] at hp
   have e2:ss.mergeSort (fun x y=>decide (x<=y))=keysT T:=by
    refine strict_ext (sortZ_lt ((hp.nodup_iff).2 (hK.rise.imp fun h=>by omega))) hK.rise fun x=> ?_
    exact sortZ_mem.trans hp.mem_iff
   rw[e2,hp.length_eq] at ho
   obtain⟨s',rfl,hs'⟩:=ARow.of_v ho
   exact⟨s',rfl,ZRow.low hs' (by simp),(bl_alloc (Below.refl _ u) _).trans (hb'.mono (by simp))⟩
 ·obtain⟨hq,hbv⟩:=hq
  have hqn:q.n=(keysT T).length:=hq.1
  rw[hqn] at h3
  have hzv:=hbv.size
  have hbw:Below w.heap.size w v:=hb.trans (hbv.mono hzu)
  have hRv:=hR.old hbv
  have hlim:=fun b hb=>(h.lim b hb).2
  refine wp_block ?_
  refine wp_loop (fun a' wr=> ∃(i:Nat) (O1:Nat->Prop),i<=(keysT T).length/\Sl 42 a' [(22,.int .i64 (i:Int)),(21,.int .i64 ((keysT T).length:Int)),(20,.slice q.d (keysT T).length q.c),(8,.int .i64 ((goneI T R i:Nat):Int)),(7,.pointer (some ⟨rp,0,none⟩)),(0,.pointer (some ⟨gh,0,none⟩))]/\
    HS B0 wr gh O1 last (sweepI T R i)/\Moved O v wr/\(∀b,O b->O1 b)/\(∀b,O1 b->O b\/v.heap.size<=b)) (fun a' _=>muTo (keysT T).length (slot a' 22))
   ⟨0,O,Nat.zero_le _,h3.to ⟨rfl,rfl,rfl,rfl,rfl,rfl,trivial⟩,by rw[sweep_0];exact⟨bm,pt,own,h.old hbw⟩,.of_below (Below.refl _ _),fun _ h=>h,fun _ h=>.inl h⟩ ?_
  rintro a4 w4 ⟨i,O1,hi,h4,hS4,hM4,o1,o2⟩
  rw[h4.look 22 rfl,muTo_int]
  unfold csL0
  have hR4:Rch w.heap.size w4 rp gh bt (keysT T) (runT T R) s:=hRv.keep fun b hb=>hM4.block b (hRv.lim hb).2 fun q=>by have:=hlim b q;have:=(hRv.lim hb).1;omega
  have hz4:=hM4.size
  by_cases hlt:i<(keysT T).length
  ·refine wp_seq (rg_wp (cs_r3 h4 rfl rfl (decide_eq_true (by omega)) fun a5 h5=> ?_))
   refine wp_seq (wpn (h5.look 23 rfl) ?_)
   obtain⟨x,hx⟩: ∃x,(keysT T)[i]? =some x:=⟨(keysT T)[i],List.getElem?_eq_getElem hlt⟩
   have hq4:ZRow w4 u.heap.size q (keysT T):=ARow.keep hq fun g hg=>hM4.block g (ARow.block hq hg).2 fun q=>by have:=hlim g q;have:=(ARow.block hq hg).1;omega
   obtain⟨g,hqd,_,hc⟩:=ZRow.get hq4 hx
   rw[hqd] at h5
   have hxm:=List.mem_of_getElem? hx
   have hpos:=hK.pos x hxm
   refine wp_seq (wp_block ?_)
   refine wp_seq (rg_wp (cs_r4 (n:=x) h5 rfl rfl (fun w=>ix_int hlt w) (lds1 Tryz.underlying3 rfl hc) fun a6 h6=> ?_))
   have hlk:=hR4.mp.look (z:=.int .i64 0) Tryz.underlying67 (fun _=>Tryz.zeroValue3 _) (k:=x) (by omega)
   rw[tm_get,if_pos hxm] at hlk
   have hrm:x∈reachT T R↔x∈(runT T R).map (·.1):=sortZ_mem
   have hgl:goneI T R i<=1000:=Nat.le_trans (List.length_filter_le _ _) (by rw[List.length_take];omega)
   have goneS:goneI T R (i+1)=goneI T R i+(if x∈reachT T R then 0 else 1):=by
    unfold goneI
    rw[List.take_add_one,hx,List.filter_append,List.length_append]
    by_cases hr:x∈reachT T R<;>simp[hr]
   have step: ∀(a8:Act) (w8:World) (O2:Nat->Prop),Sl 42 a8 [(22,.int .i64 (i:Int)),(21,.int .i64 ((keysT T).length:Int)),(20,.slice (some ⟨g,0,none⟩) (keysT T).length q.c),(8,.int .i64 ((goneI T R (i+1):Nat):Int)),(7,.pointer (some ⟨rp,0,none⟩)),(0,.pointer (some ⟨gh,0,none⟩))]->HS B0 w8 gh O2 last (sweepI T R (i+1))->Moved O v w8->(∀b,O b->O2 b)->(∀b,O2 b->O b\/v.heap.size<=b)->∀Qn:Exit->Act->World->Prop,(∀a'',((∃(i:Nat) (O1:Nat->Prop),i<=(keysT T).length/\Sl 42 a'' [(22,.int .i64 (i:Int)),(21,.int .i64 ((keysT T).length:Int)),(20,.slice q.d (keysT T).length q.c),(8,.int .i64 ((goneI T R i:Nat):Int)),(7,.pointer (some ⟨rp,0,none⟩)),(0,.pointer (some ⟨gh,0,none⟩))]/\
    HS B0 w8 gh O1 last (sweepI T R i)/\Moved O v w8/\(∀b,O b->O1 b)/\(∀b,O1 b->O b\/v.heap.size<=b))/\muTo (keysT T).length (slot a'' 22)<(keysT T).length-i)->Qn .normal a'' w8)->Code.wp Tryz.prog (r_cs 7) Qn a8 w8:=fun a8 w8 O2 h8 hS8 hM8 p1 p2 Qn hQn=>by
    refine wpl (rg_wp (cs_r7 h8 rfl (by omega) fun a9 h9=>hQn a9 ⟨⟨i+1,O2,hlt, ?_,hS8,hM8,p1,p2⟩, ?_⟩))
    ·rw[hqd]
     exact h9.to ⟨rfl,rfl,rfl,rfl,rfl,rfl,trivial⟩
    ·rw[h9.look 22 rfl]
     show muTo (keysT T).length (.int .i64 ((i+1:Nat):Int))<_
     rw[muTo_int]
     omega
   by_cases hr:x∈reachT T R
   ·refine wp_seq (rg_wp (cs_r5f_f (was:=byV (runT T R) x) h6 rfl rfl hR4.lm hlk (decide_eq_false (byV_in hK hR4.d (hrm.1 hr))) fun a7 h7=>wpc_off (h7.look 37 rfl) (block_norm ?_)))
    show Code.wp _ (r_cs 7) _ a7 w4
    refine step a7 w4 O1 (h7.to ⟨rfl,rfl,rfl, ?_,rfl,rfl,trivial⟩) (by rw[sweep_keep hx hr];exact hS4) hM4 o1 o2 _ fun a'' h=>h
    rw[goneS,if_pos hr]
    rfl
   ·obtain⟨bm4,pt4,own4,hX4⟩:=hS4
    have hfr:=hFreeS hX4 (n:=x.toNat) (by omega)
    rw[show((x.toNat:Nat):Int)=x by omega,sweep_has hK hx] at hfr
    refine wp_seq (rg_wp (cs_r5f_t (was:=byV (runT T R) x) (b36:=true) (C0:=fun z=>HQ B0 w4 z gh O1 last (tdel (sweepI T R i) x.toNat)) h6 rfl rfl rfl hR4.lm hlk (decide_eq_true (byV_out fun c=>hr (hrm.2 c))) hfr fun a7 w7 hQ h7=>wp_cond_true (h7.look 37 rfl) ?_))
    refine wpl (rg_wp (cs_r6 (c:=goneI T R i) h7 rfl (by omega) fun a8 h8=>block_norm ?_))
    show Code.wp _ (r_cs 7) _ a8 w7
    obtain⟨O2,k1,k2,k3,k4⟩:=HQ.then hM4 o1 o2 hQ
    refine step a8 w7 O2 (h8.to ⟨rfl,rfl,rfl, ?_,rfl,rfl,trivial⟩) (by rw[sweep_drop (by omega) hx hr];exact k1) k2 k3 k4 _ fun a'' h=>h
    rw[goneS,if_neg hr]
    rfl
  ·refine wp_seq (rg_wp (cs_r3 h4 rfl rfl (decide_eq_false (by omega)) fun a5 h5=> ?_))
   refine wp_seq (wpc_exit (h5.look 23 rfl) ?_)
   refine then_exit' (then_exit' (in_block2 ?_))
   obtain rfl:i=(keysT T).length:=by omega
   rw[sweep_n] at hS4
   refine wp_seq (rg_wp (cs_r8 (c:=goneI T R (keysT T).length) h5 rfl fun a6 h6=>wp_ret ?_))
   exact ret1 rfl h6 rfl ⟨rfl,HQ.pre hbw ⟨O1,hS4,hM4,o1,o2⟩⟩
set_option maxHeartbeats 2000000 in
theorem way_any(h:HSx B0 w gh O last T bm pt own)(hown:OwnAt w)(hT: ∀i t,(i,t)∈T->t.ok){l:Fo}{ia:Option Addr}{bx:List Int}{pa:Option Addr}(hI:InAt w l ia bx pa)(lc pc:Nat){z:Int}(hz: -9223372036854775808<=z/\z<=9223372036854775807):
  Calls Tryz.prog 13 #[.pointer (some ⟨gh,0,none⟩),.slice ia l.len lc,.slice pa bx.length pc,.int .i64 z] w fun e w'=> ∃q:S3,e=.returned (.slice q.d q.n q.c)/\(ZRow w' w.heap.size q (wayT T (rootsB bx l) z)/\Below w.heap.size w w'):=by
 refine calls_ev (vs:=[.pointer (some ⟨gh,0,none⟩),.slice ia l.len lc,.slice pa bx.length pc,.int .i64 z]) 45 Tryz.func13 cw_body (by kernel_rfl) (by simp) fun a0 h0=> ?_
 unfold cwBody
 obtain⟨R,hRR⟩: ∃R,R=rootsB bx l:=⟨_,rfl⟩
 have hRp:R.Pairwise (· <= ·):=by rw[hRR];exact roots_le _ _
 refine wp_seq (rg_wp (cw_r0 h0 fun a1 h1=> ?_))
 have hK:=h.kok
 have hfar:=hK.far
 refine wp_seq (rg_wp (cw_r1 (C0:=fun rp u=>(∃bt s,Rch w.heap.size u rp gh bt (keysT T) (runT T R) s)/\Below w.heap.size w u) h1 rfl rfl rfl (by rw[hRR];exact look_any h hown hT hI lc pc) fun a2 rp u hu h2=> ?_))
 rw[<-hRR]
 obtain⟨⟨bt,s,hR⟩,hb⟩:=hu
 have hzu:=hb.size
 have hBf:=run_bf T hRp
 unfold wayT
 obtain⟨D,hD⟩: ∃D,D=runT T R:=⟨_,rfl⟩
 rw[<-hD] at hR hBf ⊢
 have hlD:=hR.d.len
 have lk: ∀(v:World) (x:Int),Rch w.heap.size v rp gh bt (keysT T) D s-> -9223372036854775808<=x/\x<=9223372036854775807->Lkp Tryz.prog 67 (.map (some bt)) (.int .i64 x) false (.int .i64 (byV D x)) v:=fun v x hv hx=>by
  have:=hv.mp.look (z:=.int .i64 0) Tryz.underlying67 (fun _=>Tryz.zeroValue3 _) (k:=x) hx
  rw[tm_get] at this
  by_cases hk:x∈keysT T
  ·rw[if_pos hk] at this
   exact this
  ·rw[if_neg hk] at this
   rw[byV_out fun c=>hk (hv.d.sub x c)]
   exact this
 by_cases hzd:z∈D.map (·.1)
 ·obtain⟨j0,hj0,rfl⟩:=mem_nAt.1 hzd
  refine wp_seq (wp_seq (rg_wp (cw_r2 (b21:=false) h2 rfl rfl hR.lm (lk u _ hR hz) (decide_eq_false (byV_in hK hR.d hzd)) fun a3 h3=>wpc_off (h3.look 21 rfl) ?_)))
  refine wp_seq (rg_wp (cw_r4 h3 rfl fun a4 h4=> ?_))
  have hbu:=bl_alloc (Below.refl _ u) (.cells #[.int .i64 (nAt D j0)] 3)
  have hZ0:ZRow (u.alloc (.cells #[.int .i64 (nAt D j0)] 3)) u.heap.size ⟨some ⟨u.heap.size,0,none⟩,1,1⟩ [nAt D j0]:=zrow_one u (nAt D j0)
  change Code.wp _ _ _ a4 (u.alloc (.cells #[.int .i64 (nAt D j0)] 3))
  generalize u.alloc (.cells #[.int .i64 (nAt D j0)] 3)=u1 at hbu hZ0 ⊢
  have hz1:=hbu.size
  rw[way_in hR.d.nd hj0]
  refine wp_seq (wp_block ?_)
  refine wp_loop (fun a' wr=> ∃(j:Nat) (t:S3) (tail:List Int),j<D.length/\Sl 45 a' [(10,.slice t.d t.n t.c),(3,.int .i64 (nAt D j)),(9,.pointer (some ⟨rp,0,none⟩))]/\ZRow wr u.heap.size t (nAt D j::tail).reverse/\Below u.heap.size u wr/\chain D j0=chain D j++tail/\tail.length+j<=D.length) (fun a' _=>D.length+1-nSl (slot a' 10))
   ⟨j0,_,[],hj0,h4.to ⟨rfl,rfl,rfl,trivial⟩,hZ0,hbu,by rw[List.append_nil],by simp;omega⟩ ?_
  rintro a5 w5 ⟨j,t,tail,hj,h5,hZ5,hb5,hch,hln⟩
  have htn:t.n=tail.length+1:=by have:=hZ5.1;simpa using this
  rw[h5.look 10 rfl]
  show Code.wp _ cwL0 _ a5 w5
  unfold cwL0
  have hR5:=hR.old hb5
  have hpj:=hK.pos _ (hR.d.nAt_in hj)
  have hby:=byV_nAt hR.d.nd hj
  have hceq:=chain_eq hBf hj
  by_cases hq:qAt D j=j
  ·refine wp_seq (wp_seq (rg_wp (cw_r5 (bz:=byV D (nAt D j)) (b31:=false) h5 rfl rfl hR5.lm (lk w5 _ hR5 (by omega)) (decide_eq_false (by rw[hby,hq];simp)) fun a6 h6=>wpc_exit (h6.look 31 rfl) ?_)))
   refine then_exit' (then_exit' (in_block2 ?_))
   rw[if_pos hq] at hceq
   rw[hceq] at hch
   have hZ5:ZRow w5 u.heap.size t (chain D j0).reverse:=by rw[hch];exact hZ5
   have hcl:(chain D j0).length<=1000000:=by rw[hch];simp;omega
   refine wp_seq (rg_wp (cw_r8 h6 rfl (zreverse_any hZ5 (by rw[List.length_reverse];omega)) fun a7 w7 hq7 h7=> ?_))
   obtain⟨hZ7,hW7⟩:=hq7
   rw[List.reverse_reverse] at hZ7
   refine wp_seq (rg_wp (cw_r9 h7 rfl fun a8 h8=>wp_ret ?_))
   exact ret1 rfl h8 rfl ⟨t,rfl,ZRow.low hZ7 hzu,hb.trans (((hb5.trans (hW7.bel (fun g hg=>(ARow.block hZ5 hg).1) hb5.size)).mono hzu))⟩
  ·obtain⟨p1,p2,p3⟩:=hBf.par j hj hq
   have hne:byV D (nAt D j)≠nAt D j:=fun e=>by
    rw[hby] at e
    exact hq (hBf.nd _ _ (by omega) hj e)
   refine wp_seq (wp_seq (rg_wp (cw_r5 (bz:=byV D (nAt D j)) (b31:=true) h5 rfl rfl hR5.lm (lk w5 _ hR5 (by omega)) (decide_eq_true hne) fun a6 h6=>wpn (h6.look 31 rfl) ?_)))
   refine wp_block ?_
   refine wp_seq (rg_wp (cw_r6 (bz:=byV D (nAt D j)) h6 rfl rfl hR5.lm (lk w5 _ hR5 (by omega)) fun a7 h7=> ?_))
   refine wpl (rg_wp (cw_r7 (tz:=byV D (nAt D j)) (C0:=fun _ t2 v=>ZRow v u.heap.size t2 ((nAt D j::tail).reverse++[byV D (nAt D j)])/\Rw w5 v t t2) h7 rfl rfl (fun ty=> ?_) fun a8 t2 v hv h8=> ?_))
   ·obtain⟨s',x,r1,r2,r3,r4⟩:=ZRow.app hZ5 (by simp;omega) hb5.size (byV D (nAt D j)) ty
    exact⟨s',x,r1,r2,r3,r4.imp_right fun e=>⟨_,e,by omega⟩⟩
   ·obtain⟨hZ8,hW8⟩:=hv
    rw[if_neg hq] at hceq
    refine block_norm ⟨⟨qAt D j,t2,nAt D j::tail,by omega, ?_, ?_,hb5.trans (hW8.bel (fun g hg=>(ARow.block hZ5 hg).1) hb5.size), ?_,by simp;omega⟩, ?_⟩
    ·rw[<-hby]
     exact h8.to ⟨rfl,rfl,rfl,trivial⟩
    ·rw[List.reverse_cons (a:=nAt D (qAt D j)),<-hby]
     exact hZ8
    ·rw[hch,hceq,List.append_assoc]
     rfl
    ·rw[h8.look 10 rfl]
     have h9:t2.n=tail.length+2:=by have:=hZ8.1;simpa using this
     show D.length+1-t2.n<D.length+1-t.n
     omega
 ·refine wp_seq (wp_seq (rg_wp (cw_r2 (b21:=true) h2 rfl rfl hR.lm (lk u _ hR hz) (decide_eq_true (byV_out hzd)) fun a3 h3=>wp_cond_true (h3.look 21 rfl) ?_)))
  refine wp_seq (rg_wp (cw_r3 h3 fun a4 h4=>wp_ret ?_))
  rw[way_out hzd]
  exact then_ret (ret1 rfl h4 rfl ⟨⟨none,0,0⟩,rfl,ZRow.nil _ _,hb⟩)
end
end Go.Proofs.YtbjegfpfmnleeaaGreatDoor

namespace Go.Proofs.YtbjegfpfmnleeaaGreatDoor
open Go.RowKit Go.Maps
set_option maxRecDepth 100000
theorem neg_i{a:Int}(h1: -9223372036854775807<=a)(h2:a<=9223372036854775807)(w:World):(Op.unary .neg (.int .i64 a)).run Tryz.prog w=.ok (.int .i64 (-a)) w:=by
 have hw:IntKind.i64.wrap (-a)= -a:=in_wrap ⟨by simp[IntKind.min,IntKind.signed,IntKind.bits];omega,by simp[IntKind.max,IntKind.signed,IntKind.bits];omega⟩
 have e:(0:Int)-a= -a:=by omega
 simp[Op.unary,Op.intArith,e,hw]
theorem rem_n{a b:Nat}(h1:a<=9223372036854775807)(hb:0<b)(w:World):(binOp .rem 3 (.int .i64 (a:Int)) (.int .i64 (b:Int))).run Tryz.prog w=.ok (.int .i64 ((a % b:Nat):Int)) w:=by
 have e:(a:Int).tmod (b:Int)=((a % b:Nat):Int):=by rw[Int.tmod_eq_emod_of_nonneg (by omega)];exact(Int.natCast_emod _ _).symm
 have h3:a % b<=a:=Nat.mod_le _ _
 have hw:IntKind.i64.wrap ((a % b:Nat):Int)=((a % b:Nat):Int):=in_wrap ⟨by simp only[IntKind.min,IntKind.signed,IntKind.bits];simp;omega,by simp only[IntKind.max,IntKind.signed,IntKind.bits];simp;omega⟩
 have hb': ¬(b:Int)=0:=by omega
 simp only[binOp,Op.intArith,Op.intDiv]
 simp only[hb',if_false,e,hw]
 simp
def rawN(c:Int):Nat:=(if c<0 then-(c+1) else c).toNat
def pickN(c:Int)(n:Nat):Nat:=rawN c % n
theorem rawN_le{c:Int}(hc:okInt c):rawN c<=9223372036854775807:=by
 unfold rawN
 have h1:=hc.1
 have h2:=hc.2
 split<;>omega
theorem lawPick_any{c:Int}(hc:okInt c){n:Nat}(hn:0<n)(w:World):Calls Tryz.prog 10 #[.int .i64 c,.int .i64 (n:Int)] w fun e w'=>e=.returned (.int .i64 ((pickN c n:Nat):Int))/\w'=w:=by
 have h1':=hc.1
 have h2':=hc.2
 refine calls_ev (vs:=[.int .i64 c,.int .i64 (n:Int)]) 13 Tryz.func10 zp_body (by kernel_rfl) (by simp) fun a0 h0=> ?_
 unfold zpBody
 refine wp_seq (rg_wp (zp_r0 h0 fun a1 h1=> ?_))
 have hr:=rawN_le hc
 by_cases hz:c<0
 ·have e: -(c+1)=((rawN c:Nat):Int):=by unfold rawN;rw[if_pos hz];omega
  refine wp_seq (wp_seq (rg_wp (zp_r1 (b6:=true) h1 rfl (decide_eq_true hz) fun a2 h2=>wp_cond_true (h2.look 6 rfl) ?_)))
  refine wpl (rg_wp (zp_r2 (v9:= -(c+1)) h2 rfl (by omega) (fun w=>neg_i (by omega) (by omega) w) fun a3 h3=> ?_))
  rw[e] at h3
  refine wp_seq (rg_wp (zp_r3 (v12:=((pickN c n:Nat):Int)) h3 rfl rfl (fun w=>rem_n hr hn w) fun a4 h4=>wp_ret ?_))
  exact ret1 rfl h4 rfl ⟨rfl,rfl⟩
 ·have e:c=((rawN c:Nat):Int):=by unfold rawN;rw[if_neg hz];omega
  refine wp_seq (wp_seq (rg_wp (zp_r1 (b6:=false) h1 rfl (decide_eq_false hz) fun a2 h2=>wpc_off (h2.look 6 rfl) ?_)))
  refine wp_seq (rg_wp (zp_r3 (c:=c) (v12:=((pickN c n:Nat):Int)) h2 rfl rfl (fun w=>by have:=rem_n hr hn w;rw[<-e] at this;exact this) fun a4 h4=>wp_ret ?_))
  exact ret1 rfl h4 rfl ⟨rfl,rfl⟩
theorem pick_lt{c:Int}{n:Nat}(hn:0<n):pickN c n<n:=Nat.mod_lt _ hn
theorem lawWhole_any(n:Nat)(w:World):Calls Tryz.prog 42 #[.int .i64 (n:Int)] w fun e w'=>e=.returned (.agg ((Fd.num n).dt.cs dm0))/\Below w.heap.size w w':=by
 refine calls_ev (vs:=[.int .i64 (n:Int)]) 5 Tryz.func42 zw_body (by kernel_rfl) (by simp) fun a0 h0=> ?_
 unfold zwBody
 refine wp_seq (rg_wp (zw_r0 h0 fun a1 h1=> ?_))
 have hX:=over_x (w:=w) (Fd.num n).dt dm0
 have hZ:=Blk.new w datT zA
 refine wp_seq (rg_wp (zw_r1 h1 rfl rfl (dat_store (d:=(Fd.num n).dt) (m:=dm0) hZ (by show 0+11<=11;omega)) fun a2 h2=>wp_ret ?_))
 change bodyPost _ _ _ _ a2 ((w.alloc (.cells zA datT)).setCells w.heap.size 0 ((Fd.num n).dt.cs dm0).toList)
 exact ret_c rfl h2 rfl (dat_load hX.1 rfl) ⟨rfl,hX.2⟩
structure St where
 last:Nat
 T:Tm
 X:List Fd
 Ks:List Int
abbrev wldT:TypeId:=37
structure StOk (σ:St):Prop where
 len:σ.X.length=σ.Ks.length
 far:σ.X.length<=80
 last:σ.last<=σ.X.length
 ok: ∀x,x∈σ.X->x.ok
 tok: ∀i t,(i,t)∈σ.T->t.ok
structure Wd (B:Nat) (w:World) (wp gh:Nat) (O:Nat->Prop) (σ:St) (sd sk:S3):Prop where
 blk:Blk w wp wldT #[.pointer (some ⟨gh,0,none⟩),.slice sd.d sd.n sd.c,.slice sk.d sk.n sk.c]
 hs:HS B w gh O σ.last σ.T
 data:RowN B w sd σ.X
 kinds:ZRow w B sk σ.Ks
 lo:B<=wp
 o1: ¬O wp
 o2: ∀g,sd.v.ownBlock=some g->¬O g
 o3: ∀g,sk.v.ownBlock=some g->¬O g
 ok:StOk σ
def WdO(wp:Nat)(O:Nat->Prop)(sd sk:S3)(b:Nat):Prop:=b=wp\/O b\/sd.v.ownBlock=some b\/sk.v.ownBlock=some b
section
variable {B:Nat} {w:World} {wp gh:Nat} {O:Nat->Prop} {σ:St} {sd sk:S3}
theorem Wd.lim(h:Wd B w wp gh O σ sd sk){b:Nat}(hb:WdO wp O sd sk b):B<=b/\b<w.heap.size:=by
 rcases hb with rfl | hb | hb | hb
 ·exact⟨h.lo,h.blk.lt⟩
 ·exact h.hs.lim b hb
 ·exact ARow.block h.data hb
 ·exact ARow.block h.kinds hb
theorem Wd.keep{w':World}(h:Wd B w wp gh O σ sd sk)(hs:w.heap.size<=w'.heap.size)(hk: ∀b,WdO wp O sd sk b->w'.heap[b]? =w.heap[b]?):Wd B w' wp gh O σ sd sk:=
 ⟨(hk _ (.inl rfl)).trans h.blk,h.hs.keep hs fun b hb=>hk b (.inr (.inl hb)),ARow.keep h.data fun g hg=>hk g (.inr (.inr (.inl hg))),ARow.keep h.kinds fun g hg=>hk g (.inr (.inr (.inr hg))),h.lo,h.o1,h.o2,h.o3,h.ok⟩
theorem Wd.old{w':World}(h:Wd B w wp gh O σ sd sk)(hb:Below w.heap.size w w'):Wd B w' wp gh O σ sd sk:=h.keep hb.size fun b hO=>hb.block b (h.lim hO).2
theorem Wd.lh(h:Wd B w wp gh O σ sd sk):Lds Tryz.prog 35 (.pointer (some ⟨wp,0,none⟩)) (.pointer (some ⟨gh,0,none⟩)) w:=one_load h.blk Tryz.underlying35 rfl rfl
theorem Wd.ld(h:Wd B w wp gh O σ sd sk):Lds Tryz.prog 23 (.pointer (some ⟨wp,1,none⟩)) (.slice sd.d sd.n sd.c) w:=one_load h.blk Tryz.underlying23 rfl rfl
theorem Wd.lk(h:Wd B w wp gh O σ sd sk):Lds Tryz.prog 24 (.pointer (some ⟨wp,2,none⟩)) (.slice sk.d sk.n sk.c) w:=one_load h.blk Tryz.underlying24 rfl rfl
def datS(X:List Fd)(c:Int):Fd:=
 let n:=pickN c (X.length+2)
 if n=0 then .nil else if X.length<n then .num n else X[n-1]?.getD .nil
theorem datS_ok{X:List Fd}(hX: ∀x,x∈X->x.ok)(hl:X.length<=80)(c:Int):(datS X c).ok:=by
 unfold datS
 have hp:pickN c (X.length+2)<X.length+2:=pick_lt (by omega)
 dsimp only
 split
 ·trivial
 ·split
  ·show okInt _
   exact ok_c _ (by omega)
  ·cases hx:X[pickN c (X.length+2)-1]? with
   | none=>trivial
   | some x=>exact hX x (List.mem_of_getElem? hx)
theorem lawDatum_read(hbk:Blk w wp wldT #[.pointer (some ⟨gh,0,none⟩),.slice sd.d sd.n sd.c,.slice sk.d sk.n sk.c])(hdt:RowN B w sd σ.X)(hl:σ.X.length<=80){c:Int}(hc:okInt c):Calls Tryz.prog 22 #[.pointer (some ⟨wp,0,none⟩),.int .i64 c] w fun e w'=>e=.returned (.agg ((datS σ.X c).dt.cs dm0))/\Below w.heap.size w w':=by
 refine calls_ev (vs:=[.pointer (some ⟨wp,0,none⟩),.int .i64 c]) 34 Tryz.func22 zd_body (by kernel_rfl) (by simp) fun a0 h0=> ?_
 unfold zdBody
 have hsn:sd.n=σ.X.length:=hdt.1
 refine wp_seq (rg_wp (zd_r0 h0 fun a1 h1=> ?_))
 have hZ:=Blk.new w datT zA
 have hb1:Below w.heap.size w (w.alloc (.cells zA datT)):=bl_alloc (Below.refl _ _) _
 change Code.wp _ _ _ a1 (w.alloc (.cells zA datT))
 generalize w.alloc (.cells zA datT)=u at hZ hb1 ⊢
 have hzZ:=hZ.lt
 have hbk':=hbk.below hb1 hbk.lt
 have hdt':RowN B u sd σ.X:=hdt.old hb1
 have h'ld:Lds Tryz.prog 23 (.pointer (some ⟨wp,1,none⟩)) (.slice sd.d sd.n sd.c) u:=one_load hbk' Tryz.underlying23 rfl rfl
 obtain⟨n,hn⟩: ∃n,n=pickN c (σ.X.length+2):=⟨_,rfl⟩
 have hp:n<σ.X.length+2:=by rw[hn];exact pick_lt (by omega)
 have hpk:=lawPick_any hc (n:=σ.X.length+2) (by omega) u
 rw[<-hn] at hpk
 refine wp_seq (rg_wp (zd_r1 (n:=n) (C0:=fun v=>v=u) h1 rfl rfl h'ld (by omega) (by rw[hsn];exact hpk) fun a2 v hv h2=> ?_))
 subst hv
 have hd:datS σ.X c=if n=0 then .nil else if σ.X.length<n then .num n else σ.X[n-1]?.getD .nil:=by rw[hn];rfl
 by_cases h0':n=0
 ·refine wp_seq (wp_seq (rg_wp (zd_r2 (b15:=true) h2 rfl (decide_eq_true (by omega)) fun a3 h3=>wp_cond_true (h3.look 15 rfl) ?_)))
  refine wp_seq (rg_wp (zd_r3 h3 rfl (dat_store (d:=Fd.nil.dt) (m:=dm0) hZ (by show 0+11<=11;omega)) fun a4 h4=>wp_ret ?_))
  have hF:=fill_zA Fd.nil.dt dm0 hZ
  rw[hd,if_pos h0']
  refine then_ret (ret_c rfl h4 rfl (dat_load hF rfl) ⟨rfl,below_setCells _ 0 _ hb1 (Nat.le_refl _)⟩)
 ·refine wp_seq (wp_seq (rg_wp (zd_r2 (b15:=false) h2 rfl (decide_eq_false (by omega)) fun a3 h3=>wpc_off (h3.look 15 rfl) ?_)))
  by_cases hlt:σ.X.length<n
  ·refine wp_seq (wp_seq (rg_wp (zd_r4 (b23:=true) h3 rfl rfl h'ld (decide_eq_true (by rw[hsn];omega)) fun a4 h4=>wp_cond_true (h4.look 23 rfl) ?_)))
   refine wp_seq (rg_wp (zd_r5 (d:=(Fd.num n).dt) (m:=dm0) (C0:=fun x=>Below v.heap.size v x) h4 rfl rfl (lawWhole_any n v) (fun x hx=>dat_store (hZ.below hx hzZ) (by show 0+11<=11;omega)) fun a5 x hx h5=>wp_ret ?_))
   have hF:=fill_zA (Fd.num n).dt dm0 (hZ.below hx hzZ)
   rw[hd,if_neg h0',if_pos hlt]
   exact then_ret (ret_c rfl h5 rfl (dat_load hF rfl) ⟨rfl,below_setCells _ 0 _ (bl_trans hb1 hx) (Nat.le_refl _)⟩)
  ·refine wp_seq (wp_seq (rg_wp (zd_r4 (b23:=false) h3 rfl rfl h'ld (decide_eq_false (by rw[hsn];omega)) fun a4 h4=>wpc_off (h4.look 23 rfl) ?_)))
   have hj:n-1<σ.X.length:=by omega
   obtain⟨x,hx⟩: ∃x,σ.X[n-1]? =some x:=⟨σ.X[n-1],List.getElem?_eq_getElem hj⟩
   obtain⟨q,hq,_,_,hld⟩:=(RowN.row hdt').1.load hx
   have hdl:=h'ld
   rw[hq] at hdl
   refine wp_seq (rg_wp (zd_r6 (d:=x.dt) (m:=dm0) h4 rfl rfl rfl hdl (by omega) (fun w=>by rw[show((n:Int)-1)=((n-1:Nat):Int) by omega];exact ix_row (by omega) w) hld (dat_store hZ (by show 0+11<=11;omega)) fun a5 h5=>wp_ret ?_))
   have hF:=fill_zA x.dt dm0 hZ
   rw[hd,if_neg h0',if_neg hlt,hx]
   exact ret_c rfl h5 rfl (dat_load hF rfl) ⟨rfl,below_setCells _ 0 _ hb1 (Nat.le_refl _)⟩
theorem lawDatum_any(h:Wd B w wp gh O σ sd sk){c:Int}(hc:okInt c):Calls Tryz.prog 22 #[.pointer (some ⟨wp,0,none⟩),.int .i64 c] w fun e w'=>e=.returned (.agg ((datS σ.X c).dt.cs dm0))/\Below w.heap.size w w':=lawDatum_read h.blk h.data h.ok.far hc
theorem lawPair_any(h:Wd B w wp gh O σ sd sk){c d:Int}(hc:okInt c)(hd:okInt d):Calls Tryz.prog 49 #[.pointer (some ⟨wp,0,none⟩),.int .i64 c,.int .i64 d] w fun e w'=> ∃q:Dm,e=.returned (.agg ((pr (datS σ.X c) (datS σ.X d)).cs q))/\((∃g,q=⟨none,0,some ⟨g,0,none⟩,2⟩/\w.heap.size<=g/\RowX w' (fun b=>b<w'.heap.size) (some ⟨g,0,none⟩) [datS σ.X c,datS σ.X d])/\Below w.heap.size w w'):=by
  refine calls_ev (vs:=[.pointer (some ⟨wp,0,none⟩),.int .i64 c,.int .i64 d]) 15 Tryz.func49 zr_body (by kernel_rfl) (by simp) fun a0 h0=> ?_
  unfold zrBody
  refine wp_seq (rg_wp (zr_r0 h0 fun a1 h1=> ?_))
  have hZ:=Blk.new w datT zA
  have hb1:Below w.heap.size w (w.alloc (.cells zA datT)):=bl_alloc (Below.refl _ _) _
  change Code.wp _ _ _ a1 (w.alloc (.cells zA datT))
  generalize w.alloc (.cells zA datT)=u at hZ hb1 ⊢
  have hzZ:=hZ.lt
  have h':=h.old hb1
  obtain⟨x,hx⟩: ∃x,x=datS σ.X c:=⟨_,rfl⟩
  obtain⟨y,hy⟩: ∃y,y=datS σ.X d:=⟨_,rfl⟩
  have k0:=lawDatum_any h' hc
  rw[<-hx] at k0 ⊢
  rw[<-hy]
  refine wp_seq (rg_wp (zr_r1 (x:=x.dt) (mx:=dm0) (y:=y.dt) (my:=dm0) (C0:=fun v=>Below u.heap.size u v) (C1:=fun v=>Below u.heap.size u v) h1 rfl rfl rfl rfl k0 (fun v hv=>by
    have:=lawDatum_any (h'.old hv) hd
    rw[<-hy] at this
    exact this.mono fun e v' hh=>⟨hh.1,bl_trans hv hh.2⟩) (fun v hv v2 hv2=>dat_store (d:=pr x y) (m:=⟨none,0,some ⟨v2.heap.size,0,none⟩,2⟩) ((hZ.below hv2 hzZ).alloc _) (by show 0+11<=11;omega)) fun a2 v v2 hv hv2 h2=>wp_ret ?_))
  have hz2:=hv2.size
  have hb2:Below w.heap.size w v2:=bl_trans hb1 hv2
  have hR:=Blk.new v2 datT (((x.dt.cs dm0).toList++(y.dt.cs dm0).toList).toArray)
  have hF:=fill_zA (pr x y) ⟨none,0,some ⟨v2.heap.size,0,none⟩,2⟩ ((hZ.below hv2 hzZ).alloc (.cells (((x.dt.cs dm0).toList++(y.dt.cs dm0).toList).toArray) datT))
  change bodyPost _ _ _ _ a2 ((v2.alloc (.cells (((x.dt.cs dm0).toList++(y.dt.cs dm0).toList).toArray) datT)).setCells w.heap.size 0 ((pr x y).cs ⟨none,0,some ⟨v2.heap.size,0,none⟩,2⟩).toList)
  have hlt:=hb1.size
  have hwv:w.heap.size<v2.heap.size:=by omega
  refine ret_c rfl h2 rfl (dat_load hF rfl) ⟨_,rfl,⟨v2.heap.size,rfl,by omega,.inr ⟨v2.heap.size,_,rfl, ?_,Blk.farL (Ne.symm (by omega)) _ _ _ hR,by simp[Dt.cs,Hd.cells],fun j z hz=> ?_⟩⟩,below_setCells _ 0 _ (bl_alloc hb2 _) (Nat.le_refl _)⟩
  · rw[setCells_size']
    simp
  · match j,hz with
    | 0, hz => obtain rfl : x = z := by simpa using hz
               simp[Dt.cs,Hd.cells]
    | 1, hz => obtain rfl : y = z := by simpa using hz
               simp[Dt.cs,Hd.cells]
def numF(Ks:List Int)(p:Nat)(k:Int):Nat->Nat->Nat
 | 0,_=>0
 | f+1,i=>if Ks[(p+i) % Ks.length]? =some k then(p+i) % Ks.length+1 else numF Ks p k f (i+1)
def numS(Ks:List Int)(c:Int)(k:Int):Nat:=if Ks.length=0 then 0 else numF Ks (pickN c Ks.length) k Ks.length 0
theorem numF_le(Ks:List Int)(p:Nat)(k:Int)(h0:0<Ks.length): ∀(f i:Nat),numF Ks p k f i<=Ks.length
 | 0,_=>Nat.zero_le _
 | f+1,i=>by
  unfold numF
  split
  ·exact Nat.mod_lt _ h0
  ·exact numF_le Ks p k h0 f (i+1)
theorem numS_le(Ks:List Int)(c k:Int):numS Ks c k<=Ks.length:=by
 unfold numS
 split
 ·exact Nat.zero_le _
 ·exact numF_le _ _ _ (by omega) _ _
set_option maxHeartbeats 1000000 in
theorem lawNumber_any(h:Wd B w wp gh O σ sd sk){c k:Int}(hc:okInt c):Calls Tryz.prog 44 #[.pointer (some ⟨wp,0,none⟩),.int .i64 c,.int .i64 k] w fun e w'=>e=.returned (.int .i64 ((numS σ.Ks c k:Nat):Int))/\Below w.heap.size w w':=by
 refine calls_ev (vs:=[.pointer (some ⟨wp,0,none⟩),.int .i64 c,.int .i64 k]) 44 Tryz.func44 zn_body (by kernel_rfl) (by simp) fun a0 h0=> ?_
 unfold znBody
 have hl:=h.ok.far
 have hlk:=h.ok.len
 have hsn:sk.n=σ.Ks.length:=h.kinds.1
 refine wp_seq (rg_wp (zn_r0 h0 fun a1 h1=> ?_))
 refine wp_seq (wp_seq (rg_wp (zn_r1 h1 fun a2 h2=> ?_)))
 refine wp_block ?_
 refine wp_loop (fun a' wr=> ∃i:Nat,i<=σ.Ks.length/\Sl 44 a' [(7,.int .i64 (i:Int)),(0,.pointer (some ⟨wp,0,none⟩)),(1,.int .i64 c),(2,.int .i64 k)]/\Below w.heap.size w wr/\(0<σ.Ks.length->numS σ.Ks c k=numF σ.Ks (pickN c σ.Ks.length) k (σ.Ks.length-i) i)) (fun a' _=>muTo σ.Ks.length (slot a' 7))
  ⟨0,Nat.zero_le _,h2.to ⟨rfl,rfl,rfl,rfl,trivial⟩,Below.refl _ _,fun h0=>by unfold numS;rw[if_neg (by omega)];rfl⟩ ?_
 rintro a3 w3 ⟨i,hi,h3,hb3,hnum⟩
 rw[h3.look 7 rfl,muTo_int]
 unfold znL0
 have h':=h.old hb3
 by_cases hlt:i<σ.Ks.length
 ·refine wp_seq (wp_seq (rg_wp (zn_r2 (b15:=true) h3 rfl rfl h'.lk (decide_eq_true (by rw[hsn];omega)) fun a4 h4=>wpn (h4.look 15 rfl) ?_)))
  have hK0:0<σ.Ks.length:=by omega
  have hnum:=hnum hK0
  obtain⟨p,hp⟩: ∃p,p=pickN c σ.Ks.length:=⟨_,rfl⟩
  have hpl:p<σ.Ks.length:=by rw[hp];exact pick_lt hK0
  rw[<-hp] at hnum
  obtain⟨q,hq⟩: ∃q,q=(p+i) % σ.Ks.length:=⟨_,rfl⟩
  have hql:q<σ.Ks.length:=by rw[hq];exact Nat.mod_lt _ hK0
  have hpk: ∀v,Calls Tryz.prog 10 #[.int .i64 c,.int .i64 (sk.n:Int)] v fun e w'=>e=.returned (.int .i64 (p:Int))/\w'=v:=fun v=>by
   have:=lawPick_any hc (n:=σ.Ks.length) hK0 v
   rw[<-hp] at this
   rw[hsn]
   exact this
  refine wp_seq (wp_block ?_)
  refine wp_seq (rg_wp (zn_r4 (p:=p) (v32:=(q:Int)) h4 rfl rfl rfl h'.lk (fun mm=>(hpk _).mono fun e w' hh=>⟨hh.1,mm,hh.2⟩) (by omega) (fun w=>by
   have:=rem_n (a:=p+i) (b:=σ.Ks.length) (by omega) hK0 w
   rw[<-hq] at this
   rw[hsn,show((p:Int)+(i:Int))=((p+i:Nat):Int) by omega]
   exact this) fun a5 md h5=> ?_))
  obtain⟨x,hx⟩: ∃x,σ.Ks[q]? =some x:=⟨σ.Ks[q],List.getElem?_eq_getElem hql⟩
  have hbd:Below w3.heap.size w3 (w3.drewN md):=below_drewN (Below.refl _ _) _
  have h5':=h'.old hbd
  have hb5:=bl_trans hb3 hbd
  obtain⟨g,hkd,hkn,hcl⟩:=ZRow.get h5'.kinds hx
  have hkl:=h5'.lk
  rw[hkd] at hkl
  obtain⟨f,hf⟩: ∃f,σ.Ks.length-i=f+1:=⟨σ.Ks.length-i-1,by omega⟩
  rw[hf] at hnum
  unfold numF at hnum
  rw[<-hq,hx] at hnum
  by_cases hxk:x=k
  ·refine wp_seq (rg_wp (zn_r5 (n:=q) (x:=x) (b41:=true) h5 rfl rfl rfl hkl (fun w=>ix_int (by omega) w) (lds1 Tryz.underlying3 rfl hcl) (decide_eq_true hxk) fun a6 h6=>wp_cond_true (h6.look 41 rfl) ?_))
   refine wp_seq (rg_wp (zn_r6 (n:=q) h6 rfl (by omega) fun a7 h7=>wp_ret ?_))
   rw[if_pos (by rw[hxk])] at hnum
   have e7:numS σ.Ks c k=q+1:=hnum
   rw[e7]
   repeat (first | with_reducible refine then_ret ?_ | with_reducible refine block_ret ?_)
   exact ret1 rfl h7 rfl ⟨rfl,hb5⟩
  ·refine wp_seq (rg_wp (zn_r5 (n:=q) (x:=x) (b41:=false) h5 rfl rfl rfl hkl (fun w=>ix_int (by omega) w) (lds1 Tryz.underlying3 rfl hcl) (decide_eq_false hxk) fun a6 h6=>wpc_off (h6.look 41 rfl) (block_norm ?_)))
   rw[if_neg (by simpa using hxk)] at hnum
   show Code.wp _ (r_zn 3) _ a6 _
   refine wpl (rg_wp (zn_r3 h6 rfl (by omega) fun a7 h7=>⟨⟨i+1,hlt,h7.to ⟨rfl,rfl,rfl,rfl,trivial⟩,hb5,fun _=> ?_⟩, ?_⟩))
   ·rw[hnum,<-hp,show σ.Ks.length-(i+1)=f by omega]
   ·rw[h7.look 7 rfl]
    show muTo σ.Ks.length (.int .i64 ((i+1:Nat):Int))<_
    rw[muTo_int]
    omega
 ·refine wp_seq (wp_seq (rg_wp (zn_r2 (b15:=false) h3 rfl rfl h'.lk (decide_eq_false (by rw[hsn];omega)) fun a4 h4=>wpc_exit (h4.look 15 rfl) ?_)))
  refine then_exit' (then_exit' (in_block2 ?_))
  refine wp_seq (rg_wp (zn_r7 h4 fun a5 h5=>wp_ret ?_))
  refine ret1 rfl h5 rfl ⟨?_,hb3⟩
  obtain rfl:i=σ.Ks.length:=by omega
  have:numS σ.Ks c k=0:=by
   rcases Nat.eq_zero_or_pos σ.Ks.length with h0 | h0
   ·unfold numS;rw[if_pos h0]
   ·rw[hnum h0,Nat.sub_self];rfl
  rw[this]
  rfl
end
end Go.Proofs.YtbjegfpfmnleeaaGreatDoor
