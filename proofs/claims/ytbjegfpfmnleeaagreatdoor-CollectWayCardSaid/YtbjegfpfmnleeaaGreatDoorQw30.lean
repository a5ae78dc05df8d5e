/-
   Written by an AI agent.
-/
import Derived.Test.YtbjegfpfmnleeaaGreatDoorQw29
import Derived.Test.YtbjegfpfmnleeaaGreatDoorQw25
import Derived.ScopeJumps
namespace Go.Proofs.YtbjegfpfmnleeaaGreatDoor
open Go.RowKit Go.Maps
set_option maxRecDepth 100000
def namF:Fo->List Int
 | .nil=>[]
 | .cons h k r=>((if h.obj=0 then[] else[h.obj])++(if h.kind=8 then namF k else[]))++namF r
def namD(h:Hd)(k:Fo):List Int:=(if h.obj=0 then[] else[h.obj])++(if h.kind=8 then namF k else[])
theorem nam_drop(f:Fo){i:Nat}{h:Hd}{k:Fo}(e:f.get i=some (h,k)):namF (f.drop i)=namD h k++namF (f.drop (i+1)):=by
 rw[Fo.drop_get f i h k e]
 rfl
def NamC(h:Hd)(k:Fo):Prop:= ∀(w:World) (B:Nat) (S:Nat->Prop) (s:S3) (l:List Int) (m:Dm),ZRow w B s l->B<=w.heap.size->(⟨h,k⟩:Dt).at w S m->(∀b,S b->s.v.ownBlock≠some b)->(l++namD h k).length<=1000000000->
 Calls Tryz.prog 52 #[.slice s.d s.n s.c,.agg ((⟨h,k⟩:Dt).cs m)] w fun e w'=> ∃t:S3,e=.returned (.slice t.d t.n t.c)/\(ZRow w' B t (l++namD h k)/\Rw w w' s t)
set_option maxHeartbeats 2000000 in
theorem nam_of(h:Hd)(k:Fo)(hf:k.len<=1034834473170)(hk: ∀i a k',k.get i=some (a,k')->NamC a k'):NamC h k:=by
 intro w B S s l m hZ hB hd hne hlen
 replace hd:(⟨h,k⟩:Dt).at w (fun b=>S b/\b<w.heap.size) m:=hd.keep (fun _ _ _=>rfl) (fun b h1 h2=>⟨h1,h2⟩)
 refine calls_ev (vs:=[.slice s.d s.n s.c,.agg ((⟨h,k⟩:Dt).cs m)]) 32 Tryz.func52 cn_body (by kernel_rfl) (by simp) fun a0 h0=> ?_
 unfold cnBody
 refine wp_seq (rg_wp (cn_r0 (d:=⟨h,k⟩) (m:=m) h0 rfl fun a1 h1=> ?_))
 have hX:=Blk.new w datT ((⟨h,k⟩:Dt).cs m)
 have hb1:Below w.heap.size w (w.alloc (.cells ((⟨h,k⟩:Dt).cs m) datT)):=bl_alloc (Below.refl _ _) _
 change Code.wp _ _ _ a1 (w.alloc (.cells ((⟨h,k⟩:Dt).cs m) datT))
 generalize w.alloc (.cells ((⟨h,k⟩:Dt).cs m) datT)=u at hX hb1 ⊢
 have hzu:=hb1.size
 have hxl:=hX.lt
 have hZ1:=hZ.old hb1
 have hlen':=hlen
 unfold namD at hlen'
 simp only[List.length_append] at hlen'
 have hnx:s.v.ownBlock≠some w.heap.size:=fun e=>by have:=(ARow.block hZ e).2;omega
 have hne1: ∀b,S b/\b<w.heap.size->s.v.ownBlock≠some b:=fun b hb=>hne b hb.1
 obtain⟨rest,hrest⟩: ∃rest:Act->World->Prop,rest=fun a7 w7=> ∃(t7:S3),Sl 32 a7 [(0,.slice t7.d t7.n t7.c),(3,.pointer (some ⟨w.heap.size,0,none⟩))]/\ZRow w7 B t7 (l++(if h.obj=0 then[] else[h.obj]))/\Rw u w7 s t7:=⟨_,rfl⟩
 refine wp_seq (Code.wp_mono (Q:=fun e a' w'=>e=.normal/\rest a' w') ?_ ?_)
 ·rintro e a7 w7 ⟨rfl,hr⟩
  rw[hrest] at hr
  obtain⟨t7,h7,hZ7,hW7⟩:=hr
  have hz7:=hW7.m.size
  have hX7:Blk w7 w.heap.size datT ((⟨h,k⟩:Dt).cs m):=(hW7.blk hxl hnx).trans hX
  have hd7:SlAt w7 (fun b=>S b/\b<w.heap.size) m.ia k:=hd.kids.keep (fun x hx hl=>(hW7.blk (by omega) (hne1 x hx)).trans (hb1.block x hl)) (fun _ hx _=>hx)
  have hne7: ∀b,S b/\b<w.heap.size->t7.v.ownBlock≠some b:=fun b hb=>hW7.ne (by omega) (hne1 b hb)
  have hWw:Rw w w7 s t7:=Rw.pre hb1 hW7
  have fin: ∀(a8:Act) (w8:World) (t8:S3),Sl 32 a8 [(0,.slice t8.d t8.n t8.c)]->ZRow w8 B t8 (l++namD h k)->Rw w w8 s t8->Code.wp Tryz.prog (.seq (r_cn 9) .ret) (bodyPost Tryz.prog Tryz.f52 fun e w'=> ∃t:S3,e=.returned (.slice t.d t.n t.c)/\(ZRow w' B t (l++namD h k)/\Rw w w' s t)) a8 w8:=fun a8 w8 t8 h8 hZ8 hW8=>by
   refine wp_seq (rg_wp (cn_r9 h8 rfl fun a9 h9=>wp_ret ?_))
   exact ret1 rfl h9 rfl ⟨t8,rfl,hZ8,hW8⟩
  show Code.wp _ _ _ a7 w7
  by_cases hkd:h.kind=8
  ·refine wp_seq (wp_seq (rg_wp (cn_r3 (k:=h.kind) (b19:=true) h7 rfl (one_load hX7 Tryz.underlying3 rfl rfl) (decide_eq_true hkd) fun a8 h8=>wp_cond_true (h8.look 19 rfl) ?_)))
   refine wp_seq (rg_wp (cn_r4 (sd:=m.ia) (sn:=k.len) (sc:=m.ic) h8 rfl (one_load hX7 Tryz.underlying23 rfl rfl) fun a9 h9=> ?_))
   refine wp_block ?_
   refine wp_loop (fun a' wr=> ∃(i:Nat) (t:S3) (P:List Int),i<=k.len/\Sl 32 a' [(23,.int .i64 (i:Int)),(22,.int .i64 (k.len:Int)),(21,.slice m.ia k.len m.ic),(0,.slice t.d t.n t.c)]/\ZRow wr B t P/\Rw w7 wr t7 t/\P++namF (k.drop i)=l++namD h k) (fun a' _=>muTo k.len (slot a' 23))
    ⟨0,t7,_,Nat.zero_le _,h9.to ⟨rfl,rfl,rfl,rfl,trivial⟩,hZ7,.of_below (Below.refl _ _) _,by rw[Fo.drop_zero];unfold namD;rw[if_pos hkd,List.append_assoc]⟩ ?_
   rintro b1 w9 ⟨i,t,P,hi,k1,hZ9,hW9,hP⟩
   rw[k1.look 23 rfl,muTo_int]
   unfold cnL0
   have hPl:(P++namF (k.drop i)).length<=1000000000:=by rw[hP];exact hlen
   rw[List.length_append] at hPl
   have hz9:=hW9.m.size
   by_cases hlt:i<k.len
   ·refine wp_seq (rg_wp (cn_r5 k1 rfl rfl (decide_eq_true (by omega)) fun b2 k2=> ?_))
    refine wp_seq (wpn (k2.look 24 rfl) ?_)
    obtain⟨h',k',hg⟩:=Fo.get_lt k i hlt
    have hd9:SlAt w9 (fun b=>S b/\b<w.heap.size) m.ia k:=hd7.keep (fun b hb _=>hW9.blk (by omega) (hne7 b hb)) (fun _ hb _=>hb)
    obtain⟨b,o,hia,hSb,pa,pc,ja,jc,hc,hdd⟩:=hd9.get hg
    rw[hia] at k2
    refine wp_seq (wp_block ?_)
    have hY:=over_x (w:=w9) ⟨h',k'⟩ ⟨pa,pc,ja,jc⟩
    refine wp_seq (rg_wp (cn_r6 (x:=⟨h',k'⟩) (mx:=⟨pa,pc,ja,jc⟩) k2 rfl rfl (fun w=>ix_at2 i Tryz.underlying23 datInf hlt w) (cells_dat (d:=⟨h',k'⟩) (m:=⟨pa,pc,ja,jc⟩) hc) (dat_store (Blk.new w9 datT zA) (by show 0+11<=11;omega)) fun b3 k3=> ?_))
    change Code.wp _ _ _ b3 ((w9.alloc (.cells zA datT)).setCells w9.heap.size 0 (Dt.cs ⟨h',k'⟩ ⟨pa,pc,ja,jc⟩).toList)
    generalize (w9.alloc (.cells zA datT)).setCells w9.heap.size 0 (Dt.cs ⟨h',k'⟩ ⟨pa,pc,ja,jc⟩).toList=v at hY ⊢
    obtain⟨hYb,hbv⟩:=hY
    have hdv:(⟨h',k'⟩:Dt).at v (fun b=>S b/\b<w.heap.size) ⟨pa,pc,ja,jc⟩:=hdd.keep (fun x hx hl=>hbv.block x hl) (fun _ hx _=>hx)
    rw[nam_drop k hg] at hP hPl
    simp only[List.length_append] at hPl
    refine wpl (rg_wp (cn_r7 (x:=⟨h',k'⟩) (mx:=⟨pa,pc,ja,jc⟩) (C0:=fun t8 w8=>ZRow w8 B t8 (P++namD h' k')/\Rw v w8 t t8) k3 rfl rfl (dat_load hYb rfl) (hk i h' k' hg v B _ t P _ (hZ9.old hbv) (by have:=hbv.size;omega) hdv (fun b hb=>hW9.ne (by omega) (hne7 b hb)) (by simp only[List.length_append];omega)) fun b4 t8 w8 hq k4=> ?_))
    obtain⟨hZ8,hW8⟩:=hq
    refine block_norm ?_
    show Code.wp _ (r_cn 8) _ b4 w8
    refine wpl (rg_wp (cn_r8 k4 rfl (by omega) fun b5 k5=>⟨⟨i+1,t8,_,hlt, ?_,hZ8,hW9.trans (Rw.pre hbv hW8), ?_⟩, ?_⟩))
    ·rw[hia]
     exact k5.to ⟨rfl,rfl,rfl,rfl,trivial⟩
    ·rw[<-hP]
     simp only[List.append_assoc]
    ·rw[k5.look 23 rfl]
     show muTo k.len (.int .i64 ((i+1:Nat):Int))<_
     rw[muTo_int]
     omega
   ·refine wp_seq (rg_wp (cn_r5 k1 rfl rfl (decide_eq_false (by omega)) fun b2 k2=> ?_))
    refine wp_seq (wpc_exit (k2.look 24 rfl) ?_)
    refine then_exit' (then_exit' (in_block2 ?_))
    obtain rfl:i=k.len:=by omega
    rw[Fo.drop_len k _ (Nat.le_refl _)] at hP
    have hP':P=l++namD h k:=by simpa[namF] using hP
    subst hP'
    exact fin b2 w9 t (k2.to ⟨rfl,trivial⟩) hZ9 (hWw.trans hW9)
  ·refine wp_seq (wp_seq (rg_wp (cn_r3 (k:=h.kind) (b19:=false) h7 rfl (one_load hX7 Tryz.underlying3 rfl rfl) (decide_eq_false hkd) fun a8 h8=>wpc_off (h8.look 19 rfl) ?_)))
   refine fin a8 w7 t7 (h8.to ⟨rfl,trivial⟩) ?_ hWw
   unfold namD
   rw[if_neg hkd,List.append_nil]
   exact hZ7
 ·by_cases hz:h.obj=0
  ·refine wp_seq (rg_wp (cn_r1 (o:=h.obj) (b10:=false) h1 rfl (one_load hX Tryz.underlying3 rfl rfl) (decide_eq_false (by simpa using hz)) fun a2 h2=>wpc_off (h2.look 10 rfl) ⟨rfl, ?_⟩))
   rw[hrest]
   refine⟨s,h2.to ⟨rfl,rfl,trivial⟩, ?_,.of_below (Below.refl _ _) s⟩
   rw[if_pos hz,List.append_nil]
   exact hZ1
  ·refine wp_seq (rg_wp (cn_r1 (o:=h.obj) (b10:=true) h1 rfl (one_load hX Tryz.underlying3 rfl rfl) (decide_eq_true hz) fun a2 h2=> ?_))
   refine wp_cond_true (h2.look 10 rfl) (wpl (rg_wp (cn_r2 (o:=h.obj) (C0:=fun _ v x=>ZRow x B v (l++[h.obj])/\Rw u x s v) h2 rfl rfl (one_load hX Tryz.underlying3 rfl rfl) (fun ty=> ?_) fun a8 t8 w8 hq h8=> ?_)))
   ·obtain⟨s',x,r1,r2,r3,r4⟩:=ZRow.app hZ1 (by omega) (by omega) h.obj ty
    exact⟨s',x,r1,r2,r3,r4.imp_right fun e=>⟨_,e,by omega⟩⟩
   ·refine⟨rfl, ?_⟩
    rw[hrest]
    refine⟨t8,h8.to ⟨rfl,rfl,trivial⟩, ?_,hq.2⟩
    rw[if_neg hz]
    exact hq.1
theorem nam_get: ∀(f:Fo),f.ok->∀i a k,f.get i=some (a,k)->NamC a k
 | .nil,_,i,_,_,e=>by cases e
 | .cons h k r,ho,0,a,k',e=>by
  simp only[Fo.get,Option.some.injEq,Prod.mk.injEq] at e
  obtain⟨rfl,rfl⟩:=e
  exact nam_of h k ho.2.2.2 (nam_get k ho.2.1)
 | .cons h k r,ho,i+1,a,k',e=>nam_get r ho.2.2.1 i a k' e
end Go.Proofs.YtbjegfpfmnleeaaGreatDoor

namespace Go.Proofs.YtbjegfpfmnleeaaGreatDoor
open Go.RowKit Go.Maps
set_option maxRecDepth 100000
section
variable {B:Nat} {w:World} {gh:Nat} {O:Nat->Prop} {last:Nat} {T:Tm} {bm:Nat} {pt:Nat->Nat} {own:Nat->Nat->Prop}
def keysT(T:Tm):List Int:=T.map fun t=>(t.1:Int)
theorem HSx.len(h:HSx B w gh O last T bm pt own):T.length<=last:=by
 have h1:(keysT T).Nodup:=by
  unfold keysT
  rw[List.nodup_iff_pairwise_ne,List.pairwise_map]
  exact h.rise.imp fun{a b} hab=>by omega
 have h2:=nodup_len (keysT T) ((List.range' 1 last).map fun(n:Nat)=>(n:Int)) h1 fun x hx=>by
  obtain⟨t,ht,rfl⟩:=List.mem_map.1 hx
  have:=h.num t.1 t.2 ht
  exact List.mem_map.2 ⟨t.1,List.mem_range'_1.2 (by omega),rfl⟩
 unfold keysT at h2
 simpa using h2
theorem HSx.kok(h:HSx B w gh O last T bm pt own):KOk (keysT T):=by
 have hl:=h.len
 have hf:=h.far
 refine⟨?_,fun x hx=> ?_,by unfold keysT;rw[List.length_map];omega⟩
 ·unfold keysT
  rw[List.pairwise_map]
  exact h.rise.imp fun{a b} hab=>by omega
 ·obtain⟨t,ht,rfl⟩:=List.mem_map.1 hx
  have:=h.num t.1 t.2 ht
  omega
theorem things_any(h:HSx B w gh O last T bm pt own):Calls Tryz.prog 19 #[.pointer (some ⟨gh,0,none⟩)] w fun e w'=> ∃q:S3,e=.returned (.slice q.d q.n q.c)/\(ZRow w' w.heap.size q (keysT T)/\Below w.heap.size w w'):=by
 have hl:=h.len
 have hf:=h.far
 refine(hthings_any h.hp (by rw[tIM_len];omega)).mono ?_
 rintro e w' ⟨v,ss,rfl,hp,ho,_,hb⟩
 have hk:=h.kok
 have e1:(tIM pt T).map (·.1)=keysT T:=by
  unfold tIM keysT
  rw[List.map_map]
  rfl
 rw[e1] at hp
 have e2:ss.mergeSort (fun x y=>decide (x<=y))=keysT T:=by
  refine strict_ext (sortZ_lt ((hp.nodup_iff).2 (hk.rise.imp fun h=>by omega))) hk.rise fun x=> ?_
  exact sortZ_mem.trans hp.mem_iff
 rw[e2,hp.length_eq] at ho
 obtain⟨s,rfl,hs⟩:=ARow.of_v ho
 exact⟨s,rfl,hs,hb⟩
end
theorem ZRow.get{w:World}{B:Nat}{s:S3}{l:List Int}(h:ZRow w B s l){i:Nat}{x:Int}(hx:l[i]? =some x): ∃g,s.d=some ⟨g,0,none⟩/\s.n=l.length/\w.cell? ⟨g,0+i*1,none⟩=some (.int .i64 x):=by
 obtain⟨h1,h2,_⟩:=ZRow.path h
 obtain⟨b,o,hb,_,hc⟩:=h1.get hx
 rcases ARow.cases h with⟨e,_⟩ | ⟨g,cs,e1,_⟩
 ·rw[e] at hb
  cases hb
 ·have e3:s.d=some ⟨g,0,none⟩:=by rw[e1]
  rw[e3] at hb
  injection hb with hb
  injection hb with hb1 hb2
  subst hb1 hb2
  exact⟨g,e3,h2,by rw[Nat.mul_one];exact hc⟩
section
variable {K:List Int} {D:DD} {i:Nat}
theorem cm_len(n:Int)(q:Nat):D.length<=(cm K D n q).length:=by
 unfold cm
 split
 ·simp
 ·exact Nat.le_refl _
theorem cm_nAt(hi:i<D.length)(n:Int)(q:Nat):nAt (cm K D n q) i=nAt D i:=by
 unfold cm
 split
 ·exact nAt_app hi _
 ·rfl
theorem foldc_len(q:Nat): ∀(xs:List Int) (D:DD),D.length<=(xs.foldl (fun D v=>cm K D v q) D).length
 | [],_=>Nat.le_refl _
 | x::r,D=>Nat.le_trans (cm_len x q) (foldc_len q r _)
theorem foldc_nAt(q:Nat): ∀(xs:List Int) (D:DD),i<D.length->nAt (xs.foldl (fun D v=>cm K D v q) D) i=nAt D i
 | [],_,_=>rfl
 | x::r,D,hi=>(foldc_nAt q r _ (Nat.lt_of_lt_of_le hi (cm_len x q))).trans (cm_nAt hi x q)
end
theorem tm_snoc{K:List Int}(hK:KOk K){i:Nat}{x:Int}(hx:K[i]? =some x):imPut x (.int .i64 0) (tM (K.take i) [])=tM (K.take (i+1)) []:=by
 rw[im_put_end]
 ·unfold tM
  rw[List.take_add_one,hx,List.map_append]
  rfl
 ·intro p hp
  obtain⟨k,hk,rfl⟩:=List.mem_map.1 hp
  obtain⟨j,hj⟩:=List.mem_iff_getElem?.1 hk
  have hji:j<i:=by
   have:=(List.getElem?_eq_some_iff.1 hj).1
   rw[List.length_take] at this
   omega
  rw[List.getElem?_take_of_lt hji] at hj
  obtain⟨h1,e1⟩:=List.getElem?_eq_some_iff.1 hj
  obtain⟨h2,e2⟩:=List.getElem?_eq_some_iff.1 hx
  have:=List.pairwise_iff_getElem.1 hK.rise j i h1 h2 hji
  show k<x
  omega
theorem lead_mem{T:Tm}{n:Nat}{x:Int}(hx:x∈leadsT T n): ∃t,(n,t)∈T/\x∈t.raw:=by
 unfold leadsT at hx
 cases hg:tget T n with
 | none=>rw[hg] at hx;cases hx
 | some t=>
  rw[hg] at hx
  have hx:x∈dedup (sortZ t.raw):=hx
  rw[dedup_mem (sortZ_le _),sortZ_mem] at hx
  exact⟨t,tget_mem hg,hx⟩
theorem fd_to_int{x:Fd}(hx:x.ok){v:Int}(hv:v∈x.to):1<=v/\v<=2147483647:=by
 cases x with
 | nil=>cases hv
 | num n=>cases hv
 | ref k o=>
  have:v=(o:Int):=by simpa[Fd.to] using hv
  subst this
  have:=hx.1
  have:=hx.2
  omega
theorem raw_int{t:Th}(ht:t.ok){v:Int}(hv:v∈t.raw): -9223372036854775808<=v/\v<=9223372036854775807:=by
 have key: ∀{x:Fd},x.ok->v∈x.to-> -9223372036854775808<=v/\v<=9223372036854775807:=fun hx hv=>by have:=fd_to_int hx hv;omega
 cases t with
 | obj a b=>rcases List.mem_append.1 hv with h | h;exact key ht.1 h;exact key ht.2 h
 | arr a b=>rcases List.mem_append.1 hv with h | h;exact key ht.1 h;exact key ht.2 h
 | tab E=>
  obtain⟨x,hx,hv⟩:=List.mem_flatMap.1 hv
  exact key (tabX_ok ht.2 x hx) hv
 | box a=>exact key ht hv
 | fn c bx b=>
  rcases List.mem_append.1 hv with h | h
  ·exact ht.2.2 v h
  ·exact key ht.2.1 h
theorem lead_int{T:Tm}(hT: ∀i t,(i,t)∈T->t.ok){n:Nat}{x:Int}(hx:x∈leadsT T n): -9223372036854775808<=x/\x<=9223372036854775807:=by
 obtain⟨t,ht,hx⟩:=lead_mem hx
 exact raw_int (hT _ _ ht) hx
theorem lead_len{T:Tm}(hT: ∀i t,(i,t)∈T->t.ok){n:Nat}:(leadsT T n).length<=10000:=by
 unfold leadsT
 cases hg:tget T n with
 | none=>exact Nat.zero_le _
 | some t=>
  have h1:=raw_len t (hT _ _ (tget_mem hg))
  have h2:=dedup_len (sortZ t.raw)
  have h3:(sortZ t.raw).length=t.raw.length:=List.length_mergeSort _
  show(dedup (sortZ t.raw)).length<=_
  omega
def rootsB(boxes:List Int)(l:Fo):List Int:=sortZ (boxes++namF l)
def leadsI(T:Tm)(n:Int):List Int:=leadsT T n.toNat
def runT(T:Tm)(R:List Int):DD:=runB (keysT T) (leadsI T) R
section
variable {B0:Nat} {w:World} {gh:Nat} {O:Nat->Prop} {last:Nat} {T:Tm} {bm:Nat} {pt:Nat->Nat} {own:Nat->Nat->Prop}
noncomputable def ckTail:Code:=.seq (.seq (r_ck 22) (.cond (.tmp 69) (.seq (r_ck 23) .ret) .skip)) (.seq (.seq (r_ck 24) (.block 6 (.loop ckL0))) (.seq (r_ck 29) (.goto 0)))
def LookJ(w:World)(T:Tm)(R:List Int)(rp gh bt:Nat)(a:Act)(wr:World):Prop:= ∃(f i:Nat) (D:DD) (s:S3),Sl 98 a [(15,.int .i64 (i:Int)),(7,.pointer (some ⟨rp,0,none⟩)),(0,.pointer (some ⟨gh,0,none⟩))]/\Rch w.heap.size wr rp gh bt (keysT T) D s/\Below w.heap.size w wr/\i<=D.length/\goB (keysT T) (leadsI T) f i D=runT T R/\(keysT T).length<f+i
def LookR(w:World)(T:Tm)(R:List Int)(gh:Nat)(e:Ending)(w':World):Prop:= ∃rp:Nat,e=.returned (.pointer (some ⟨rp,0,none⟩))/\((∃bt s,Rch w.heap.size w' rp gh bt (keysT T) (runT T R) s)/\Below w.heap.size w w')
set_option maxHeartbeats 2000000 in
theorem look_pass(h:HSx B0 w gh O last T bm pt own)(hown:OwnAt w)(hT: ∀i t,(i,t)∈T->t.ok){R:List Int}{rp bt:Nat}(a:Act)(w1:World)(hJ:LookJ w T R rp gh bt a w1):
  ckTail.wp Tryz.prog (Exit.jump 0 (fun a' w'=>LookJ w T R rp gh bt a' w'/\muTo (keysT T).length (slot a' 15)<muTo (keysT T).length (slot a 15)) (bodyPost Tryz.prog Tryz.f29 (LookR w T R gh))) a w1:=by
 obtain⟨f,i,D,s,h1,hR,hb,hi,hgo,hf⟩:=hJ
 have hK:=h.kok
 have hlen:=hR.d.len
 have hsn:s.n=D.length:=by have:=hR.row.1;rwa [List.length_map] at this
 unfold ckTail
 rw[h1.look 15 rfl,muTo_int]
 have hfar:=hK.far
 by_cases hlt:i<D.length
 ·refine wp_seq (wp_seq (rg_wp (ck_r22 (b69:=false) h1 rfl rfl hR.ls (decide_eq_false (by rw[hsn];omega)) fun a2 h2=>wpc_off (h2.look 69 rfl) ?_)))
  have hx:(D.map (·.1))[i]? =some (nAt D i):=by simp[nAt,hlt]
  obtain⟨g,hsd,_,hc⟩:=ZRow.get hR.row hx
  have hin:=hR.d.nAt_in hlt
  have hpos:=hK.pos _ hin
  have hx1:=h.old hb
  have hld:=hLeads_any hx1 (hown.old hb) (nAt D i).toNat (by omega) hT
  rw[show(((nAt D i).toNat:Nat):Int)=nAt D i by omega] at hld
  have hls:=hR.ls
  rw[hsd] at hls
  refine wp_seq (wp_seq (rg_wp (ck_r24 (ai:=i) (n:=nAt D i) (C0:=fun y u=>ZRow u w1.heap.size y (leadsI T (nAt D i))/\Below w1.heap.size w1 u) h2 rfl rfl rfl hls (fun w=>ix_int (by omega) w) (lds1 Tryz.underlying3 rfl hc) hld fun a3 y u hu h3=> ?_)))
  obtain⟨hy,hbu⟩:=hu
  obtain⟨X,hX⟩: ∃X,X=leadsI T (nAt D i):=⟨_,rfl⟩
  rw[<-hX] at hy
  have hXl:X.length<=10000:=by rw[hX];exact lead_len hT
  have hRu:=hR.old hbu
  have hyn:y.n=X.length:=by have:=hy.1;exact this
  have hzu:=hbu.size
  have hy1: ∀g,y.v.ownBlock=some g->w1.heap.size<=g/\g<u.heap.size:=fun g hg=>ARow.block hy hg
  have hs1: ∀g,s.v.ownBlock=some g->g<w1.heap.size:=fun g hg=>(ARow.block hR.row hg).2
  rw[hyn] at h3
  refine wp_block ?_
  refine wp_loop (fun a' wr=> ∃(j:Nat) (s':S3),j<=X.length/\Sl 98 a' [(81,.int .i64 (j:Int)),(80,.int .i64 (X.length:Int)),(79,.slice y.d X.length y.c),(15,.int .i64 (i:Int)),(7,.pointer (some ⟨rp,0,none⟩)),(0,.pointer (some ⟨gh,0,none⟩))]/\
    Rch w.heap.size wr rp gh bt (keysT T) ((X.take j).foldl (fun D v=>cm (keysT T) D v i) D) s'/\Below w.heap.size w wr/\u.heap.size<=wr.heap.size/\ZRow wr w1.heap.size y X/\(s'.v.ownBlock=s.v.ownBlock\/∃g,s'.v.ownBlock=some g/\u.heap.size<=g)) (fun a' _=>muTo X.length (slot a' 81))
   ⟨0,s,Nat.zero_le _,h3.to ⟨rfl,rfl,rfl,rfl,rfl,rfl,trivial⟩,hRu,hb.trans (hbu.mono hb.size),Nat.le_refl _,hy,.inl rfl⟩ ?_
  rintro a4 w4 ⟨j,s',hj,h4,hR4,hb4,hz4,hy4,ho4⟩
  rw[h4.look 81 rfl,muTo_int]
  unfold ckL0
  have hny: ∀b,y.v.ownBlock=some b->¬RchO rp bt s' b:=fun b hbb q=>by
   have h5:=hy1 b hbb
   rcases q with rfl | rfl | q
   ·have:=hR.blk.lt
    omega
   ·have:=hR.mp.lt
    omega
   ·rcases ho4 with e | ⟨g',e,hg'⟩
    ·rw[e] at q
     have:=hs1 b q
     omega
    ·rw[e] at q
     injection q with q
     omega
  by_cases hjl:j<X.length
  ·refine wp_seq (rg_wp (ck_r25 h4 rfl rfl (decide_eq_true (by omega)) fun a5 h5=> ?_))
   refine wp_seq (wpn (h5.look 82 rfl) ?_)
   obtain⟨x,hxx⟩: ∃x,X[j]? =some x:=⟨X[j],List.getElem?_eq_getElem hjl⟩
   obtain⟨g',hyd,_,hc'⟩:=ZRow.get hy4 hxx
   rw[hyd] at h5
   refine wp_seq (wp_block ?_)
   refine wp_seq (rg_wp (ck_r26 (x:=x) h5 rfl rfl (fun w=>ix_int hjl w) (lds1 Tryz.underlying3 rfl hc') fun a6 h6=> ?_))
   obtain⟨D',hD'⟩: ∃D',D'=(X.take j).foldl (fun D v=>cm (keysT T) D v i) D:=⟨_,rfl⟩
   rw[<-hD'] at hR4
   have hl':D.length<=D'.length:=by rw[hD'];exact foldc_len i _ _
   have hn':nAt D' i=nAt D i:=by rw[hD'];exact foldc_nAt i _ _ hlt
   have hx':(D'.map (·.1))[i]? =some (nAt D' i):=by simp[nAt,show i<D'.length by omega]
   obtain⟨g2,hsd2,hsn2,hc2⟩:=ZRow.get hR4.row hx'
   have hls2:=hR4.ls
   rw[hsd2] at hls2
   have hzw:=hb4.size
   have hxr: -9223372036854775808<=x/\x<=9223372036854775807:=by
    have hm:x∈X:=List.mem_of_getElem? hxx
    exact lead_int hT (by rw[hX] at hm;exact hm)
   rw[List.length_map] at hsn2
   refine wpl (rg_wp (ck_r27 (ai:=i) (x:=x) (n:=nAt D' i) (C0:=fun v=> ∃s2,RchQ w.heap.size w4 v rp gh bt (keysT T) (cm (keysT T) D' x i) s' s2) h6 rfl rfl rfl hls2 (fun w=>ix_int (by omega) w) (lds1 Tryz.underlying3 rfl hc2) (comes_any hK hR4 hzw hxr (q:=i) (by omega) (fun _ _=>(nAt_app (by omega) _).symm)) fun a7 v hv h7=> ?_))
   obtain⟨s2,hQ⟩:=hv
   refine block_norm ?_
   show Code.wp _ (r_ck 28) _ a7 v
   have hzv:=hQ.m.size
   refine wpl (rg_wp (ck_r28 h7 rfl (by omega) fun a8 h8=>⟨⟨j+1,s2,hjl, ?_, ?_, ?_,by omega, ?_, ?_⟩, ?_⟩))
   ·rw[hyd]
    exact h8.to ⟨rfl,rfl,rfl,rfl,rfl,rfl,trivial⟩
   ·rw[List.take_add_one,hxx]
    simp only[Option.toList_some,List.foldl_append,List.foldl_cons,List.foldl_nil]
    rw[<-hD']
    exact hQ.r
   ·exact hb4.trans (below_of_moved hQ.m (fun b hb=>(hR4.lim hb).1) hzw)
   ·exact ARow.keep hy4 fun b hbb=>hQ.m.block b (ARow.block hy4 hbb).2 (hny b hbb)
   ·rcases hQ.o with e | ⟨g3,e,hg3⟩
    ·rw[e]
     exact ho4
    ·exact .inr ⟨g3,e,by omega⟩
   ·rw[h8.look 81 rfl]
    show muTo X.length (.int .i64 ((j+1:Nat):Int))<_
    rw[muTo_int]
    omega
  ·refine wp_seq (rg_wp (ck_r25 h4 rfl rfl (decide_eq_false (by omega)) fun a5 h5=> ?_))
   refine wp_seq (wpc_exit (h5.look 82 rfl) ?_)
   refine then_exit' (then_exit' (in_block2 ?_))
   obtain rfl:j=X.length:=by omega
   rw[List.take_length,hX] at hR4
   change Rch _ _ _ _ _ _ (stepB (keysT T) (leadsI T) i D) _ at hR4
   refine wp_seq (rg_wp (ck_r29 (ai:=i) h5 rfl (by omega) fun a6 h6=>wp_goto ⟨rfl,⟨f-1,i+1,_,s',h6.to ⟨rfl,rfl,rfl,trivial⟩,hR4,hb4, ?_, ?_,by omega⟩, ?_⟩))
   ·have:=foldc_len (K:=keysT T) i (leadsI T (nAt D i)) D
    show i+1<=(stepB (keysT T) (leadsI T) i D).length
    unfold stepB
    omega
   ·rw[<-hgo]
    obtain⟨f',rfl⟩: ∃f',f=f'+1:=⟨f-1,by omega⟩
    show goB (keysT T) (leadsI T) f' (i+1) _=goB (keysT T) (leadsI T) (f'+1) i D
    rw[goB,if_pos hlt]
   ·rw[h6.look 15 rfl]
    show muTo _ (.int .i64 ((i+1:Nat):Int))<_
    rw[muTo_int]
    omega
 ·obtain rfl:i=D.length:=by omega
  refine wp_seq (wp_seq (rg_wp (ck_r22 (ai:=D.length) (b69:=true) h1 rfl rfl hR.ls (decide_eq_true (by rw[hsn])) fun a2 h2=>wp_cond_true (h2.look 69 rfl) ?_)))
  refine wp_seq (rg_wp (ck_r23 h2 rfl fun a3 h3=>wp_ret ?_))
  have hgo':D=runT T R:=by
   rw[<-hgo]
   obtain⟨f',rfl⟩: ∃f',f=f'+1:=⟨f-1,by omega⟩
   rw[goB,if_neg (Nat.lt_irrefl _)]
  rw[hgo'] at hR
  exact then_ret (ret1 rfl h3 rfl ⟨rp,rfl,⟨bt,s,hR⟩,hb⟩)
end
end Go.Proofs.YtbjegfpfmnleeaaGreatDoor

namespace Go.Proofs.YtbjegfpfmnleeaaGreatDoor
open Go.RowKit Go.Maps
set_option maxRecDepth 100000
section
variable {B0:Nat} {w:World} {gh:Nat} {O:Nat->Prop} {last:Nat} {T:Tm} {bm:Nat} {pt:Nat->Nat} {own:Nat->Nat->Prop}
structure InAt (w:World) (l:Fo) (ia:Option Addr) (bx:List Int) (pa:Option Addr):Prop where
 ok:l.ok
 far:l.len<=1000000
 at':SlAt w (fun b=>b<w.heap.size) ia l
 row:PathAt w (fun b=>b<w.heap.size) pa bx
 len:(bx++namF l).length<=1000000
 num: ∀x,x∈bx++namF l-> -9223372036854775808<=x/\x<=9223372036854775807
theorem InAt.old{w':World}{l:Fo}{ia:Option Addr}{bx:List Int}{pa:Option Addr}(h:InAt w l ia bx pa)(hb:Below w.heap.size w w'):InAt w' l ia bx pa:=
 ⟨h.ok,h.far,h.at'.keep (fun b hl _=>hb.block b hl) (fun b hl _=>Nat.lt_of_lt_of_le hl hb.size),h.row.keep (fun b hl _=>hb.block b hl) (fun b hl _=>Nat.lt_of_lt_of_le hl hb.size),h.len,h.num⟩
theorem rooted_nAt(n:Int)(D:DD):nAt (D++[(n,D.length)]) D.length=n:=nAt_end (n,D.length)
theorem scope_first{w1:World}{a:Act}{R:List Int}{rp bt:Nat}(h:HSx B0 w gh O last T bm pt own)(hown:OwnAt w)(hT: ∀i t,(i,t)∈T->t.ok)(hJ:LookJ w T R rp gh bt a w1):
  ckTail.wp Tryz.prog (Exit.jump 0 (LookJ w T R rp gh bt) (bodyPost Tryz.prog Tryz.f29 (LookR w T R gh))) a w1:=by
 refine Code.wp_mono ?_ (look_pass h hown hT a w1 hJ)
 intro e a' w' hq
 cases e with
 | goto l=>exact⟨hq.1,hq.2.1⟩
 | normal=>exact hq
 | exit id=>exact hq
 | ret=>exact hq
 | panic c=>exact hq
 | outgrown=>exact hq
set_option maxHeartbeats 4000000 in
theorem look_any(h:HSx B0 w gh O last T bm pt own)(hown:OwnAt w)(hT: ∀i t,(i,t)∈T->t.ok){l:Fo}{ia:Option Addr}{bx:List Int}{pa:Option Addr}(hI:InAt w l ia bx pa)(lc pc:Nat):
  Calls Tryz.prog 29 #[.pointer (some ⟨gh,0,none⟩),.slice ia l.len lc,.slice pa bx.length pc] w (LookR w T (rootsB bx l) gh):=by
 refine calls_ev (vs:=[.pointer (some ⟨gh,0,none⟩),.slice ia l.len lc,.slice pa bx.length pc]) 98 Tryz.func29 ck_body (by kernel_rfl) (by simp) fun a0 h0=> ?_
 unfold ckBody
 refine wp_seq (rg_wp (ck_r0 h0 fun a1 h1=> ?_))
 obtain⟨rp,hrp⟩: ∃rp,rp=w.heap.size+1:=⟨_,rfl⟩
 obtain⟨bt,hbt⟩: ∃bt,bt=w.heap.size:=⟨_,rfl⟩
 have hK:=h.kok
 have hfar:=hK.far
 refine wp_scope_jumps 0 (LookJ w T (rootsB bx l) rp gh bt) (fun a' _=>muTo (keysT T).length (slot a' 15)) (rest:=.seq .skip ckTail) (by kernel_rfl) ?_ (fun a w' hJ=>wp_seq (wp_skip (look_pass h hown hT a w' hJ)))
 refine wp_seq (rg_wp (ck_r1 h1 rfl fun a2 h2=> ?_))
 have e1:(w.alloc (.map #[] 0)).heap.size=rp:=by simp[hrp]
 rw[e1] at h2
 have hm0:MapI ((w.alloc (.map #[] 0)).alloc (.cells #[.pointer (some ⟨gh,0,none⟩),.map (some w.heap.size),.slice none 0 0] rchT)) bt 0 []:=by
  rw[hbt]
  exact(MapI.made w).keep (Below.heap_alloc _ _ _ (by simp))
 have hb0:=Blk.new (w.alloc (.map #[] 0)) rchT #[.pointer (some ⟨gh,0,none⟩),.map (some w.heap.size),.slice none 0 0]
 rw[e1,<-hbt] at hb0
 rw[<-hbt] at hm0 ⊢
 have hbl:Below w.heap.size w ((w.alloc (.map #[] 0)).alloc (.cells #[.pointer (some ⟨gh,0,none⟩),.map (some bt),.slice none 0 0] rchT)):=bl_alloc (bl_alloc (Below.refl _ _) _) _
 change Code.wp _ _ _ a2 ((w.alloc (.map #[] 0)).alloc (.cells #[.pointer (some ⟨gh,0,none⟩),.map (some bt),.slice none 0 0] rchT))
 generalize (w.alloc (.map #[] 0)).alloc (.cells #[.pointer (some ⟨gh,0,none⟩),.map (some bt),.slice none 0 0] rchT)=u1 at hm0 hb0 hbl ⊢
 have hlr:=hb0.lt
 have hlm:=hm0.lt
 have hzu:=hbl.size
 refine wp_seq (wp_seq (rg_wp (ck_r2 (b23:=false) h2 rfl (fun w=>rfl) fun a3 h3=>wpc_off (h3.look 23 rfl) ?_)))
 refine wp_seq (wp_seq (rg_wp (ck_r4 (C0:=fun q u=>ZRow u u1.heap.size q (keysT T)/\Below u1.heap.size u1 u) h3 rfl (things_any (h.old hbl)) fun a4 q u2 hq h4=> ?_)))
 obtain⟨hq,hb2⟩:=hq
 have hqn:q.n=(keysT T).length:=hq.1
 rw[hqn] at h4
 have hq1: ∀g,q.v.ownBlock=some g->u1.heap.size<=g/\g<u2.heap.size:=fun g hg=>ARow.block hq hg
 refine wp_block ?_
 refine wp_loop (fun a' wr=> ∃j:Nat,j<=(keysT T).length/\Sl 98 a' [(28,.int .i64 (j:Int)),(27,.int .i64 ((keysT T).length:Int)),(26,.slice q.d (keysT T).length q.c),(7,.pointer (some ⟨rp,0,none⟩)),(0,.pointer (some ⟨gh,0,none⟩)),(1,.slice ia l.len lc),(2,.slice pa bx.length pc)]/\
   MapI wr bt j (tM ((keysT T).take j) [])/\Moved (fun b=>b=bt) u2 wr) (fun a' _=>muTo (keysT T).length (slot a' 28))
  ⟨0,Nat.zero_le _,h4.to ⟨rfl,rfl,rfl,rfl,rfl,rfl,rfl,trivial⟩,hm0.keep (hb2.block _ hlm),.of_below (Below.refl _ _)⟩ ?_
 rintro a5 w5 ⟨j,hj,h5,hm5,hM5⟩
 rw[h5.look 28 rfl,muTo_int]
 unfold ckL3
 have hbr5:Blk w5 rp rchT #[.pointer (some ⟨gh,0,none⟩),.map (some bt),.slice none 0 0]:=(hM5.block _ (by have:=hb2.size;omega) (by omega)).trans (hb0.below hb2 hlr)
 by_cases hjl:j<(keysT T).length
 ·refine wp_seq (rg_wp (ck_r5 h5 rfl rfl (decide_eq_true (by omega)) fun a6 h6=> ?_))
  refine wp_seq (wpn (h6.look 29 rfl) ?_)
  obtain⟨x,hx⟩: ∃x,(keysT T)[j]? =some x:=⟨(keysT T)[j],List.getElem?_eq_getElem hjl⟩
  have hq5:ZRow w5 u1.heap.size q (keysT T):=ARow.keep hq fun g hg=>hM5.block g (hq1 g hg).2 (by have:=hq1 g hg;omega)
  obtain⟨g,hqd,_,hc⟩:=ZRow.get hq5 hx
  rw[hqd] at h6
  have hpos:=hK.pos x (List.mem_of_getElem? hx)
  refine wp_seq (wp_block ?_)
  refine wp_seq (rg_wp (ck_r6 (x:=x) h6 rfl rfl (fun w=>ix_int hjl w) (lds1 Tryz.underlying3 rfl hc) fun a7 h7=> ?_))
  obtain⟨w6,hr,hm6,ht⟩:=hm5.store (k:=x) Tryz.underlying67 (by unfold maxLen;omega) (by omega) (.int .i64 0)
  rw[tm_snoc hK hx] at hm6
  refine wpl (rg_wp (ck_r7 h7 rfl rfl (one_load hbr5 Tryz.underlying67 rfl rfl) hr fun a8 h8=> ?_))
  refine block_norm ?_
  show Code.wp _ (r_ck 8) _ a8 w6
  refine wpl (rg_wp (ck_r8 h8 rfl (by omega) fun a9 h9=>⟨⟨j+1,hjl, ?_,hm6,hM5.trans ((Moved.of_turned (S:=fun b=>b=bt) ht rfl).more fun b hb=>.inl hb)⟩, ?_⟩))
  ·rw[hqd]
   exact h9.to ⟨rfl,rfl,rfl,rfl,rfl,rfl,rfl,trivial⟩
  ·rw[h9.look 28 rfl]
   show muTo (keysT T).length (.int .i64 ((j+1:Nat):Int))<_
   rw[muTo_int]
   omega
 refine wp_seq (rg_wp (ck_r5 h5 rfl rfl (decide_eq_false (by omega)) fun a6 h6=> ?_))
 refine wp_seq (wpc_exit (h6.look 29 rfl) ?_)
 refine then_exit' (then_exit' (in_block2 ?_))
 obtain rfl:j=(keysT T).length:=by omega
 rw[List.take_length] at hm5
 have hR0:Rch w.heap.size w5 rp gh bt (keysT T) [] ⟨none,0,0⟩:=⟨hbr5,hm5,ZRow.nil _ _,⟨by omega,by omega⟩,DOk.nil _⟩
 have hbw5:Below w.heap.size w w5:=(hbl.trans (hb2.mono hzu)).trans (below_of_moved hM5 (fun b hb=>by omega) (by have:=hb2.size;omega))
 have hI5:=hI.old hbw5
 have hz5:=hbw5.size
 have h6:Sl 98 a6 [(7,.pointer (some ⟨rp,0,none⟩)),(0,.pointer (some ⟨gh,0,none⟩)),(1,.slice ia l.len lc),(2,.slice pa bx.length pc)]:=h6.to ⟨rfl,rfl,rfl,rfl,trivial⟩
 clear h5 h4 hM5 hbr5 hjl hj hq hq1 hb2 hb0 hm0 hlr hlm
 have hlenI:=hI.len
 rw[List.length_append] at hlenI
 refine wp_seq (rg_wp (ck_r9 (C0:=fun y u=>ZRow u w5.heap.size y bx/\Below w5.heap.size w5 u) h6 rfl (zclone_any hI5.row pc (by omega)) fun a7 y w7 hy h7=> ?_))
 obtain⟨hy,hb7⟩:=hy
 have hz7:=hb7.size
 have h7:Sl 98 a7 [(10,.slice y.d y.n y.c),(7,.pointer (some ⟨rp,0,none⟩)),(0,.pointer (some ⟨gh,0,none⟩)),(1,.slice ia l.len lc)]:=h7.to ⟨rfl,rfl,rfl,rfl,trivial⟩
 refine wp_seq (wp_seq (rg_wp (ck_r10 (ln:=l.len) h7 rfl fun a8 h8=> ?_)))
 refine wp_block ?_
 refine wp_loop (fun a' wr=> ∃(i:Nat) (t:S3) (P:List Int),i<=l.len/\Sl 98 a' [(42,.int .i64 (i:Int)),(41,.int .i64 (l.len:Int)),(40,.slice ia l.len lc),(10,.slice t.d t.n t.c),(7,.pointer (some ⟨rp,0,none⟩)),(0,.pointer (some ⟨gh,0,none⟩))]/\ZRow wr w5.heap.size t P/\Rw w7 wr y t/\P++namF (l.drop i)=bx++namF l) (fun a' _=>muTo l.len (slot a' 42))
  ⟨0,y,bx,Nat.zero_le _,h8.to ⟨rfl,rfl,rfl,rfl,rfl,rfl,trivial⟩,hy,.of_below (Below.refl _ _) _,by rw[Fo.drop_zero]⟩ ?_
 rintro a9 w9 ⟨i,t,P,hi,h9,hZ9,hW9,hP⟩
 rw[h9.look 42 rfl,muTo_int]
 unfold ckL2
 have hPl:(P++namF (l.drop i)).length<=1000000:=by rw[hP];exact hI.len
 rw[List.length_append] at hPl
 have hz9:=hW9.m.size
 have hyo: ∀g,y.v.ownBlock=some g->w5.heap.size<=g:=fun g hg=>(ARow.block hy hg).1
 have hlfar:=hI.far
 by_cases hlt:i<l.len
 ·refine wp_seq (rg_wp (ck_r11 h9 rfl rfl (decide_eq_true (by omega)) fun b1 k1=> ?_))
  refine wp_seq (wpn (k1.look 43 rfl) ?_)
  obtain⟨h',k',hg⟩:=Fo.get_lt l i hlt
  have hb79:Below w5.heap.size w5 w9:=hb7.trans (hW9.bel hyo hz7)
  have hd9:SlAt w9 (fun b=>b<w5.heap.size) ia l:=hI5.at'.keep (fun b hb _=>hb79.block b hb) (fun b hb _=>hb)
  obtain⟨b,o,hia,hSb,pa',pc',ja,jc,hc,hdd⟩:=hd9.get hg
  rw[hia] at k1
  refine wp_seq (wp_block ?_)
  have hY:=over_x (w:=w9) ⟨h',k'⟩ ⟨pa',pc',ja,jc⟩
  refine wp_seq (rg_wp (ck_r12 (d:=⟨h',k'⟩) (m:=⟨pa',pc',ja,jc⟩) k1 rfl rfl (fun w=>ix_at2 i Tryz.underlying23 datInf hlt w) (cells_dat (d:=⟨h',k'⟩) (m:=⟨pa',pc',ja,jc⟩) hc) (dat_store (Blk.new w9 datT zA) (by show 0+11<=11;omega)) fun b3 k3=> ?_))
  change Code.wp _ _ _ b3 ((w9.alloc (.cells zA datT)).setCells w9.heap.size 0 (Dt.cs ⟨h',k'⟩ ⟨pa',pc',ja,jc⟩).toList)
  generalize (w9.alloc (.cells zA datT)).setCells w9.heap.size 0 (Dt.cs ⟨h',k'⟩ ⟨pa',pc',ja,jc⟩).toList=v at hY ⊢
  obtain⟨hYb,hbv⟩:=hY
  have hdv:(⟨h',k'⟩:Dt).at v (fun b=>b<w5.heap.size) ⟨pa',pc',ja,jc⟩:=hdd.keep (fun x hx hl=>hbv.block x hl) (fun _ hx _=>hx)
  rw[nam_drop l hg] at hP hPl
  simp only[List.length_append] at hPl
  have hto: ∀g,t.v.ownBlock=some g->w5.heap.size<=g:=fun g hg=>(ARow.block hZ9 hg).1
  refine wpl (rg_wp (ck_r13 (d:=⟨h',k'⟩) (m:=⟨pa',pc',ja,jc⟩) (C0:=fun t8 w8=>ZRow w8 w5.heap.size t8 (P++namD h' k')/\Rw v w8 t t8) k3 rfl rfl (dat_load hYb rfl) (nam_get l hI.ok i h' k' hg v w5.heap.size _ t P _ (hZ9.old hbv) (by have:=hbv.size;omega) hdv (fun b hb e=>by have:=hto b e;omega) (by simp only[List.length_append];omega)) fun b4 t8 w8 hq k4=> ?_))
  obtain⟨hZ8,hW8⟩:=hq
  refine block_norm ?_
  show Code.wp _ (r_ck 14) _ b4 w8
  refine wpl (rg_wp (ck_r14 k4 rfl (by omega) fun b5 k5=>⟨⟨i+1,t8,_,hlt, ?_,hZ8,hW9.trans (Rw.pre hbv hW8), ?_⟩, ?_⟩))
  ·rw[hia]
   exact k5.to ⟨rfl,rfl,rfl,rfl,rfl,rfl,trivial⟩
  ·rw[<-hP]
   simp only[List.append_assoc]
  ·rw[k5.look 42 rfl]
   show muTo l.len (.int .i64 ((i+1:Nat):Int))<_
   rw[muTo_int]
   omega
 refine wp_seq (rg_wp (ck_r11 h9 rfl rfl (decide_eq_false (by omega)) fun b2 k2=> ?_))
 refine wp_seq (wpc_exit (k2.look 43 rfl) ?_)
 refine then_exit' (then_exit' (in_block2 ?_))
 obtain rfl:i=l.len:=by omega
 rw[Fo.drop_len l _ (Nat.le_refl _)] at hP
 have hP':P=bx++namF l:=by simpa[namF] using hP
 have k2:Sl 98 b2 [(10,.slice t.d t.n t.c),(7,.pointer (some ⟨rp,0,none⟩)),(0,.pointer (some ⟨gh,0,none⟩))]:=k2.to ⟨rfl,rfl,rfl,trivial⟩
 have hb59:Below w5.heap.size w5 w9:=hb7.trans (hW9.bel hyo hz7)
 have hI_len:=hI.len
 rw[<-hP'] at hI_len
 refine wp_seq (rg_wp (ck_r15 k2 rfl (zsort_any hZ9 (by omega)) fun a10 w10 hq h10=> ?_))
 obtain⟨hZ10,hW10⟩:=hq
 have hto: ∀g,t.v.ownBlock=some g->w5.heap.size<=g:=fun g hg=>(ARow.block hZ9 hg).1
 have hb10:Below w5.heap.size w5 w10:=hb59.trans (hW10.bel hto (by omega))
 obtain⟨R,hRR⟩: ∃R,R=rootsB bx l:=⟨_,rfl⟩
 have hZ10:ZRow w10 w5.heap.size t R:=by rw[hRR];unfold rootsB;rw[<-hP'];exact hZ10
 rw[<-hRR]
 have hRl:R.length<=1000000:=by rw[hRR];unfold rootsB sortZ;rw[List.length_mergeSort];exact hI.len
 have hRi: ∀x,x∈R-> -9223372036854775808<=x/\x<=9223372036854775807:=fun x hx=>hI.num x (by rw[hRR] at hx;exact sortZ_mem.1 hx)
 have hRc:=hR0.keep (w':=w10) fun b hb=>hb10.block b (by have:=(hR0.lim hb).2;omega)
 have hbw10:Below w.heap.size w w10:=hbw5.trans (hb10.mono hz5)
 have htn:t.n=R.length:=hZ10.1
 rw[htn] at h10
 have hz10:=hb10.size
 refine wp_seq (wp_seq (rg_wp (ck_r16 (on:=R.length) h10 rfl fun a11 h11=> ?_)))
 refine wp_block ?_
 refine wp_loop (fun a' wr=> ∃(j:Nat) (s':S3),j<=R.length/\Sl 98 a' [(54,.int .i64 (j:Int)),(53,.int .i64 (R.length:Int)),(52,.slice t.d R.length t.c),(7,.pointer (some ⟨rp,0,none⟩)),(0,.pointer (some ⟨gh,0,none⟩))]/\
   Rch w.heap.size wr rp gh bt (keysT T) ((R.take j).foldl (fun D n=>cmR (keysT T) D n) []) s'/\Below w.heap.size w wr/\w10.heap.size<=wr.heap.size/\ZRow wr w5.heap.size t R/\(∀g,s'.v.ownBlock=some g->w10.heap.size<=g)) (fun a' _=>muTo R.length (slot a' 54))
  ⟨0,⟨none,0,0⟩,Nat.zero_le _,h11.to ⟨rfl,rfl,rfl,rfl,rfl,trivial⟩,hRc,hbw10,Nat.le_refl _,hZ10,fun g hg=>by cases hg⟩ ?_
 rintro a12 w12 ⟨j,s',hj,h12,hR12,hb12,hz12,hZ12,ho12⟩
 rw[h12.look 54 rfl,muTo_int]
 unfold ckL1
 by_cases hjl:j<R.length
 ·refine wp_seq (rg_wp (ck_r17 h12 rfl rfl (decide_eq_true (by omega)) fun a13 h13=> ?_))
  refine wp_seq (wpn (h13.look 55 rfl) ?_)
  obtain⟨x,hx⟩: ∃x,R[j]? =some x:=⟨R[j],List.getElem?_eq_getElem hjl⟩
  obtain⟨g,htd,_,hc⟩:=ZRow.get hZ12 hx
  rw[htd] at h13
  refine wp_seq (wp_block ?_)
  refine wp_seq (rg_wp (ck_r18 (x:=x) h13 rfl rfl (fun w=>ix_int hjl w) (lds1 Tryz.underlying3 rfl hc) fun a14 h14=> ?_))
  obtain⟨D',hD'⟩: ∃D',D'=(R.take j).foldl (fun D n=>cmR (keysT T) D n) []:=⟨_,rfl⟩
  rw[<-hD'] at hR12
  refine wpl (rg_wp (ck_r19 (x:=x) (C0:=fun v=> ∃s2,RchQ w.heap.size w12 v rp gh bt (keysT T) (cmR (keysT T) D' x) s' s2) h14 rfl rfl (comes_any hK hR12 hb12.size (hRi x (List.mem_of_getElem? hx)) (q:=D'.length) (Nat.le_refl _) (fun _ _=>(rooted_nAt x D').symm)) fun a15 v hv h15=> ?_))
  obtain⟨s2,hQ⟩:=hv
  refine block_norm ?_
  show Code.wp _ (r_ck 20) _ a15 v
  have hzv:=hQ.m.size
  refine wpl (rg_wp (ck_r20 h15 rfl (by omega) fun a16 h16=>⟨⟨j+1,s2,hjl, ?_, ?_, ?_,by omega, ?_, ?_⟩, ?_⟩))
  ·rw[htd]
   exact h16.to ⟨rfl,rfl,rfl,rfl,rfl,trivial⟩
  ·rw[List.take_add_one,hx]
   simp only[Option.toList_some,List.foldl_append,List.foldl_cons,List.foldl_nil]
   rw[<-hD']
   exact hQ.r
  ·exact hb12.trans (below_of_moved hQ.m (fun b hb=>(hR12.lim hb).1) hb12.size)
  ·refine ARow.keep hZ12 fun b hbb=>hQ.m.block b (ARow.block hZ12 hbb).2 fun q=> ?_
   have h1:=ARow.block hZ10 hbb
   have h2:=hR0.blk.lt
   have h3:=hR0.mp.lt
   rcases q with rfl | rfl | q
   ·omega
   ·omega
   ·have:=ho12 b q
    omega
  ·intro g' hg'
   rcases hQ.o with e | ⟨g3,e,hg3⟩
   ·rw[e] at hg'
    exact ho12 g' hg'
   ·rw[e] at hg'
    injection hg' with hg'
    omega
  ·rw[h16.look 54 rfl]
   show muTo R.length (.int .i64 ((j+1:Nat):Int))<_
   rw[muTo_int]
   omega
 refine wp_seq (rg_wp (ck_r17 h12 rfl rfl (decide_eq_false (by omega)) fun a13 h13=> ?_))
 refine wp_seq (wpc_exit (h13.look 55 rfl) ?_)
 refine then_exit' (then_exit' (in_block2 ?_))
 obtain rfl:j=R.length:=by omega
 rw[List.take_length] at hR12
 refine wp_seq (rg_wp (ck_r21 h13 fun a14 h14=> ?_))
 refine wp_seq (wp_label ?_)
 show ckTail.wp _ _ a14 w12
 exact scope_first h hown hT ⟨(keysT T).length+1,0,_,s',h14.to ⟨rfl,rfl,rfl,trivial⟩,hR12,hb12,Nat.zero_le _,rfl,by omega⟩
end
end Go.Proofs.YtbjegfpfmnleeaaGreatDoor
