/-
   Written by an AI agent.
-/
import Derived.Test.YtbjegfpfmnleeaaGreatDoorQw32
namespace Go.Proofs.YtbjegfpfmnleeaaGreatDoor
open Go.RowKit Go.Maps
set_option maxRecDepth 100000
theorem app_dat{w:World}{B:Nat}{s:S3}{X:List Fd}(h:RowN B w s X)(hn:X.length<=100000)(hB:B<=w.heap.size):
  ∃(g c:Nat) (w':World),(∀ty,(Builtin.append_ #[23,23] ty #[.slice s.d s.n s.c,.slice (some ⟨w.heap.size,0,none⟩) 1 1]).run Tryz.prog (w.alloc (.cells zA datT))=.ok (.slice (some ⟨g,0,none⟩) (X.length+1) c) w')/\ARow w' B datT 11 ⟨some ⟨g,0,none⟩,X.length+1,c⟩ (X.length+1) ((X.flatMap fun x=>(x.dt.cs dm0).toList)++zA.toList)/\Moved (fun b=>s.v.ownBlock=some b) w w'/\(s.v.ownBlock=some g\/w.heap.size<g)/\∃cs,Blk w' g datT cs/\(X.length+1)*11<=cs.size:=by
 obtain⟨s',w',h1,h2,h3,h4⟩:=app_x h (by omega) hB zA rfl (by decide) 0
 rcases ARow.cases h2 with⟨_,e,_⟩ | ⟨g,cs,e1,e2,e3,e4,e5,e6,e7,e8⟩
 ·omega
 ·obtain⟨d,k,c⟩:=s'
  injection e1 with e1 e9 e10
  subst e1 e9
  refine⟨g,c,w',fun ty=>app_ty h1 ty,h2,h3, ?_,cs,e4,by rw[e7];exact Nat.mul_le_mul_right 11 e5⟩
  rcases h4 with q | q
  ·exact .inl (q.symm.trans e2)
  ·rw[e2] at q
   injection q with q
   exact .inr (by omega)
theorem ARow.fill1{w:World}{B n g c:Nat}{xs:List Value}(h:ARow w B datT 11 ⟨some ⟨g,0,none⟩,n+1,c⟩ (n+1) (xs++zA.toList))(hl:xs.length=n*11)(y:Fd):
  ARow (w.setCells g (n*11) (y.dt.cs dm0).toList) B datT 11 ⟨some ⟨g,0,none⟩,n+1,c⟩ (n+1) (xs++(y.dt.cs dm0).toList):=by
 have:=ARow.put (A:=xs) (V:=zA.toList) (Z:=[]) (by rw[List.append_nil];exact h) (vs:=(y.dt.cs dm0).toList) (by simp[Dt.cs,Hd.cells]) hl.symm
 rwa [List.append_nil] at this
theorem flat_len'(X:List Fd):(X.flatMap fun x=>(x.dt.cs dm0).toList).length=X.length*11:=by
 induction X with
 | nil=>rfl
 | cons x r ih=>
  rw[List.flatMap_cons,List.length_append,ih]
  have:(x.dt.cs dm0).toList.length=11:=by simp[Dt.cs,Hd.cells]
  simp only[List.length_cons]
  omega
theorem ARow.cells{w:World}{B sz n:Nat}{t:TypeId}{s:S3}{xs:List Value}(h:ARow w B t sz s n xs){g:Nat}(hg:s.v.ownBlock=some g): ∃cs,Blk w g t cs:=by
 rcases ARow.cases h with⟨e,_⟩ | ⟨g',cs,_,e2,_,e4,_⟩
 ·rw[e] at hg
  cases hg
 ·rw[e2] at hg
  injection hg with hg
  subst hg
  exact⟨cs,e4⟩
theorem ZRow.app'{w:World}{B:Nat}{s:S3}{l:List Int}(h:ZRow w B s l)(hn:l.length<=1000000000)(hB:B<=w.heap.size)(x:Int):
  ∃(s':S3) (w':World),(∀ty,(Builtin.append_ #[24,24] ty #[.slice s.d s.n s.c,.slice (some ⟨w.heap.size,0,none⟩) 1 1]).run Tryz.prog (w.alloc (.cells #[.int .i64 x] 3))=.ok (S3.v s') w')/\ZRow w' B s' (l++[x])/\Moved (fun b=>s.v.ownBlock=some b) w w'/\(s'.v.ownBlock=s.v.ownBlock\/∃g,s'.v.ownBlock=some g/\w.heap.size<=g):=by
 obtain⟨s',w',h1,h2,h3,h4⟩:=ZRow.app h hn hB x 0
 exact⟨s',w',fun ty=>app_ty h1 ty,h2,h3,h4.imp_right fun e=>⟨_,e,by omega⟩⟩
theorem act_load{w:World}{g:Nat}{k a b c:Int}(h:Blk w g actT (actC k a b c)):Lds Tryz.prog actT (.pointer (some ⟨g,0,none⟩)) (.agg (actC k a b c)) w:=
 ldsA (cs:=(actC k a b c).toList) Tryz.underlying59 rfl (by kernel_rfl) (fun j v hj=>by
  rw[h.cell,Nat.zero_add,<-Array.getElem?_toList]
  exact hj)
section
variable {B:Nat} {w:World} {wp gh:Nat} {O:Nat->Prop} {σ:St} {sd sk:S3}
def ActR(B:Nat)(w:World)(wp gh:Nat)(σ':St)(w':World):Prop:= ∃O' sd' sk',Wd B w' wp gh O' σ' sd' sk'/\Below B w w'
theorem ActR.hq(h:Wd B w wp gh O σ sd sk){w':World}{T':Tm}(hQ:HQ B w w' gh O σ.last T')(hok:StOk {σ with T:=T'}):ActR B w wp gh {σ with T:=T'} w':=by
 obtain⟨O',h1,h2,h3,h4⟩:=hQ
 have hlim:=fun b (hb:O b)=>h.hs.lim b hb
 have hk: ∀b,b<w.heap.size->¬O b->w'.heap[b]? =w.heap[b]? :=fun b hb ho=>h2.block b hb ho
 have ho': ∀b,b<w.heap.size->¬O b->¬O' b:=fun b hb ho e=>(h4 b e).elim ho fun q=>by omega
 refine⟨O',sd,sk,⟨(hk _ h.blk.lt h.o1).trans h.blk,h1,ARow.keep h.data fun g hg=>hk g (ARow.block h.data hg).2 (h.o2 g hg),ARow.keep h.kinds fun g hg=>hk g (ARow.block h.kinds hg).2 (h.o3 g hg),h.lo,ho' _ h.blk.lt h.o1,fun g hg=>ho' g (ARow.block h.data hg).2 (h.o2 g hg),fun g hg=>ho' g (ARow.block h.kinds hg).2 (h.o3 g hg),hok⟩,below_of_moved h2 (fun b hb=>(hlim b hb).1) (by have:=(h.lim (.inl rfl));omega)⟩
theorem grow_k{z:World}{O1:Nat->Prop}{L':Nat}{T':Tm}{X':List Fd}{k a b c:Int}{g3:Nat}(hwz:Blk z wp wldT #[.pointer (some ⟨gh,0,none⟩),.slice sd.d sd.n sd.c,.slice sk.d sk.n sk.c])(hdz:RowN B z sd X')(hkz:ZRow z B sk σ.Ks)(hAz:Blk z g3 actT (actC k a b c))(hsz:HS B z gh O1 L' T')
  (o1: ¬O1 wp) (o2: ∀g,sd.v.ownBlock=some g->¬O1 g) (o3: ∀g,sk.v.ownBlock=some g->¬O1 g) (lo:B<=wp) (hB:B<=z.heap.size) (hK:σ.Ks.length<=1000) (hok:StOk ⟨L',T',X',σ.Ks++[k]⟩)
  {a4:Act} (h4:Sl 183 a4 [(3,.pointer (some ⟨g3,0,none⟩)),(0,.pointer (some ⟨wp,0,none⟩))]) (Qn:Exit->Act->World->Prop) (hQn: ∀a' z',a'.defers=[]->(∃O' sd' sk',Wd B z' wp gh O' ⟨L',T',X',σ.Ks++[k]⟩ sd' sk'/\Below B z z')->Qn .ret a' z'):Code.wp Tryz.prog (.seq (r_zc 4) .ret) Qn a4 z:=by
 have hdz1:Below z.heap.size z (z.drewN 1):=below_drewN (Below.refl _ _) 1
 have hsz1:(z.drewN 1).heap.size=z.heap.size:=rfl
 obtain⟨t,z2,hr2,hZ2,hM2,ho2⟩:=ZRow.app' (hkz.old hdz1) (by omega) (by omega) k
 have hwz1:=hwz.below hdz1 hwz.lt
 have hkw:sk.v.ownBlock≠some wp:=fun e=>by
  have:=ZRow.cells hkz e
  have:=Blk.same_t this.choose_spec hwz
  revert this
  decide
 have hkA:sk.v.ownBlock≠some g3:=fun e=>by
  have:=ZRow.cells hkz e
  have:=Blk.same_t this.choose_spec hAz
  revert this
  decide
 have hwA:wp≠g3:=fun e=>by
  subst e
  have:=Blk.same_t hwz hAz
  revert this
  decide
 have hkd: ∀g,sd.v.ownBlock=some g->sk.v.ownBlock≠some g:=fun g hg e=>by
  have h1:=ZRow.cells hkz e
  have h2:=ARow.cells hdz hg
  have:=Blk.same_t h1.choose_spec h2.choose_spec
  revert this
  decide
 have hdw:sd.v.ownBlock≠some wp:=fun e=>by
  have:=ARow.cells hdz e
  have:=Blk.same_t this.choose_spec hwz
  revert this
  decide
 have hwz2:Blk z2 wp wldT #[.pointer (some ⟨gh,0,none⟩),.slice sd.d sd.n sd.c,.slice sk.d sk.n sk.c]:=(hM2.block _ hwz1.lt hkw).trans hwz1
 have hst:So 24 wp 2 (.slice t.d t.n t.c) z2 [.slice t.d t.n t.c]:=one_store hwz2 (by kernel_rfl) (by show 2<3;omega) rfl
 have hAz2:Blk z2 g3 actT (actC k a b c):=(hM2.block _ hAz.lt hkA).trans (hAz.below hdz1 hAz.lt)
 refine wp_seq (rg_wp (zc_r4 (C:=fun z=>Blk z g3 actT (actC k a b c)) (k:=k) (kd:=sk.d) (kn:=sk.n) (kc:=sk.c) (C0:=fun _ s' z'=>s'=t/\z'=z2) h4 rfl rfl (hAz.below hdz1 hAz.lt) (fun z hz=>one_load hz Tryz.underlying3 rfl rfl) (one_load hwz1 Tryz.underlying24 rfl rfl) ((hAz.below hdz1 hAz.lt).alloc _) (fun ty=>⟨t,z2,hr2 ty,rfl,rfl⟩) (fun s' z' hh=>by rw[hh.2];exact hAz2) (fun s' z' hh=>by rw[hh.1,hh.2];exact hst) (fun s' z' hh=>by rw[hh.2];exact Blk.farL (Ne.symm hwA) _ _ _ hAz2) (one_load (hwz1.alloc _) Tryz.underlying24 rfl rfl) fun a5 s' z' hh h5=>wp_ret ?_))
 obtain⟨rfl,rfl⟩:=hh
 have hnt: ∀q,s'.v.ownBlock=some q->q≠wp:=fun q hq e=>by
  subst e
  have:=ZRow.cells hZ2 hq
  have:=Blk.same_t this.choose_spec hwz2
  revert this
  decide
 have hMall:Moved (fun b=>b=wp\/sk.v.ownBlock=some b) z (z'.setCells wp 2 [.slice s'.d s'.n s'.c]):=
  ((Moved.of_below hdz1).trans (hM2.more fun b hb=>.inl (.inr hb))).set (.inl (.inl rfl)) _ _
 have hkow: ∀g,sk.v.ownBlock=some g->B<=g/\g<z.heap.size:=fun g hg=>ARow.block hkz hg
 have hdow: ∀g,sd.v.ownBlock=some g->B<=g/\g<z.heap.size:=fun g hg=>ARow.block hdz hg
 refine hQn _ _ h5.defers ⟨O1,sd,s',⟨?_, ?_, ?_, ?_,lo,o1,o2, ?_,hok⟩, ?_⟩
 ·show Blk (z'.setCells wp 2 [.slice s'.d s'.n s'.c]) wp wldT #[.pointer (some ⟨gh,0,none⟩),.slice sd.d sd.n sd.c,.slice s'.d s'.n s'.c]
  exact Blk.set_ hwz2 2 _
 ·exact hsz.keep hMall.size fun b hb=>hMall.block b (hsz.lim b hb).2 fun q=>by
   rcases q with rfl | q
   ·exact o1 hb
   ·exact o3 b q hb
 ·exact ARow.keep hdz fun g hg=>hMall.block g (hdow g hg).2 fun q=>by
   rcases q with rfl | q
   ·exact hdw hg
   ·exact hkd g hg q
 ·exact ARow.keep hZ2 fun q hq=>setCells_other _ _ _ (hnt q hq)
 ·intro g hg e
  rcases ho2 with o | ⟨g',o,o4⟩
  ·rw[o] at hg
   exact o3 g hg e
  ·rw[o] at hg
   injection hg with hg
   have:=(hsz.lim _ e).2
   omega
 ·exact below_of_moved hMall (fun b hb=>by
   rcases hb with rfl | hb
   ·exact lo
   ·exact(hkow b hb).1) hB
set_option maxHeartbeats 2000000 in
theorem grow_any{v2:World}{O1:Nat->Prop}{L':Nat}{T':Tm}{y:Fd}{k a b c:Int}{g3 g4:Nat}(hwp2:Blk v2 wp wldT #[.pointer (some ⟨gh,0,none⟩),.slice sd.d sd.n sd.c,.slice sk.d sk.n sk.c])(hdt2:RowN B v2 sd σ.X)(hkd2:ZRow v2 B sk σ.Ks)(hA2:Blk v2 g3 actT (actC k a b c))(hs2:HS B v2 gh O1 L' T')(hD:Blk v2 g4 datT (y.dt.cs dm0))(nd4:sd.v.ownBlock≠some g4)
  (o1: ¬O1 wp) (o2: ∀g,sd.v.ownBlock=some g->¬O1 g) (o3: ∀g,sk.v.ownBlock=some g->¬O1 g) (lo:B<=wp) (hB:B<=v2.heap.size) (hX:σ.X.length<=1000) (hK:σ.Ks.length<=1000) (hok:StOk ⟨L',T',σ.X++[y],σ.Ks++[k]⟩)
  {a3:Act} (h3:Sl 183 a3 [(4,.pointer (some ⟨g4,0,none⟩)),(3,.pointer (some ⟨g3,0,none⟩)),(0,.pointer (some ⟨wp,0,none⟩))]) (Qn:Exit->Act->World->Prop) (hQn: ∀a' z',a'.defers=[]->(∃O' sd' sk',Wd B z' wp gh O' ⟨L',T',σ.X++[y],σ.Ks++[k]⟩ sd' sk'/\Below B v2 z')->Qn .ret a' z'):Code.wp Tryz.prog (.seq (r_zc 3) (.seq (r_zc 4) .ret)) Qn a3 v2:=by
 have hDl:=hD.lt
 have hsn:sd.n=σ.X.length:=hdt2.1
 have hdr:Below v2.heap.size v2 (v2.drewN 1):=below_drewN (Below.refl _ _) 1
 have hszd:(v2.drewN 1).heap.size=v2.heap.size:=rfl
 obtain⟨g,cc,w',hrun,hAr,hMv,hgx,cs,hgB,hcz⟩:=app_dat (hdt2.old hdr) (by omega) (by omega)
 have hkow: ∀g,sk.v.ownBlock=some g->B<=g/\g<v2.heap.size:=fun g hg=>ARow.block hkd2 hg
 have hdow: ∀g,sd.v.ownBlock=some g->B<=g/\g<v2.heap.size:=fun g hg=>ARow.block hdt2 hg
 have hdA:sd.v.ownBlock≠some g3:=fun e=>by
  have:=ARow.cells hdt2 e
  have:=Blk.same_t this.choose_spec hA2
  revert this
  decide
 have hdw:sd.v.ownBlock≠some wp:=fun e=>by
  have:=ARow.cells hdt2 e
  have:=Blk.same_t this.choose_spec hwp2
  revert this
  decide
 have hkd: ∀g,sk.v.ownBlock=some g->sd.v.ownBlock≠some g:=fun g hg e=>by
  have h1:=ZRow.cells hkd2 hg
  have h2:=ARow.cells hdt2 e
  have:=Blk.same_t h1.choose_spec h2.choose_spec
  revert this
  decide
 have hkw:sk.v.ownBlock≠some wp:=fun e=>by
  have:=ZRow.cells hkd2 e
  have:=Blk.same_t this.choose_spec hwp2
  revert this
  decide
 have hwA:g3≠wp:=fun e=>by
  subst e
  have:=Blk.same_t hwp2 hA2
  revert this
  decide
 have nw4:g4≠wp:=fun e=>by
  subst e
  have:=Blk.same_t hwp2 hD
  revert this
  decide
 have ng4:g4≠g:=fun e=>by
  subst e
  rcases hgx with q | q
  ·exact nd4 q
  ·omega
 have hwp3:Blk w' wp wldT #[.pointer (some ⟨gh,0,none⟩),.slice sd.d sd.n sd.c,.slice sk.d sk.n sk.c]:=(hMv.block _ (by have:=hwp2.lt;omega) hdw).trans (hwp2.below hdr hwp2.lt)
 have nwp:wp≠g:=fun e=>by
  subst e
  have:=Blk.same_t hgB hwp3
  revert this
  decide
 have hD3:Blk w' g4 datT (y.dt.cs dm0):=(hMv.block _ (by omega) nd4).trans (hD.below hdr hDl)
 have hst3: ∀z:World,Blk z wp wldT #[.pointer (some ⟨gh,0,none⟩),.slice sd.d sd.n sd.c,.slice sk.d sk.n sk.c]->So 23 wp 1 (.slice (some ⟨g,0,none⟩) (sd.n+1) cc) z [.slice (some ⟨g,0,none⟩) (sd.n+1) cc]:=fun z hz=>one_store hz (by kernel_rfl) (by show 1<3;omega) rfl
 have hstg: ∀(z:World),Blk z g datT cs->So datT g (sd.n*11) (.agg (y.dt.cs dm0)) z (y.dt.cs dm0).toList:=fun z hz=>dat_store hz (by rw[hsn];omega)
 obtain⟨C,hC⟩: ∃C:World->Prop,C=fun z=>Blk z g4 datT (y.dt.cs dm0):=⟨_,rfl⟩
 have hCg: ∀(z:World) (o:Nat) (vs:List Value),C z->C (z.setCells g o vs):=fun z o vs hz=>by rw[hC] at hz ⊢;exact Blk.farL ng4 _ _ _ hz
 have hCw: ∀(z:World) (o:Nat) (vs:List Value),C z->C (z.setCells wp o vs):=fun z o vs hz=>by rw[hC] at hz ⊢;exact Blk.farL nw4 _ _ _ hz
 have hC3:C w':=by rw[hC];exact hD3
 have hrow: ∀z:World,ARow z B datT 11 ⟨some ⟨g,0,none⟩,σ.X.length+1,cc⟩ (σ.X.length+1) ((σ.X.flatMap fun x=>(x.dt.cs dm0).toList)++(y.dt.cs dm0).toList)->RowN B z ⟨some ⟨g,0,none⟩,sd.n+1,cc⟩ (σ.X++[y]):=fun z hz=>by
  unfold RowN
  rw[List.length_append,List.flatMap_append,List.flatMap_singleton,hsn]
  exact hz
 have hMd:Moved (fun b=>b=wp\/sd.v.ownBlock=some b) v2 w':=(Moved.of_below hdr).trans (hMv.more fun b hb=>.inl (.inr hb))
 have hgO:(g=wp\/sd.v.ownBlock=some g)\/v2.heap.size<=g:=hgx.elim (fun q=>.inl (.inr q)) (fun q=>.inr (by omega))
 have hlX:=flat_len' σ.X
 have fin: ∀(a4:Act) (z:World),Sl 183 a4 [(3,.pointer (some ⟨g3,0,none⟩)),(0,.pointer (some ⟨wp,0,none⟩))]->Blk z wp wldT #[.pointer (some ⟨gh,0,none⟩),.slice (some ⟨g,0,none⟩) (sd.n+1) cc,.slice sk.d sk.n sk.c]->RowN B z ⟨some ⟨g,0,none⟩,sd.n+1,cc⟩ (σ.X++[y])->Moved (fun b=>b=wp\/sd.v.ownBlock=some b) v2 z->Code.wp Tryz.prog (.seq (r_zc 4) .ret) Qn a4 z:=fun a4 z h4 hwz hdz hMz=>by
  have hzz:=hMz.size
  have hblw:=below_of_moved (B:=B) hMz (fun b hb=>by
   rcases hb with rfl | hb
   ·exact lo
   ·exact(hdow b hb).1) hB
  refine grow_k (sd:=⟨some ⟨g,0,none⟩,sd.n+1,cc⟩) (O1:=O1) (L':=L') (T':=T') (σ:=σ) hwz hdz (ARow.keep hkd2 fun q hq=>hMz.block q (hkow q hq).2 fun e=> ?_) ((hMz.block _ hA2.lt fun e=> ?_).trans hA2) (hs2.keep hzz fun b hb=>hMz.block b (hs2.lim b hb).2 fun e=> ?_) o1 (fun q hq e=> ?_) o3 lo (by omega) hK hok h4 Qn fun a' z' hd ⟨O',sd',sk',r1,r2⟩=>hQn a' z' hd ⟨O',sd',sk',r1,hblw.trans r2⟩
  ·rcases e with rfl | e
   ·exact hkw hq
   ·exact hkd q hq e
  ·rcases e with e | e
   ·exact hwA e
   ·exact hdA e
  ·rcases e with rfl | e
   ·exact o1 hb
   ·exact o2 b e hb
  ·injection hq with hq
   have hq:g=q:=hq
   subst hq
   rcases hgx with o | o
   ·exact o2 g o e
   ·have:=(hs2.lim _ e).2
    omega
 refine wp_seq (rg_wp (zc_r3 (C:=C) (dd:=sd.d) (dn:=sd.n) (dc:=sd.c) (gx:=g) (y:=y.dt) (my:=dm0) (C0:=fun _ c' z'=>c'=cc/\z'=w') h3 rfl rfl ?a0 (fun z hz=>by rw[hC] at hz;exact dat_load hz rfl) (one_load (hwp2.below hdr hwp2.lt) Tryz.underlying23 rfl rfl) ?a3 (fun ty=>⟨cc,w',by have:=hrun ty;rw[hsn] at this ⊢;exact this,rfl,rfl⟩) (fun c' z' hh=>by rw[hh.2];exact hC3) (fun c' z' hh w=>by rw[hh.1];exact ix_row (by omega) w) (fun c' z' hh=>by rw[hh.2];exact hstg _ hgB) (fun c' z' hh=>by rw[hh.2];exact hCg _ _ _ hC3)
  (fun c' z' hh=>by rw[hh.1,hh.2];exact hst3 _ (Blk.farL nwp _ _ _ hwp3)) (fun c' z' hh=>by rw[hh.1,hh.2];exact hCw _ _ _ (hCg _ _ _ hC3)) (fun c' z' hh=>by rw[hh.1,hh.2];exact hst3 _ hwp3) (fun c' z' hh=>by rw[hh.1,hh.2];exact hCw _ _ _ hC3) (fun c' z' hh=>by rw[hh.1,hh.2];exact hstg _ (Blk.farL (Ne.symm nwp) _ _ _ hgB)) (fun c' z' hh=>by rw[hh.1,hh.2];exact hCg _ _ _ (hCw _ _ _ hC3)) (one_load ((hwp2.below hdr hwp2.lt).alloc _) Tryz.underlying23 rfl rfl) ?n0 ?n1))
 case a0=>rw[hC];exact hD.below hdr hDl
 case a3=>rw[hC];exact(hD.below hdr hDl).alloc _
 case n0=>
  rintro a4 c' z' ⟨rfl,rfl⟩ h4
  have hb:Blk ((z'.setCells g (sd.n*11) (y.dt.cs dm0).toList).setCells wp 1 [.slice (some ⟨g,0,none⟩) (sd.n+1) c']) wp wldT #[.pointer (some ⟨gh,0,none⟩),.slice (some ⟨g,0,none⟩) (sd.n+1) c',.slice sk.d sk.n sk.c]:=Blk.set_ (Blk.farL nwp _ _ _ hwp3) 1 _
  refine fin a4 _ (h4.to ⟨rfl,rfl,trivial⟩) hb (hrow _ ?_) ((hMd.set hgO _ _).set (.inl (.inl rfl)) _ _)
  rw[hsn]
  exact ARow.keep (ARow.fill1 hAr hlX y) fun q hq=>setCells_other _ _ _ (by injection hq with hq;rw[<-hq];exact Ne.symm nwp)
 case n1=>
  rintro a4 c' z' ⟨rfl,rfl⟩ h4
  have hb:Blk ((z'.setCells wp 1 [.slice (some ⟨g,0,none⟩) (sd.n+1) c']).setCells g (sd.n*11) (y.dt.cs dm0).toList) wp wldT #[.pointer (some ⟨gh,0,none⟩),.slice (some ⟨g,0,none⟩) (sd.n+1) c',.slice sk.d sk.n sk.c]:=Blk.farL nwp _ _ _ (Blk.set_ hwp3 1 _)
  refine fin a4 _ (h4.to ⟨rfl,rfl,trivial⟩) hb (hrow _ ?_) ((hMd.set (.inl (.inl rfl)) _ _).set hgO _ _)
  rw[hsn]
  exact ARow.fill1 (ARow.keep hAr fun q hq=>setCells_other _ _ _ (by injection hq with hq;rw[<-hq];exact Ne.symm nwp)) hlX y
end
end Go.Proofs.YtbjegfpfmnleeaaGreatDoor

namespace Go.Proofs.YtbjegfpfmnleeaaGreatDoor
open Go.RowKit Go.Maps
set_option maxRecDepth 100000
section
variable {B:Nat} {w:World} {wp gh:Nat} {O:Nat->Prop} {σ:St} {sd sk:S3}
set_option maxHeartbeats 4000000 in
theorem act_any(h:Wd B w wp gh O σ sd sk)(hown:OwnAt w)(hB0:0<B){m:Nat}(hm:m<=90)(hq:TQ m σ.T)(hl:σ.X.length<80){k a b c:Int}(ha:okInt a)(hb:okInt b)(hc:okInt c):
  Calls Tryz.prog 26 #[.pointer (some ⟨wp,0,none⟩),.agg (actC k a b c)] w fun e w'=>e=.returned (.tuple #[])/\ActR B w wp gh (actS σ k a b c) w':=by
 refine calls_ev (vs:=[.pointer (some ⟨wp,0,none⟩),.agg (actC k a b c)]) 183 Tryz.func26 zc_body (by kernel_rfl) (by simp) fun a0 h0=> ?_
 unfold zcBody
 obtain⟨hok',_⟩:=act_q h.ok hl (by omega) hq k a b c
 have hdok:=fun c=>datS_ok h.ok.ok h.ok.far c
 have hBw:=h.lim (.inl rfl)
 have hE: ∀o E,tget σ.T o=some (.tab E)->E.length<=100:=fun o E hE=>by have:=(hq.get hE).2 E rfl;omega
 have hlk:=h.ok.len
 refine wp_seq (rg_wp (zc_r0 h0 rfl fun a1 h1=> ?_))
 have hA:=Blk.new w actT (actC k a b c)
 have hbu:Below w.heap.size w (w.alloc (.cells (actC k a b c) actT)):=bl_alloc (Below.refl _ _) _
 have hzu:(w.alloc (.cells (actC k a b c) actT)).heap.size=w.heap.size+1:=by simp
 obtain⟨g3,hg3⟩: ∃g3,g3=w.heap.size:=⟨_,rfl⟩
 rw[<-hg3] at h1 hA
 change Code.wp _ _ _ a1 (w.alloc (.cells (actC k a b c) actT))
 generalize w.alloc (.cells (actC k a b c) actT)=u at hA hbu hzu ⊢
 have hW:=h.old hbu
 have hownu:=hown.old hbu
 have h1:Sl 183 a1 [(3,.pointer (some ⟨g3,0,none⟩)),(0,.pointer (some ⟨wp,0,none⟩))]:=h1.to ⟨rfl,rfl,trivial⟩
 have hBu:Below B w u:=hbu.mono (by omega)
 have lK: ∀v,Below u.heap.size u v->Lds Tryz.prog 3 (.pointer (some ⟨g3,0,none⟩)) (.int .i64 k) v:=fun v hv=>one_load (hA.below hv hA.lt) Tryz.underlying3 rfl rfl
 have endS: ∀(σ':St) (a':Act) (v:World),a'.defers=[]->actS σ k a b c=σ'->(∃O' sd' sk',Wd B v wp gh O' σ' sd' sk'/\Below B u v)->∀(a0:Act),bodyPost Tryz.prog Tryz.f26 (fun e w'=>e=.returned (.tuple #[])/\ActR B w wp gh (actS σ k a b c) w') .normal a' v/\bodyPost Tryz.prog Tryz.f26 (fun e w'=>e=.returned (.tuple #[])/\ActR B w wp gh (actS σ k a b c) w') .ret a' v:=fun σ' a' v hd e ⟨O',d',k',r1,r2⟩ _=>by
  rw[e]
  exact⟨bodyPost_end (results_none rfl _ _ _) hd ⟨rfl,O',d',k',r1,hBu.trans r2⟩,bodyPost_ret (results_none rfl _ _ _) hd ⟨rfl,O',d',k',r1,hBu.trans r2⟩⟩
 by_cases hmk:1<=k/\k<=5
 ·have eS:actS σ k a b c=⟨(makeS σ k a b c).1,(makeS σ k a b c).2.1,σ.X++[(makeS σ k a b c).2.2],σ.Ks++[k]⟩:=by unfold actS;rw[if_pos hmk]
  obtain⟨L',hL'⟩: ∃L',L'=(makeS σ k a b c).1:=⟨_,rfl⟩
  obtain⟨T',hT'⟩: ∃T',T'=(makeS σ k a b c).2.1:=⟨_,rfl⟩
  obtain⟨y,hy⟩: ∃y,y=(makeS σ k a b c).2.2:=⟨_,rfl⟩
  have hmake:=make1_any hW hownu hB0 hE ha hb hc (k:=k)
  rw[<-hL',<-hT',<-hy] at hmake eS
  rw[eS] at hok'
  refine wp_seq (wp_seq (rg_wp (zc_r1_t (k:=k) (b15:=true) h1 rfl (lK u (Below.refl _ _)) (decide_eq_true hmk.1) (decide_eq_true hmk.2) fun a2 h2=>wp_cond_true (h2.look 16 rfl) ?_)))
  refine wp_seq (rg_wp (zc_r2 (y:=y.dt) (my:=dm0) (C0:=fun v=>HQ B u v gh O L' T') h2 rfl rfl (act_load hA) hmake (fun v hv=>dat_store (Blk.new v datT zA) (by show 0+11<=11;omega)) fun a3 v hv h3=> ?_))
  obtain⟨O1,s1,s2,s3,s4⟩:=hv
  have hX:=over_x (w:=v) y.dt dm0
  obtain⟨g4,hg4⟩: ∃g4,g4=v.heap.size:=⟨_,rfl⟩
  change Code.wp _ _ _ a3 ((v.alloc (.cells zA datT)).setCells v.heap.size 0 (y.dt.cs dm0).toList)
  have hvz:=s2.size
  rw[<-hg4] at hX h3
  rw[<-hg4]
  generalize (v.alloc (.cells zA datT)).setCells g4 0 (y.dt.cs dm0).toList=v2 at hX ⊢
  obtain⟨hD,hbv⟩:=hX
  rw[hg4] at hbv
  have hz2:=hbv.size
  have keep2: ∀g,g<u.heap.size->¬O g->v2.heap[g]? =u.heap[g]? :=fun g hg ho=>(hbv.block _ (by omega)).trans (s2.block _ hg ho)
  have ho1: ∀g,g<u.heap.size->¬O g->¬O1 g:=fun g hg ho e=>(s4 _ e).elim ho fun q=>by omega
  have hb2:Below B u v2:=(below_of_moved s2 (fun b hb=>(h.hs.lim b hb).1) (by omega)).trans (hbv.mono (by omega))
  refine grow_any (O1:=O1) (L':=L') (T':=T') (y:=y) (σ:=σ) (g4:=g4) (g3:=g3) (k:=k) (a:=a) (b:=b) (c:=c) ((keep2 _ hW.blk.lt h.o1).trans hW.blk) (ARow.keep hW.data fun g hg=>keep2 g (ARow.block hW.data hg).2 (h.o2 g hg)) (ARow.keep hW.kinds fun g hg=>keep2 g (ARow.block hW.kinds hg).2 (h.o3 g hg)) ((keep2 _ hA.lt fun e=>by have:=(h.hs.lim _ e).2;omega).trans hA) (s1.old hbv) hD (fun e=>by have:=(ARow.block hW.data e).2;omega)
   (ho1 _ hW.blk.lt h.o1) (fun g hg=>ho1 g (ARow.block hW.data hg).2 (h.o2 g hg)) (fun g hg=>ho1 g (ARow.block hW.kinds hg).2 (h.o3 g hg)) h.lo (by omega) (by omega) (by omega) hok' (h3.to ⟨rfl,rfl,rfl,trivial⟩) _ fun a' z' hd ⟨O',d',k',r1,r2⟩=> ?_
  repeat (first | with_reducible refine then_ret ?_ | with_reducible refine block_ret ?_)
  exact(endS _ a' z' hd eS ⟨O',d',k',r1,hb2.trans r2⟩ a').2
 have r1: ∀Qn:Exit->Act->World->Prop,(∀a2,Sl 183 a2 [(3,.pointer (some ⟨g3,0,none⟩)),(0,.pointer (some ⟨wp,0,none⟩)),(16,.bool false)]->Qn .normal a2 u)->(r_zc 1).wp Tryz.prog Qn a1 u:=fun Qn hQn=>by
  by_cases h1k:1<=k
  ·exact wpl (rg_wp (zc_r1_t (k:=k) (b15:=false) h1 rfl (lK u (Below.refl _ _)) (decide_eq_true h1k) (decide_eq_false fun e=>hmk ⟨h1k,e⟩) fun a2 h2=>hQn a2 (h2.to ⟨rfl,rfl,rfl,trivial⟩)))
  ·exact wpl (rg_wp (zc_r1_f (k:=k) h1 rfl (lK u (Below.refl _ _)) (decide_eq_false h1k) fun a2 h2=>hQn a2 (h2.to ⟨rfl,rfl,rfl,trivial⟩)))
 refine wp_seq (wp_seq (r1 _ fun a2 h2=>wpc_off (h2.look 16 rfl) ?_))
 have lA: ∀v,Below u.heap.size u v->Lds Tryz.prog 3 (.pointer (some ⟨g3,1,none⟩)) (.int .i64 a) v:=fun v hv=>one_load (hA.below hv hA.lt) Tryz.underlying3 rfl rfl
 have nm: ∀(q:Int) (v:World),Below u.heap.size u v->Calls Tryz.prog 44 #[.pointer (some ⟨wp,0,none⟩),.int .i64 a,.int .i64 q] v fun e w'=>e=.returned (.int .i64 ((numS σ.Ks a q:Nat):Int))/\Below u.heap.size u w':=fun q v hv=>(lawNumber_any (hW.old hv) ha).mono fun e w' hh=>⟨hh.1,bl_trans hv hh.2⟩
 obtain⟨n2,hn2⟩: ∃n,n=numS σ.Ks a 2:=⟨_,rfl⟩
 obtain⟨n3,hn3⟩: ∃n,n=numS σ.Ks a 3:=⟨_,rfl⟩
 obtain⟨n4,hn4⟩: ∃n,n=numS σ.Ks a 4:=⟨_,rfl⟩
 obtain⟨n1,hn1⟩: ∃n,n=numS σ.Ks a 1:=⟨_,rfl⟩
 have nl: ∀q,numS σ.Ks a q<=80:=fun q=>by have:=numS_le σ.Ks a q;omega
 have nx: ∀q,0<numS σ.Ks a q->∃x,σ.X[numS σ.Ks a q-1]? =some x:=fun q h0=>⟨σ.X[numS σ.Ks a q-1]'(by have:=numS_le σ.Ks a q;omega),List.getElem?_eq_getElem _⟩
 refine wp_seq (rg_wp (zc_r5 (n:=n2) (C0:=fun v=>Below u.heap.size u v) h2 rfl rfl (lA u (Below.refl _ _)) (by rw[hn2];exact nm 2 u (Below.refl _ _)) fun a5 v5 hv5 h5=> ?_))
 refine wp_seq (rg_wp (zc_r6 (n:=n3) (C0:=fun v=>Below u.heap.size u v) h5 rfl rfl (lA v5 hv5) (by rw[hn3];exact nm 3 v5 hv5) fun a6 v6 hv6 h6=> ?_))
 refine wp_seq (rg_wp (zc_r7 (n:=n4) (C0:=fun v=>Below u.heap.size u v) h6 rfl rfl (lA v6 hv6) (by rw[hn4];exact nm 4 v6 hv6) fun a7 v7 hv7 h7=> ?_))
 refine wp_seq (rg_wp (zc_r8 (n:=n1) (C0:=fun v=>Below u.heap.size u v) h7 rfl rfl (lA v7 hv7) (by rw[hn1];exact nm 1 v7 hv7) fun a8 v hv h8=> ?_))
 have h8:Sl 183 a8 [(3,.pointer (some ⟨g3,0,none⟩)),(0,.pointer (some ⟨wp,0,none⟩)),(5,.int .i64 (n2:Int)),(6,.int .i64 (n3:Int)),(7,.int .i64 (n4:Int)),(8,.int .i64 (n1:Int))]:=h8.to ⟨rfl,rfl,rfl,rfl,rfl,rfl,trivial⟩
 have hWv:=hW.old hv
 have hAv:=hA.below hv hA.lt
 have hownv:=hownu.old hv
 have hBv:Below B u v:=hv.mono (by omega)
 obtain⟨bm,pt,own,hx⟩:=hWv.hs
 have hsn:sd.n=σ.X.length:=h.data.1
 have hzv:=hv.size
 obtain⟨C,hC⟩: ∃C:World->Prop,C=fun z=>Below v.heap.size v z:=⟨_,rfl⟩
 have hCd:C (v.drewN 1):=by rw[hC];exact below_drewN (Below.refl _ _) 1
 have hCi: ∀z,C z->Below v.heap.size v z:=fun z hz=>by rw[hC] at hz;exact hz
 have hCo: ∀z,Below v.heap.size v z->C z:=fun z hz=>by rw[hC];exact hz
 have ch: ∀z,C z->Lds Tryz.prog 35 (.pointer (some ⟨wp,0,none⟩)) (.pointer (some ⟨gh,0,none⟩)) z:=fun z hz=>(hWv.old (hCi z hz)).lh
 have cX: ∀{q:Option Addr},sd.d=q->∀z,C z->Lds Tryz.prog 23 (.pointer (some ⟨wp,1,none⟩)) (.slice q sd.n sd.c) z:=fun e z hz=>by rw[<-e];exact(hWv.old (hCi z hz)).ld
 have cB: ∀z,C z->Lds Tryz.prog 3 (.pointer (some ⟨g3,2,none⟩)) (.int .i64 b) z:=fun z hz=>one_load (hAv.below (hCi z hz) hAv.lt) Tryz.underlying3 rfl rfl
 have cC: ∀z,C z->Lds Tryz.prog 3 (.pointer (some ⟨g3,3,none⟩)) (.int .i64 c) z:=fun z hz=>one_load (hAv.below (hCi z hz) hAv.lt) Tryz.underlying3 rfl rfl
 have cA: ∀z,C z->Lds Tryz.prog 3 (.pointer (some ⟨g3,1,none⟩)) (.int .i64 a) z:=fun z hz=>one_load (hAv.below (hCi z hz) hAv.lt) Tryz.underlying3 rfl rfl
 have dt: ∀z,C z->∀{c:Int},okInt c->Calls Tryz.prog 22 #[.pointer (some ⟨wp,0,none⟩),.int .i64 c] z fun e w'=>e=.returned (.agg ((datS σ.X c).dt.cs dm0))/\C w':=fun z hz {c} hc=>(lawDatum_any (hWv.old (hCi z hz)) hc).mono fun e w' hh=>⟨hh.1,hCo _ (bl_trans (hCi z hz) hh.2)⟩
 have el: ∀{j:Nat} {x:Fd},σ.X[j]? =some x->∃q,sd.d=some ⟨q,0,none⟩/\∀z,C z->Lds Tryz.prog datT (.pointer (some ⟨q,j*11,none⟩)) (.agg (x.dt.cs dm0)) z:=fun{j x} hj=>by
  obtain⟨q,e1,e2,e3,_⟩:=(RowN.row hWv.data).1.load hj
  refine⟨q,e1,fun z hz=> ?_⟩
  obtain⟨q',f1,_,_,f4⟩:=(RowN.row (hWv.old (hCi z hz)).data).1.load hj
  rw[e1] at f1
  injection f1 with f1
  injection f1 with f1 _
  subst f1
  exact f4
 have cp: ∀(T':Tm) (a':Act) (z:World),a'.defers=[]->actS σ k a b c={σ with T:=T'}->HQ B v z gh O σ.last T'->bodyPost Tryz.prog Tryz.f26 (fun e w'=>e=.returned (.tuple #[])/\ActR B w wp gh (actS σ k a b c) w') .normal a' z:=fun T' a' z hd e hQ=>by
  rw[e] at hok'
  obtain⟨O',d',k',r1,r2⟩:=ActR.hq hWv hQ hok'
  exact(endS _ a' z hd e ⟨O',d',k',r1,hBv.trans r2⟩ a').1
 have cq: ∀(z:World),C z->∀{n:Nat} {T':Tm} {z2:World},HQ B z z2 gh O n T'->HQ B v z2 gh O n T':=fun z hz {n T' z2} hQ=>HQ.pre (hCi z hz) hQ
 have lKv:Lds Tryz.prog 3 (.pointer (some ⟨g3,0,none⟩)) (.int .i64 k) v:=lK v hv
 refine wp_block ?_
 by_cases k6:k=6/\0<n2
 ·have eS:actS σ k a b c={σ with T:=putT σ.T (σ.X[n2-1]?.getD .nil) (datS σ.X b)}:=by unfold actS;rw[if_neg hmk,<-hn2,if_pos k6]
  refine wp_seq (rg_wp (zc_r9_t (n5:=n2) (b64:=true) h8 rfl rfl lKv (decide_eq_true k6.1) (decide_eq_true (by omega)) fun a9 h9=>wp_cond_true (h9.look 58 rfl) ?_))
  obtain⟨x,hxx⟩:=nx 2 (by omega)
  rw[<-hn2] at hxx
  have hn2l:n2<=σ.X.length:=by rw[hn2];have:=numS_le σ.Ks a 2;omega
  obtain⟨q,hq1,hq2⟩:=el hxx
  rw[hxx] at eS
  refine wpl (rg_wp (zc_r10 (C:=C) (n5:=n2) (x:=x.dt) (mx:=dm0) (y:=(datS σ.X b).dt) (my:=dm0) (C0:=C) (C1:=fun _ z=>HQ B v z gh O σ.last (putT σ.T x (datS σ.X b))) h9 rfl rfl rfl hCd ch (cX hq1) (by omega) (fun w=>by rw[show((n2:Int)-1)=((n2-1:Nat):Int) by omega];exact ix_row (by omega) w) hq2 cB (dt _ hCd hb) (fun z hz=>hz) (fun z hz=> ?_) fun a10 z er z2 hz hz2 h10=> ?_))
  ·refine(hPut_any (hx.old (hCi z hz)) (hownv.old (hCi z hz)) (h.ok.ok x (List.mem_of_getElem? hxx)) (hdok b)).mono ?_
   rintro e w' ⟨⟨er,r1⟩,r2⟩
   exact⟨er,r1,cq z hz r2⟩
  ·exact block_norm (cp _ a10 z2 h10.defers eS hz2)
 have s9: ∀Qn:Exit->Act->World->Prop,(∀a9,Sl 183 a9 [(3,.pointer (some ⟨g3,0,none⟩)),(0,.pointer (some ⟨wp,0,none⟩)),(5,.int .i64 (n2:Int)),(6,.int .i64 (n3:Int)),(7,.int .i64 (n4:Int)),(8,.int .i64 (n1:Int)),(58,.bool false)]->Qn .normal a9 v)->(r_zc 9).wp Tryz.prog Qn a8 v:=fun Qn hQn=>by
  by_cases hk:k=6
  ·exact wpl (rg_wp (zc_r9_t (n5:=n2) (b64:=false) h8 rfl rfl lKv (decide_eq_true hk) (decide_eq_false fun e=>k6 ⟨hk,by omega⟩) fun a9 h9=>hQn a9 (h9.to ⟨rfl,rfl,rfl,rfl,rfl,rfl,rfl,trivial⟩)))
  ·exact wpl (rg_wp (zc_r9_f h8 rfl lKv (decide_eq_false hk) fun a9 h9=>hQn a9 (h9.to ⟨rfl,rfl,rfl,rfl,rfl,rfl,rfl,trivial⟩)))
 refine wp_seq (s9 _ fun a9 h9=>wp_cond_false (h9.look 58 rfl) ?_)
 by_cases k7:k=7/\0<n3
 ·have eS:actS σ k a b c={σ with T:=layT σ.T (σ.X[n3-1]?.getD .nil) (datS σ.X c) (datS σ.X b)}:=by unfold actS;rw[if_neg hmk,<-hn2,if_neg k6,<-hn3,if_pos k7]
  refine wp_seq (rg_wp (zc_r11_t (n6:=n3) (b89:=true) h9 rfl rfl lKv (decide_eq_true k7.1) (decide_eq_true (by omega)) fun a10 h10=>wp_cond_true (h10.look 83 rfl) ?_))
  obtain⟨x,hxx⟩:=nx 3 (by omega)
  rw[<-hn3] at hxx
  have hn3l:n3<=σ.X.length:=by rw[hn3];have:=numS_le σ.Ks a 3;omega
  obtain⟨q,hq1,hq2⟩:=el hxx
  rw[hxx] at eS
  refine wpl (rg_wp (zc_r12 (C:=C) (n6:=n3) (x:=x.dt) (mx:=dm0) (y:=(datS σ.X c).dt) (my:=dm0) (z:=(datS σ.X b).dt) (mz:=dm0) (C0:=C) (C1:=C) (C2:=fun _ z=>HQ B v z gh O σ.last (layT σ.T x (datS σ.X c) (datS σ.X b))) h10 rfl rfl rfl hCd ch (cX hq1) (by omega) (fun w=>by rw[show((n3:Int)-1)=((n3-1:Nat):Int) by omega];exact ix_row (by omega) w) hq2 cC cB (dt _ hCd hc) (fun z hz=>hz) (fun z hz=>dt z hz hb) (fun z hz z2 hz2=>hz2) (fun z hz z2 hz2=> ?_) fun a11 z z2 er z3 hz hz2 hz3 h11=> ?_))
  ·refine(hLay_any (hx.old (hCi z2 hz2)) hB0 (hownv.old (hCi z2 hz2)) (fun o E ho=>by have:=hE o E ho;omega) (h.ok.ok x (List.mem_of_getElem? hxx)) (hdok c) (hdok b)).mono ?_
   rintro e w' ⟨⟨er,r1⟩,r2⟩
   exact⟨er,r1,cq z2 hz2 r2⟩
  ·exact block_norm (cp _ a11 z3 h11.defers eS hz3)
 have s11: ∀Qn:Exit->Act->World->Prop,(∀a9,Sl 183 a9 [(3,.pointer (some ⟨g3,0,none⟩)),(0,.pointer (some ⟨wp,0,none⟩)),(7,.int .i64 (n4:Int)),(8,.int .i64 (n1:Int)),(83,.bool false)]->Qn .normal a9 v)->(r_zc 11).wp Tryz.prog Qn a9 v:=fun Qn hQn=>by
  by_cases hk:k=7
  ·exact wpl (rg_wp (zc_r11_t (n6:=n3) (b89:=false) h9 rfl rfl lKv (decide_eq_true hk) (decide_eq_false fun e=>k7 ⟨hk,by omega⟩) fun a9 h9=>hQn a9 (h9.to ⟨rfl,rfl,rfl,rfl,rfl,trivial⟩)))
  ·exact wpl (rg_wp (zc_r11_f h9 rfl lKv (decide_eq_false hk) fun a9 h9=>hQn a9 (h9.to ⟨rfl,rfl,rfl,rfl,rfl,trivial⟩)))
 refine wp_seq (s11 _ fun a10 h10=>wp_cond_false (h10.look 83 rfl) ?_)
 by_cases k8:k=8/\0<n4
 ·have eS:actS σ k a b c={σ with T:=setTn σ.T n4 (datS σ.X b)}:=by unfold actS;rw[if_neg hmk,<-hn2,if_neg k6,<-hn3,if_neg k7,<-hn4,if_pos k8]
  refine wp_seq (rg_wp (zc_r13_t (n7:=n4) (b118:=true) h10 rfl rfl lKv (decide_eq_true k8.1) (decide_eq_true (by omega)) fun a11 h11=>wp_cond_true (h11.look 112 rfl) ?_))
  have hn4l:n4<=80:=by rw[hn4];exact nl 4
  refine wpl (rg_wp (zc_r14 (C:=C) (n7:=n4) (y:=(datS σ.X b).dt) (my:=dm0) (C0:=C) (C1:=fun _ z=>HQ B v z gh O σ.last (setTn σ.T n4 (datS σ.X b))) h11 rfl rfl rfl hCd ch cB (dt _ hCd hb) (fun z hz=>hz) (fun z hz=> ?_) fun a12 z er z2 hz hz2 h12=> ?_))
  ·refine(hSet_any (hx.old (hCi z hz)) (hownv.old (hCi z hz)) (by omega) (hdok b)).mono ?_
   rintro e w' ⟨⟨er,r1⟩,r2⟩
   exact⟨.bool er,r1,cq z hz r2⟩
  ·exact block_norm (cp _ a12 z2 h12.defers eS hz2)
 have s13: ∀Qn:Exit->Act->World->Prop,(∀a9,Sl 183 a9 [(3,.pointer (some ⟨g3,0,none⟩)),(0,.pointer (some ⟨wp,0,none⟩)),(8,.int .i64 (n1:Int)),(112,.bool false)]->Qn .normal a9 v)->(r_zc 13).wp Tryz.prog Qn a10 v:=fun Qn hQn=>by
  by_cases hk:k=8
  ·exact wpl (rg_wp (zc_r13_t (n7:=n4) (b118:=false) h10 rfl rfl lKv (decide_eq_true hk) (decide_eq_false fun e=>k8 ⟨hk,by omega⟩) fun a9 h9=>hQn a9 (h9.to ⟨rfl,rfl,rfl,rfl,trivial⟩)))
  ·exact wpl (rg_wp (zc_r13_f h10 rfl lKv (decide_eq_false hk) fun a9 h9=>hQn a9 (h9.to ⟨rfl,rfl,rfl,rfl,trivial⟩)))
 refine wp_seq (s13 _ fun a11 h11=>wp_cond_false (h11.look 112 rfl) ?_)
 by_cases k9:k=9/\0<n1
 ·have eS:actS σ k a b c={σ with T:=writeT σ.T (σ.X[n1-1]?.getD .nil) (datS σ.X b) (datS σ.X c)}:=by unfold actS;rw[if_neg hmk,<-hn2,if_neg k6,<-hn3,if_neg k7,<-hn4,if_neg k8,<-hn1,if_pos k9]
  refine wp_seq (rg_wp (zc_r15_t (n8:=n1) (b136:=true) h11 rfl rfl lKv (decide_eq_true k9.1) (decide_eq_true (by omega)) fun a12 h12=>wp_cond_true (h12.look 130 rfl) ?_))
  obtain⟨x,hxx⟩:=nx 1 (by omega)
  rw[<-hn1] at hxx
  have hn1l:n1<=σ.X.length:=by rw[hn1];have:=numS_le σ.Ks a 1;omega
  obtain⟨q,hq1,hq2⟩:=el hxx
  rw[hxx] at eS
  refine wpl (rg_wp (zc_r16 (C:=C) (n8:=n1) (x:=x.dt) (mx:=dm0) (y:=pr (datS σ.X b) (datS σ.X c)) (C0:=fun p z=>(∃g,p=⟨none,0,some ⟨g,0,none⟩,2⟩/\RowX z (fun b=>b<z.heap.size) (some ⟨g,0,none⟩) [datS σ.X b,datS σ.X c])/\C z) (C1:=fun _ z=>HQ B v z gh O σ.last (writeT σ.T x (datS σ.X b) (datS σ.X c))) h12 rfl rfl rfl hCd ch (cX hq1) (by omega) (fun w=>by rw[show((n1:Int)-1)=((n1-1:Nat):Int) by omega];exact ix_row (by omega) w) hq2 cB cC ((lawPair_any (hWv.old (hCi _ hCd)) hb hc).mono ?_) (fun p z hz=>hz.2) (fun p z hz=> ?_) fun a13 p z er z2 hz hz2 h13=> ?_))
  ·rintro e w' ⟨p,r1,⟨g,r2,_,r3⟩,r4⟩
   exact⟨p,r1,⟨g,r2,r3⟩,hCo _ (bl_trans (hCi _ hCd) r4)⟩
  ·obtain⟨⟨g,rfl,hr⟩,hz⟩:=hz
   refine(hWrite_any (hx.old (hCi z hz)) (hownv.old (hCi z hz)) (h.ok.ok x (List.mem_of_getElem? hxx)) (hdok b) (hdok c) hr (Nat.le_refl _) (capOk.some (by omega))).mono ?_
   rintro e w' ⟨⟨er,r1⟩,r2⟩
   exact⟨er,r1,cq z hz r2⟩
  ·exact block_norm (cp _ a13 z2 h13.defers eS hz2)
 have s15: ∀Qn:Exit->Act->World->Prop,(∀a9,Sl 183 a9 [(3,.pointer (some ⟨g3,0,none⟩)),(0,.pointer (some ⟨wp,0,none⟩)),(130,.bool false)]->Qn .normal a9 v)->(r_zc 15).wp Tryz.prog Qn a11 v:=fun Qn hQn=>by
  by_cases hk:k=9
  ·exact wpl (rg_wp (zc_r15_t (n8:=n1) (b136:=false) h11 rfl rfl lKv (decide_eq_true hk) (decide_eq_false fun e=>k9 ⟨hk,by omega⟩) fun a9 h9=>hQn a9 (h9.to ⟨rfl,rfl,rfl,trivial⟩)))
  ·exact wpl (rg_wp (zc_r15_f h11 rfl lKv (decide_eq_false hk) fun a9 h9=>hQn a9 (h9.to ⟨rfl,rfl,rfl,trivial⟩)))
 refine wp_seq (s15 _ fun a12 h12=>wp_cond_false (h12.look 130 rfl) ?_)
 by_cases k10:k=10/\0<σ.X.length
 ·have eS:actS σ k a b c={σ with T:=tdel σ.T (1+pickN a σ.X.length)}:=by unfold actS;rw[if_neg hmk,<-hn2,if_neg k6,<-hn3,if_neg k7,<-hn4,if_neg k8,<-hn1,if_neg k9,if_pos k10]
  have hp:pickN a σ.X.length<σ.X.length:=pick_lt k10.2
  refine wp_seq (rg_wp (zc_r17_t (dd:=sd.d) (dn:=sd.n) (dc:=sd.c) (b167:=true) h12 rfl rfl lKv (decide_eq_true k10.1) hWv.ld (decide_eq_true (by rw[hsn];omega)) fun a13 h13=>wp_cond_true (h13.look 157 rfl) ?_))
  refine wpl (rg_wp (zc_r18 (C:=C) (p:=pickN a σ.X.length) (dd:=sd.d) (dn:=sd.n) (dc:=sd.c) (C0:=C) (C1:=fun _ z=>HQ B v z gh O σ.last (tdel σ.T (1+pickN a σ.X.length))) h13 rfl rfl hCd ch cA (cX rfl) (by
   rw[hsn]
   exact(lawPick_any ha k10.2 _).mono fun e w' hh=>⟨hh.1,by rw[hh.2];exact hCd⟩) (fun z hz=>hz) (by omega) (fun z hz=> ?_) fun a14 z er z2 hz hz2 h14=> ?_))
  ·have:=hFreeS (hx.old (hCi z hz)) (n:=1+pickN a σ.X.length) (by omega)
   rw[show((1+pickN a σ.X.length:Nat):Int)=(1:Int)+(pickN a σ.X.length:Int) by omega] at this
   refine this.mono ?_
   rintro e w' ⟨r1,r2⟩
   exact⟨_,r1,cq z hz r2⟩
  ·exact block_norm (cp _ a14 z2 h14.defers eS hz2)
 have eS:actS σ k a b c=σ:=by unfold actS;rw[if_neg hmk,<-hn2,if_neg k6,<-hn3,if_neg k7,<-hn4,if_neg k8,<-hn1,if_neg k9,if_neg k10]
 have s17: ∀Qn:Exit->Act->World->Prop,(∀a9,Sl 183 a9 [(157,.bool false)]->Qn .normal a9 v)->(r_zc 17).wp Tryz.prog Qn a12 v:=fun Qn hQn=>by
  by_cases hk:k=10
  ·exact wpl (rg_wp (zc_r17_t (dd:=sd.d) (dn:=sd.n) (dc:=sd.c) (b167:=false) h12 rfl rfl lKv (decide_eq_true hk) hWv.ld (decide_eq_false fun e=>k10 ⟨hk,by rw[hsn] at e;omega⟩) fun a9 h9=>hQn a9 (h9.to ⟨rfl,trivial⟩)))
  ·exact wpl (rg_wp (zc_r17_f h12 rfl lKv (decide_eq_false hk) fun a9 h9=>hQn a9 (h9.to ⟨rfl,trivial⟩)))
 refine wp_seq (s17 _ fun a13 h13=>wpc_off (h13.look 157 rfl) (block_norm ?_))
 exact(endS _ a13 v h13.defers eS ⟨O,sd,sk,hWv,hBv⟩ a13).1
end
end Go.Proofs.YtbjegfpfmnleeaaGreatDoor
