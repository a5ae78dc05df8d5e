/-
   Written by an AI agent.
-/
import Derived.Test.YtlhfickniegooaaDoorPk12
import Derived.Test.YtlhfickniegooaaDoorPk14
import Derived.Test.YtlhfickniegooaaDoorPk13
import Derived.Shelf.Abstract
namespace Go.Proofs.YtlhfickniegooaaDoor
open Go.RowKit Go.Sort
set_option maxRecDepth 100000
def KCopyC(h:Hd)(k:Fo):Prop:= ∀(w:World) (S:Nat->Prop) (m:Dm),Dt.at ⟨h,k⟩ w S m->
 Calls Tryd.prog 23 #[.agg (Dt.cs ⟨h,k⟩ m)] w fun e w'=> ∃m':Dm,e=.returned (.agg (Dt.cs ⟨h,k⟩ m'))/\(Dt.sep ⟨h,k⟩ w' w.heap.size w'.heap.size m'/\Below w.heap.size w w')
theorem datBytes:(Tryd.prog.info? 31).map (fun i=>decide (i.bytes<=200))=some true:=by kernel_rfl
theorem make_dat(n:Nat)(hn:n<=1034834473170)(w:World): ∃w',(Instr.makeSlice 29 (.int .i64 (n:Int)) (.int .i64 (n:Int))).run Tryd.prog w=.ok (.slice (some ⟨w.heap.size,0,none⟩) n n) w'/\(∃cur,Blk w' w.heap.size 31 cur/\cur.size=n*11)/\Below w.heap.size w w':=by
 obtain⟨i,hi,hz⟩:=Option.map_eq_some_iff.1 info_dat
 obtain⟨i',hi',hby⟩:=Option.map_eq_some_iff.1 datBytes
 rw[hi] at hi'
 injection hi' with hi'
 subst hi'
 injection hz with hz0 hz
 injection hz with hz1 hz2
 have hb:i.bytes<=200:=by simpa using hby
 obtain⟨w',h1,h2,h3⟩:=run_make_full (P:=Tryd.prog) w w.heap.size 29 31 i _ 11 Tryd.underlying29 hi hz0 hz1 .i64 .i64 n (by
  have:i.bytes*n<=200*n:=Nat.mul_le_mul_right _ hb
  omega) (by unfold maxLen;omega) (Nat.le_refl _)
 exact⟨w',h1,own_full h2,below_of_grown h3⟩
def RowsU(w:World)(k:Fo)(b j:Nat):Prop:= ∀i a d,i<j->k.get i=some (a,d)->∃x:Dm,CellsAt w b (i*11) (a.cells x.pa x.pc x.ia d.len x.ic)/\RowsD w (fun c=>b<c) a d x
theorem RowsU.step{w w6:World}{k:Fo}{b j:Nat}{a:Hd}{d:Fo}{x:Dm}{cu:Array Value}{t:TypeId}(gH:RowsU w k b j)(hlt:b<w.heap.size)(hb6:Below w.heap.size w w6)(hget:k.get j=some (a,d))(hB:Blk w6 b t cu)(hsz:j*11+11<=cu.size)(hd:RowsD w6 (fun c=>b<c) a d x):
  RowsU (w6.setCells b (j*11) (a.cells x.pa x.pc x.ia d.len x.ic).toList) k b (j+1):=by
 intro i c e hi hg
 have hlen:(a.cells x.pa x.pc x.ia d.len x.ic).toList.length=11:=by simp[Hd.cells]
 by_cases hij:i=j
 ·subst hij
  rw[hget] at hg
  injection hg with hg
  injection hg with e1 e2
  subst e1 e2
  exact⟨x,fun n v hv=>World.rangeAt_setCells_same w6 b (i*11) _ (there_blk hB (by rw[hlen];exact hsz)) n v (by simpa using hv),hd.keep (fun y h1 _=>setCells_other _ _ _ (Nat.ne_of_gt h1)) (fun _ h _=>h)⟩
 ·obtain⟨y,h1,h2⟩:=gH i c e (by omega) hg
  refine⟨y,fun n v hv=> ?_,h2.keep (fun z z1 z2=>(setCells_other _ _ _ (Nat.ne_of_gt z1)).trans (hb6.block z z2)) (fun _ h _=>h)⟩
  have hn:n<11:=by
   have:n<(c.cells y.pa y.pc y.ia e.len y.ic).size:=(Array.getElem?_eq_some_iff.1 hv).1
   simpa[Hd.cells] using this
  rw[World.cell?_setCells_out b _ (j*11) w6 ⟨b,i*11+n,none⟩ (fun _ _=>by rw[hlen];show i*11+n<j*11\/j*11+11<=i*11+n;omega)]
  exact(hb6.cell (p:=⟨b,i*11+n,none⟩) hlt).trans (h1 n v hv)
theorem own_prow{w:World}{B:Nat}{v:Value}{l:List Int}(h:w.ownsRow B 3 1 v l.length (l.map (Value.int .i64)))(h0:l.length=0->v=.slice none 0 0){pa:Option Addr}{pc:Nat}(e:v=.slice pa l.length pc):PRow w (fun b=>B<=b) pa l.length pc:=by
 rcases h.2 with⟨h1,h2⟩ | ⟨g,cap,cur,h1,hg,hh,hc,hm,hs,ht⟩
 ·rw[h1] at e
  injection e with q1 q2 q3
  exact .inl ⟨q1.symm,q3.symm,q2.symm⟩
 ·rw[h1] at e
  injection e with q1 q2 q3
  subst q1 q3
  rcases Nat.eq_zero_or_pos l.length with hl | hl
  ·rw[h1] at h0
   cases h0 hl
  ·exact .inr ⟨hl,hc,hm,g,cur,rfl,hg,hh,by rw[hs,Nat.mul_one]⟩
set_option maxHeartbeats 2000000 in
theorem kcopied_one(h:Hd)(k:Fo)(ho:h.ok)(hkl:k.len<=1034834473170)(ih: ∀i a b,k.get i=some (a,b)->KCopyC a b):KCopyC h k:=by
 intro w S m hd
 obtain⟨pa,pc,ia,ic⟩:=m
 refine calls_ev (vs:=[.agg (Dt.cs ⟨h,k⟩ ⟨pa,pc,ia,ic⟩)]) 40 Tryd.func23 kc_body (by kernel_rfl) (by simp) fun a0 h0=> ?_
 unfold kcBody
 refine wp_seq (rg_wp (kc_r0 h0 rfl fun a1 h1=> ?_))
 have hA1:=(Blk.new w 31 (Dt.cs ⟨h,k⟩ ⟨pa,pc,ia,ic⟩)).alloc (.cells zeroC 31)
 have hZ1:=Blk.new1 w (.cells (Dt.cs ⟨h,k⟩ ⟨pa,pc,ia,ic⟩) 31) 31 zeroC
 have hb1:=bl_alloc (bl_alloc (Below.refl w.heap.size w) (.cells (Dt.cs ⟨h,k⟩ ⟨pa,pc,ia,ic⟩) 31)) (.cells zeroC 31)
 have hs1:(w.alloc (.cells (Dt.cs ⟨h,k⟩ ⟨pa,pc,ia,ic⟩) 31)).heap.size=w.heap.size+1:=by simp
 rw[hs1] at h1
 have hsz:((w.alloc (.cells (Dt.cs ⟨h,k⟩ ⟨pa,pc,ia,ic⟩) 31)).alloc (.cells zeroC 31)).heap.size=w.heap.size+2:=by simp
 show Code.wp _ _ _ a1 ((w.alloc (.cells (Dt.cs ⟨h,k⟩ ⟨pa,pc,ia,ic⟩) 31)).alloc (.cells zeroC 31))
 generalize (w.alloc (.cells (Dt.cs ⟨h,k⟩ ⟨pa,pc,ia,ic⟩) 31)).alloc (.cells zeroC 31)=w1 at hA1 hZ1 hb1 hsz ⊢
 have kids: ∀Q:Exit->Act->World->Prop,(∀a2 w2 l2 ja jc,Sl 40 a2 l2->AllL l2 [(1,.pointer (some ⟨w.heap.size,0,none⟩)),(2,.pointer (some ⟨w.heap.size+1,0,none⟩))]->Blk w2 w.heap.size 31 (Dt.cs ⟨h,k⟩ ⟨pa,pc,ja,jc⟩)->Blk w2 (w.heap.size+1) 31 zeroC->
   SlAt w2 (fun b=>w.heap.size+1<b) ja k->KidS w2 (w.heap.size+2) w2.heap.size ja k->k.len<=jc->capOk ja jc->KidR w2 (fun b=>w.heap.size+2<=b) ja k jc->Below w.heap.size w w2->Q .normal a2 w2)->
   (Code.seq (r_kc 1) (.cond (.tmp 8) (.seq (r_kc 2) (.seq (.seq (r_kc 3) (.block 0 (.loop kcL0))) (r_kc 8))) .skip)).wp Tryd.prog Q a1 w1:=fun Q hQ=>by
  cases ia with
  | none=>
   have hk0:k.len=0:=by
    rcases hd.kids with e | ⟨b,o,e,_⟩
    ·exact e
    ·cases e
   refine wp_seq (rg_wp (kc_r1 h1 rfl (one_load hA1 Tryd.underlying29 rfl rfl) (fun w=>run_neq_slice_nil w 29 31 none k.len ic Tryd.underlying29) fun a2 h2=>wpc_off (h2.look 8 rfl) ?_))
   exact hQ a2 w1 _ none ic h2 ⟨rfl,rfl,trivial⟩ hA1 hZ1 (.inl hk0) (.inl hk0) hd.icLe hd.icMax ⟨⟨(hd.icMax.2 rfl).trans hk0.symm,.inl hk0⟩,.inl hk0⟩ hb1
  | some ad=>
   refine wp_seq (rg_wp (kc_r1 h1 rfl (one_load hA1 Tryd.underlying29 rfl rfl) (fun w=>run_neq_slice_nil w 29 31 (some ad) k.len ic Tryd.underlying29) fun a2 h2=>wp_cond_true (h2.look 8 rfl) ?_))
   obtain⟨w2,hmk,⟨cur,hcur,hcz⟩,hb2⟩:=make_dat k.len hkl w1
   refine wp_seq (rg_wp (kc_r2 h2 rfl (one_load hA1 Tryd.underlying29 rfl rfl) hmk fun a3 h3=> ?_))
   have hA2:=hA1.below hb2 hA1.lt
   have hZ2:=hZ1.below hb2 hZ1.lt
   have hb02:=bl_trans hb1 hb2
   have z2:=hb2.size
   have hg3:w1.heap.size<w2.heap.size:=hcur.lt
   refine wp_seq (wp_seq (rg_wp (kc_r3 h3 rfl (one_load hA2 Tryd.underlying29 rfl rfl) fun a4 h4=> ?_)))
   refine wp_block ?_
   refine wp_loop (fun a' wr=> ∃j:Nat,j<=k.len/\Sl 40 a' [(16,.int .i64 (j:Int)),(15,.int .i64 (k.len:Int)),(14,.slice (some ad) k.len ic),(3,.slice (some ⟨w1.heap.size,0,none⟩) k.len k.len),(1,.pointer (some ⟨w.heap.size,0,none⟩)),(2,.pointer (some ⟨w.heap.size+1,0,none⟩))]/\
     Blk wr w.heap.size 31 (Dt.cs ⟨h,k⟩ ⟨pa,pc,some ad,ic⟩)/\Blk wr (w.heap.size+1) 31 zeroC/\(∃cu,Blk wr w1.heap.size 31 cu/\cu.size=k.len*11)/\Upto wr k w1.heap.size j/\HalfS wr k w1.heap.size j/\RowsU wr k w1.heap.size j/\Below w.heap.size w wr) (fun a' _=>muTo k.len (slot a' 16))
    ⟨0,by omega,h4.to ⟨rfl,rfl,rfl,rfl,rfl,rfl,trivial⟩,hA2,hZ2,⟨cur,hcur,hcz⟩,fun i a b hi=>absurd hi (by omega),⟨fun _=>w1.heap.size+1,rfl,fun i _=>⟨by show w1.heap.size<w1.heap.size+1;omega,by show w1.heap.size+1<=w2.heap.size;omega⟩,fun i a b hi=>absurd hi (by omega)⟩,fun i a b hi=>absurd hi (by omega),hb02⟩ ?_
   rintro a5 w5 ⟨j,hj,h5,hA5,hZ5,⟨cu,hcu,hcuz⟩,hU5,hH5,hR5,hb5⟩
   rw[h5.look 16 rfl,muTo_int]
   unfold kcL0
   by_cases hlt:j<k.len
   ·refine wp_seq (rg_wp (kc_r4 h5 rfl rfl (decide_eq_true (by omega)) fun a6 h6=> ?_))
    refine wp_seq (wpn (h6.look 17 rfl) ?_)
    obtain⟨x,y,hxy⟩:=Fo.get_lt k j hlt
    have hd5:=hd.old hb5
    obtain⟨b,o,had,hbS,qa,qc,ja,jc,hcs,hda⟩:=hd5.kids.get hxy
    have had':(⟨b,o,none⟩:Addr)=ad:=by injection had with e;exact e.symm
    subst had'
    have hz:=Blk.new w5 31 zeroC
    have hblt:b<w5.heap.size:=cell_lt (hcs 0 _ rfl)
    refine wp_seq (wp_block ?_)
    refine wp_seq (rg_wp (kc_r5 (d20:=⟨x,y⟩) (m20:=⟨qa,qc,ja,jc⟩) h6 rfl rfl (fun w=>ix_at2 j Tryd.underlying29 datInf hlt w) (ldsA (cs:=(Dt.cs ⟨x,y⟩ ⟨qa,qc,ja,jc⟩).toList) Tryd.underlying31 rfl datInf (fun n v hv=>hcs n v (by rw[Array.getElem?_toList] at hv;exact hv))) (dat_store hz (by decide)) fun a7 h7=> ?_))
    have hB7:=over_dat hz rfl ⟨x,y⟩ ⟨qa,qc,ja,jc⟩
    have hb7:=below_setCells (Dt.cs ⟨x,y⟩ ⟨qa,qc,ja,jc⟩).toList 0 _ (bl_alloc (Below.refl w5.heap.size w5) (.cells zeroC 31)) (Nat.le_refl _)
    show Code.wp _ _ _ a7 (World.setCells (w5.alloc (.cells zeroC 31)) w5.heap.size 0 (Dt.cs ⟨x,y⟩ ⟨qa,qc,ja,jc⟩).toList)
    generalize World.setCells (w5.alloc (.cells zeroC 31)) w5.heap.size 0 (Dt.cs ⟨x,y⟩ ⟨qa,qc,ja,jc⟩).toList=w7 at hB7 hb7 ⊢
    have hda7:Dt.at ⟨x,y⟩ w7 S ⟨qa,qc,ja,jc⟩:=Dt.at.old (d:=⟨x,y⟩) (m:=⟨qa,qc,ja,jc⟩) hda hb7
    have hcu7:=hcu.below hb7 hcu.lt
    refine wpl (rg_wp (kc_r6 h7 rfl rfl rfl (dat_whole hB7) (ih j x y hxy w7 S ⟨qa,qc,ja,jc⟩ hda7) (fun w=>ix_at (o:=j*11) (sz:=11) j rfl Tryd.underlying29 datInf hlt rfl w)
     (fun m8 w8 h8=>dat_store (hcu7.below h8.2 hcu7.lt) (by rw[hcuz];omega)) fun a8 m8 w8 hx8 h8=>block_norm ?_))
    obtain⟨hda8,hb8⟩:=hx8
    show Code.wp _ (r_kc 7) _ a8 _
    have hb58:=bl_trans hb7 hb8
    have hcu8:=hcu7.below hb8 hcu7.lt
    have hlt5:w1.heap.size<w5.heap.size:=hcu.lt
    have hU8:=upto_step (qa:=m8.pa) (qc:=m8.pc) (ja:=m8.ia) (jc:=m8.ic) hU5 hlt5 hb58 hxy hcu8 (by rw[hcuz];omega) (hda8.dat.keep (fun _ _ _=>rfl) (fun c hc _=>Nat.le_trans hb7.size hc.1))
    have hH8:=HalfS.step (qa:=m8.pa) (qc:=m8.pc) (ja:=m8.ia) (jc:=m8.ic) hH5 hlt5 hb58 hxy hcu8 (by rw[hcuz];omega) (hda8.sp.mono hb7.size (Nat.le_refl _))
    have hR8:=RowsU.step (x:=m8) hR5 hlt5 hb58 hxy hcu8 (by rw[hcuz];omega) (hda8.rows.keep (fun _ _ _=>rfl) (fun c hc _=>by have:=hb7.size;have:=hc.1;omega))
    have z5:=hA5.lt
    have z5':=hZ5.lt
    have hne1:w.heap.size≠w1.heap.size:=by omega
    have hne2:w.heap.size+1≠w1.heap.size:=by omega
    have hA8:=Blk.farL (b:=w1.heap.size) hne1 (Dt.cs ⟨x,y⟩ m8).toList (j*11) _ ((hA5.below hb58 z5))
    have hZ8:=Blk.farL (b:=w1.heap.size) hne2 (Dt.cs ⟨x,y⟩ m8).toList (j*11) _ ((hZ5.below hb58 z5'))
    have hcu9: ∃cu,Blk (w8.setCells w1.heap.size (j*11) (Dt.cs ⟨x,y⟩ m8).toList) w1.heap.size 31 cu/\cu.size=k.len*11:=⟨_,Blk.setL _ _ _ _ hcu8,by rw[foldSet_size,hcuz]⟩
    have hb9:Below w.heap.size w (w8.setCells w1.heap.size (j*11) (Dt.cs ⟨x,y⟩ m8).toList):=below_setCells _ _ _ (bl_trans hb5 hb58) (by omega)
    refine wpl (rg_wp (kc_r7 h8 rfl (by omega) fun a9 h9=>⟨⟨j+1,by omega,h9.to ⟨rfl,rfl,rfl,rfl,rfl,rfl,trivial⟩,hA8,hZ8,hcu9,hU8,hH8,hR8,hb9⟩, ?_⟩))
    rw[h9.look 16 rfl]
    show muTo k.len (.int .i64 ((j+1:Nat):Int))<_
    rw[muTo_int]
    omega
   ·have hje:j=k.len:=by omega
    subst hje
    refine wp_seq (rg_wp (kc_r4 h5 rfl rfl (decide_eq_false (by omega)) fun a6 h6=> ?_))
    refine wp_seq (wpc_exit (h6.look 17 rfl) ?_)
    refine then_exit' (then_exit' (in_block2 ?_))
    show Code.wp _ (r_kc 8) _ a6 w5
    refine wpl (rg_wp (kc_r8 h6 rfl rfl (one_store hA5 (by kernel_rfl) (by rw[Dt.cs_size];omega) rfl) fun a7 h7=> ?_))
    have hA6:=hA5.set_ 10 (.slice (some ⟨w1.heap.size,0,none⟩) k.len k.len)
    have z5:=hcu.lt
    have hne: ∀b,w.heap.size+1<b->b≠w.heap.size:=fun b hb=>by omega
    have hfo:FoAt w5 (fun b=>w.heap.size+1<b) w1.heap.size 0 k:=FoAt.of_get k _ _ fun i a b hg=>by
     obtain⟨qa,qc,ja,jc,q1,q2⟩:=hU5 i a b (Fo.get_len _ _ _ hg) hg
     exact⟨qa,qc,ja,jc,by rw[Nat.zero_add];exact q1,q2.keep (fun _ _ _=>rfl) (fun c hc _=>by omega)⟩
    have hsl:SlAt w5 (fun b=>w.heap.size+1<b) (some ⟨w1.heap.size,0,none⟩) k:=.inr ⟨_,_,rfl,by omega,hfo⟩
    have hks:KidS w5 (w.heap.size+2) w5.heap.size (some ⟨w1.heap.size,0,none⟩) k:=by
     obtain⟨ms,e0,e1,e2⟩:=hH5
     refine .inr ⟨w1.heap.size,0,rfl,by omega,z5,⟨_,_,hcu⟩, ?_⟩
     rw[<-e0]
     exact SepF.of_get k _ 0 _ ms fun i a d hg=>by
      have hi:=Fo.get_len _ _ _ hg
      obtain⟨pa,pc,ia,ic,f1,f2⟩:=e2 i a d hi hg
      exact⟨(e1 (i+1) (by omega)).2,pa,pc,ia,ic,by rw[Nat.zero_add];exact f1,f2⟩
    have hrf:RowsF w5 (fun c=>w1.heap.size<c) w1.heap.size 0 k:=RowsF.of_get k _ 0 fun i a d hg=>by
     obtain⟨x,f1,f2⟩:=hR5 i a d (Fo.get_len _ _ _ hg) hg
     exact⟨x,by rw[Nat.zero_add];exact f1,f2⟩
    have hkr:KidR w5 (fun b=>w.heap.size+2<=b) (some ⟨w1.heap.size,0,none⟩) k k.len:=by
     refine⟨⟨rfl,.inr ⟨by unfold maxLen;omega,w1.heap.size,cu,rfl,by omega,hcu,hcuz⟩⟩,.inr ⟨w1.heap.size,rfl,by omega, ?_⟩⟩
     exact RowsF.keep (fun _ _ _=>rfl) (fun b hb _=>by omega) k _ 0 (fun _ _ _ h=>h) hrf
    refine hQ a7 _ _ (some ⟨w1.heap.size,0,none⟩) k.len h7 ⟨rfl,rfl,trivial⟩ hA6 (hZ5.far (p:=⟨w.heap.size,10,none⟩) (by show _≠w.heap.size;omega) _) ?_ ?_ (Nat.le_refl _) (capOk.some (by omega)) (hkr.keep (fun b hb _=>setCells_other [_] 10 w5 (by omega)) (fun _ h _=>h)) (below_setCells [_] 10 _ hb5 (Nat.le_refl _))
    ·exact hsl.keep (fun b hb _=>setCells_other [_] 10 w5 (hne b hb)) (fun _ h _=>h)
    ·rw[show(w5.setCells w.heap.size 10 [.slice (some ⟨w1.heap.size,0,none⟩) k.len k.len]).heap.size=w5.heap.size from setCells_size' _ _ _ _]
     exact hks.keep (fun x hx _ _=>setCells_other [_] 10 w5 (by omega))
 refine wp_seq (kids _ fun a2 w2 l2 ja jc h2 hl2 hA2 hZ2 hk2 hs2 hjc1 hjc2 hkr2 hb2=> ?_)
 clear kids
 have h2:=h2.to hl2
 have done: ∀(a3:Act) (w3:World) (l3:List (Nat×Value)) (qa:Option Addr) (qc:Nat),Sl 40 a3 l3->AllL l3 [(1,.pointer (some ⟨w.heap.size,0,none⟩)),(2,.pointer (some ⟨w.heap.size+1,0,none⟩))]->Blk w3 w.heap.size 31 (Dt.cs ⟨h,k⟩ ⟨qa,qc,ja,jc⟩)->Blk w3 (w.heap.size+1) 31 zeroC->
   PathAt w3 (fun b=>w2.heap.size<=b/\Cel w3 b) qa h.path->KidS w3 (w.heap.size+2) w2.heap.size ja k->w2.heap.size<=w3.heap.size->h.path.length<=qc->capOk qa qc->PRow w3 (fun b=>w2.heap.size<=b) qa h.path.length qc->KidR w3 (fun b=>w.heap.size+2<=b) ja k jc->SlAt w3 (fun b=>w.heap.size+1<b) ja k->Below w.heap.size w w3->
   (Code.seq (r_kc 11) .ret).wp Tryd.prog (bodyPost Tryd.prog Tryd.f23 fun e w'=> ∃m':Dm,e=.returned (.agg (Dt.cs ⟨h,k⟩ m'))/\(Dt.sep ⟨h,k⟩ w' w.heap.size w'.heap.size m'/\Below w.heap.size w w')) a3 w3:=fun a3 w3 l3 qa qc h3 hl3 hA3 hZ3 hp hks hsz3 hpc hpm hpr hkr hk hb3=>by
  refine wp_seq (rg_wp (kc_r11 (d39:=⟨h,k⟩) (m39:=⟨qa,qc,ja,jc⟩) (h3.to hl3) rfl rfl (dat_whole hA3) (dat_store hZ3 (by decide)) fun a4 h4=>wp_ret ?_))
  have hB:=over_dat hZ3 rfl ⟨h,k⟩ ⟨qa,qc,ja,jc⟩
  have hne: ∀b,w.heap.size+1<b->b≠w.heap.size+1:=fun b hb=>by omega
  have z2:=hZ2.lt
  have hs4:(w3.setCells (w.heap.size+1) 0 (Dt.cs ⟨h,k⟩ ⟨qa,qc,ja,jc⟩).toList).heap.size=w3.heap.size:=setCells_size' _ _ _ _
  have hsep:Dt.sep ⟨h,k⟩ w3 (w.heap.size+2) w3.heap.size ⟨qa,qc,ja,jc⟩:=sep_mk ⟨hp.wider (fun b hb=>by have:=hb.1;show w.heap.size+2<=b;omega),hpc,hpm,hk.keep (fun _ _ _=>rfl) (fun b hb _=>by show w.heap.size+2<=b;omega),hjc1,hjc2⟩ hks hp ⟨hpr.keep (fun _ _ _=>rfl) (fun b hb _=>by show w.heap.size+2<=b;omega),hkr⟩ (by omega) hsz3
  refine ret_c rfl h4 rfl (dat_whole hB) ⟨⟨qa,qc,ja,jc⟩,rfl, ?_,below_setCells _ _ _ hb3 (by omega)⟩
  exact(hsep.keep (fun x hx _ _=>setCells_other _ 0 w3 (by omega))).mono (by omega) (Nat.le_of_eq hs4.symm)
 cases pa with
 | none=>
  have hp0:h.path=[]:=by
   rcases hd.path with e | ⟨b,o,e,_⟩
   ·exact e
   ·cases e
  refine wp_seq (wp_seq (rg_wp (kc_r9 h2 rfl (one_load hA2 Tryd.underlying22 rfl rfl) (fun w=>run_neq_slice_nil w 22 3 none h.path.length pc Tryd.underlying22) fun a3 h3=>wpc_off (h3.look 32 rfl) ?_)))
  exact done a3 w2 _ none pc h3 ⟨rfl,rfl,trivial⟩ hA2 hZ2 (.inl hp0) hs2 (Nat.le_refl _) hd.pcLe hd.pcMax (.inl ⟨rfl,hd.pcMax.2 rfl,by rw[hp0];rfl⟩) hkr2 hk2 hb2
 | some ad=>
  refine wp_seq (wp_seq (rg_wp (kc_r9 h2 rfl (one_load hA2 Tryd.underlying22 rfl rfl) (fun w=>run_neq_slice_nil w 22 3 (some ad) h.path.length pc Tryd.underlying22) fun a3 h3=>wp_cond_true (h3.look 32 rfl) ?_)))
  obtain⟨i0,hi,hz0,hz1,hz2⟩:=info_parts info_int
  have hp1:=path_news ((hd.old hb2).path)
  have happ: ∀ty,∃(v:S3) (w':World),(Builtin.append_ #[22,22] ty #[.slice none 0 0,.slice (some ad) h.path.length pc]).run Tryd.prog w2=.ok v.v w'/\(v.n=h.path.length/\PathAt w' (fun b=>w2.heap.size<=b/\Cel w' b) v.d h.path/\h.path.length<=v.c/\(capOk v.d v.c/\PRow w' (fun b=>w2.heap.size<=b) v.d h.path.length v.c)/\Below w2.heap.size w2 w'):=fun ty=>by
   have hpl:=ho.path
   obtain⟨v',w',hr,hown,hg,hnl⟩:=run_append_own (P:=Tryd.prog) (w:=w2) w2.heap.size 22 ty 3 i0 _ 1 8 Tryd.underlying22 hi hz0 hz1 hz2 rfl (by omega) (.slice none 0 0) 0 [] ⟨rfl,.inl ⟨rfl,rfl⟩⟩ ad h.path.length pc (h.path.map (Value.int .i64)) (by simp) hp1 (fun u hu=>by
    obtain⟨c,_,rfl⟩:=List.mem_map.1 hu
    rfl) (by unfold maxLen;omega) (by omega) (Nat.le_refl _)
   obtain⟨qa,qc,hv,h1,h2,h3⟩:=own_pathB (by simpa using hown)
   have hpr:=own_prow (l:=h.path) (by simpa using hown) (fun e=>hnl.2 ⟨rfl,e⟩) hv
   subst hv
   exact⟨⟨qa,h.path.length,qc⟩,w',hr,rfl,h1,h2,⟨h3,hpr⟩,below_of_grown hg⟩
  refine wpl (rg_wp (kc_r10 h3 rfl (one_load hA2 Tryd.underlying22 rfl rfl) happ (fun x w' hx=>one_store (hA2.below hx.2.2.2.2 hA2.lt) (by kernel_rfl) (by rw[Dt.cs_size];omega) rfl) fun a4 x w4 hx h4=> ?_))
  obtain⟨hxn,hxp,hxc,hxm,hb4⟩:=hx
  have hA4:=(hA2.below hb4 hA2.lt).set_ (5+4) (.slice x.d x.n x.c)
  rw[hxn] at hA4 ⊢
  have z2:=hZ2.lt
  have hne: ∀b,w2.heap.size<=b->b≠w.heap.size:=fun b hb=>by omega
  have hne2: ∀b,w.heap.size+1<b->b≠w.heap.size:=fun b hb=>by omega
  exact done a4 _ _ x.d x.c h4 ⟨rfl,rfl,trivial⟩ hA4 ((hZ2.below hb4 hZ2.lt).far (p:=⟨w.heap.size,5+4,none⟩) (by show _≠w.heap.size;omega) _)
   (hxp.keep (fun b hb _=>setCells_other [_] (5+4) w4 (hne b hb.1)) (fun b hb _=>⟨hb.1,hb.2.keep (setCells_other [_] (5+4) w4 (hne b hb.1))⟩)) (hs2.keep (fun b hb _ hlt=>(setCells_other [_] (5+4) w4 (by omega)).trans (hb4.block b hlt))) (by have q1:=setCells_size' w.heap.size [.slice x.d h.path.length x.c] (5+4) w4;have q2:=hb4.size;omega) hxc hxm.1 (hxm.2.keep (fun b hb _=>setCells_other [_] (5+4) w4 (hne b hb)) (fun _ h _=>h)) (hkr2.keep (fun b hb hlt=>(setCells_other [_] (5+4) w4 (by omega)).trans (hb4.block b hlt)) (fun _ h _=>h))
   (hk2.keep (fun b hb hlt=>(setCells_other [_] (5+4) w4 (hne2 b hb)).trans (hb4.block b hlt)) (fun _ h _=>h)) (below_setCells [_] (5+4) _ (bl_trans hb2 hb4) (Nat.le_refl _))
theorem kcopied_all: ∀(f:Fo),f.ok->∀i a b,f.get i=some (a,b)->KCopyC a b
 | .nil,_,i,a,b,e=>by cases e
 | .cons h k r,o,0,a,b,e=>by
  simp only[Fo.get,Option.some.injEq,Prod.mk.injEq] at e
  obtain⟨rfl,rfl⟩:=e
  exact kcopied_one h k o.1 o.2.2.2 (kcopied_all k o.2.1)
 | .cons h k r,o,i+1,a,b,e=>kcopied_all r o.2.2.1 i a b e
theorem kcopied_sep{d:Dt}(ho:d.ok){w:World}{S:Nat->Prop}{m:Dm}(hd:d.at w S m):
  Calls Tryd.prog 23 #[.agg (d.cs m)] w fun e w'=> ∃m':Dm,e=.returned (.agg (d.cs m'))/\(d.sep w' w.heap.size w'.heap.size m'/\Below w.heap.size w w'):=
 kcopied_one d.h d.k ho.h ho.len (kcopied_all d.k ho.k) w S m hd
theorem kcopied_any{d:Dt}(ho:d.ok){w:World}{S:Nat->Prop}{m:Dm}(hd:d.at w S m):
  Calls Tryd.prog 23 #[.agg (d.cs m)] w fun e w'=> ∃m':Dm,e=.returned (.agg (d.cs m'))/\(d.at w' (fun b=>w.heap.size<=b) m'/\Below w.heap.size w w'):=
 (kcopied_sep ho hd).mono fun _ _ ⟨m',h1,h2,h3⟩=>⟨m',h1,h2.dat.keep (fun _ _ _=>rfl) (fun _ hb _=>hb.1),h3⟩
end Go.Proofs.YtlhfickniegooaaDoor

namespace Go.Proofs.YtlhfickniegooaaDoor
open Go.RowKit
set_option maxRecDepth 100000
structure Moved (O:Nat->Prop) (w w':World):Prop where
 size:w.heap.size<=w'.heap.size
 os:w'.os=w.os
 tape:w'.tape=w.tape
 output:w'.output=w.output
 block: ∀b,b<w.heap.size->¬O b->w'.heap[b]? =w.heap[b]?
theorem Moved.of_below{O:Nat->Prop}{w w':World}(h:Below w.heap.size w w'):Moved O w w':=⟨h.size,h.os,h.tape,h.output,fun b hb _=>h.block b hb⟩
theorem Moved.trans{O:Nat->Prop}{a b c:World}(h:Moved O a b)(k:Moved (fun x=>O x\/a.heap.size<=x) b c):Moved O a c:=
 ⟨Nat.le_trans h.size k.size,k.os.trans h.os,k.tape.trans h.tape,k.output.trans h.output,fun x hx ho=>(k.block x (Nat.lt_of_lt_of_le hx h.size) (fun e=>e.elim ho (by omega))).trans (h.block x hx ho)⟩
theorem Moved.more{O O':Nat->Prop}{a b:World}(h:Moved O a b)(ho: ∀x,O x->O' x):Moved O' a b:=⟨h.size,h.os,h.tape,h.output,fun x hx hn=>h.block x hx (fun e=>hn (ho x e))⟩
theorem Moved.ext{O:Nat->Prop}{B:Nat}{a b c:World}(h:Moved O a b)(e:Ext B b c)(hB:a.heap.size<=B):Moved O a c:=
 ⟨Nat.le_trans h.size e.size,e.os.trans h.os,e.tape.trans h.tape,e.output.trans h.output,fun x hx ho=>(e.low x (by omega)).trans (h.block x hx ho)⟩
theorem Moved.set{O:Nat->Prop}{a b:World}(h:Moved O a b){g:Nat}(hg:O g\/a.heap.size<=g)(o:Nat)(vs:List Value):Moved O a (b.setCells g o vs):=
 ⟨by rw[setCells_size'];exact h.size,((setCells_keep g vs o b).1).trans h.os,((setCells_keep g vs o b).2.1).trans h.tape,((setCells_keep g vs o b).2.2).trans h.output,fun x hx ho=>(setCells_other vs o b (fun e=>by subst e;exact hg.elim ho (by omega))).trans (h.block x hx ho)⟩
theorem Moved.two{O:Nat->Prop}{a b c:World}{g g':Nat}(h:Moved O a b)(t:Two b c g g')(hg:O g\/a.heap.size<=g)(hg':O g'\/a.heap.size<=g'):Moved O a c:=
 ⟨by rw[t.size];exact h.size,t.os.trans h.os,t.tape.trans h.tape,t.output.trans h.output,fun x hx ho=>(t.block x (fun e=>by subst e;exact hg.elim ho (by omega)) (fun e=>by subst e;exact hg'.elim ho (by omega))).trans (h.block x hx ho)⟩
theorem Moved.below{O:Nat->Prop}{n:Nat}{w0 a b:World}(h:Moved O a b)(hb:Below n w0 a)(ho: ∀x,x<n->¬O x)(hn:n<=a.heap.size):Below n w0 b:=
 ⟨h.os.trans hb.os,h.tape.trans hb.tape,h.output.trans hb.output,Nat.le_trans hb.size h.size,fun x hx=>(h.block x (by omega) (ho x hx)).trans (hb.block x hx)⟩
theorem ptrAll:(Tryd.prog.info? 72).map (fun i=>(i.zero,i.size,decide (i.bytes<=200)))=some (some (.pointer none),1,true):=by kernel_rfl
theorem make_ptr(n:Nat)(hn:n<=1099511627776)(w:World): ∃w',(Instr.makeSlice 74 (.int .i64 (n:Int)) (.int .i64 (n:Int))).run Tryd.prog w=.ok (.slice (some ⟨w.heap.size,0,none⟩) n n) w'/\(∃cur,Blk w' w.heap.size 72 cur/\cur.size=n/\∀i,i<n->cur[i]? =some (.pointer none))/\Below w.heap.size w w':=by
 obtain⟨i,hi,hz⟩:=Option.map_eq_some_iff.1 ptrAll
 injection hz with hz0 hz
 injection hz with hz1 hz2
 have hb:i.bytes<=200:=by simpa using hz2
 obtain⟨w',h1,h2,h3⟩:=run_make_full (P:=Tryd.prog) w w.heap.size 74 72 i _ 1 Tryd.underlying74 hi hz0 hz1 .i64 .i64 n (by
  have:i.bytes*n<=200*n:=Nat.mul_le_mul_right _ hb
  omega) (by unfold maxLen;omega) (Nat.le_refl _)
 refine⟨w',h1, ?_,below_of_grown h3⟩
 rcases h2.2 with⟨e,_⟩ | ⟨g,cap,cur,e,hB,hh,hc,hm,hs,ht⟩
 ·cases e
 ·injection e with e1 _ e3
  injection e1 with e1
  injection e1 with e1
  subst e1 e3
  refine⟨cur,hh,by simpa using hs,fun i hi=> ?_⟩
  have h4:(madeCells (Value.pointer none).cells (n*1)).toList[i]? =some (.pointer none):=by
   rw[Array.getElem?_toList]
   simp[madeCells,Value.cells,Array.getElem?_map,hi]
   rw[Nat.mod_one]
   rfl
  rw[<-ht,List.getElem?_take_of_lt (by omega),Array.getElem?_toList] at h4
  exact h4
section
variable {w w':World} {m hb n:Nat} {fr tx:Option Addr} {many:Int} {H N B A:Nat->Option Addr} {R:List En} {D:Nat->Prop}
theorem Raw.ext{n0:Nat}(h:Raw w m hb n fr tx many H N B A R D)(e:Ext n0 w w'):Raw w' m hb n fr tx many H N B A R D where
 map:=let⟨cs,h1,h2⟩:=h.map;⟨cs,h1.ext e,h2⟩
 heads:=let⟨t,hs,h1,h2⟩:=h.heads;⟨t,hs,h1.ext e,h2⟩
 ent:=fun x hx=>let⟨ma,mb,h1,h2,h3⟩:=h.ent x hx;⟨ma,mb,h1.ext e,h2.ext e,h3.ext e⟩
 nd:=h.nd
 far:=h.far
 out:=h.out
 ok:=h.ok
 dlt:=fun b hd=>Nat.lt_of_lt_of_le (h.dlt b hd) e.size
theorem Raw.rehead(h:Raw w m hb n fr tx many H N B A R D){hb' n':Nat}{t:TypeId}{hs:Array Value}(hB:Blk w hb' t hs)(hz:hs.size=n')(hn: ∀i,i<n'->hs[i]? =some (.pointer none))(hm:hb'≠m)(he: ∀e∈R,e.g≠hb')(hD: ¬D hb'):
  Raw (w.setCells m 8 [.slice (some ⟨hb',0,none⟩) n' n']) m hb' n' fr tx many (fun _=>none) N B A R D where
 map:=by
  obtain⟨cs,h1,h2,h3,h4,h5,h6⟩:=h.map
  exact⟨_,h1.set_ 8 _,by simpa using h2,by rw[Array.getElem?_setIfInBounds_self_of_lt (by omega)],by rw[Array.getElem?_setIfInBounds_ne (by omega),h4],by rw[Array.getElem?_setIfInBounds_ne (by omega),h5],by rw[Array.getElem?_setIfInBounds_ne (by omega),h6]⟩
 heads:=⟨t,hs,hB.far (p:=⟨m,8,none⟩) hm _,by omega,hn,fun e=>absurd e hm⟩
 ent:=fun x hx=>by
  obtain⟨mk,mv,h1,h2,h3⟩:=h.ent x hx
  exact⟨mk,mv,h1.far (p:=⟨m,8,none⟩) (h.far x hx).1 _,dat_far _ 8 h2 h.out.1,dat_far _ 8 h3 h.out.1⟩
 nd:=h.nd
 far:=fun e he'=>⟨(h.far e he').1,he e he'⟩
 out:=⟨h.out.1,hD,h.out.2.2⟩
 ok:=h.ok
 dlt:=fun b hd=>by rw[setCells_size'];exact h.dlt b hd
theorem Raw.clr(h:Raw w m hb n fr tx many H N B A R D)(hne:hb≠m)(v:Value):Raw (w.setCells m 0 (List.replicate 8 v)) m hb n fr tx many H N B A R D where
 map:=by
  obtain⟨cs,h1,h2,h3,h4,h5,h6⟩:=h.map
  refine⟨_,Blk.setL (List.replicate 8 v) 0 _ _ h1,by rw[foldSet_size,h2], ?_⟩
  simp only[List.replicate,List.foldl_cons,List.foldl_nil]
  refine⟨?_, ?_, ?_, ?_⟩
  all_goals repeat rw[Array.getElem?_setIfInBounds_ne (by omega)]
  all_goals assumption
 heads:=by
  obtain⟨t,hs,h1,h2,h3,h4⟩:=h.heads
  exact⟨t,hs,Blk.farL hne _ _ _ h1,h2,h3,h4⟩
 ent:=fun x hx=>by
  obtain⟨mk,mv,h1,h2,h3⟩:=h.ent x hx
  exact⟨mk,mv,Blk.farL (h.far x hx).1 _ _ _ h1,dat_far _ 0 h2 h.out.1,dat_far _ 0 h3 h.out.1⟩
 nd:=h.nd
 far:=h.far
 out:=h.out
 ok:=h.ok
 dlt:=fun b hd=>by rw[setCells_size'];exact h.dlt b hd
end
theorem Sl.yield1{n:Nat}{a:Act}{l:List (Nat×Value)}{df:List Deferred}(h:Sl n a l df)(p:Nat)(hp:p<n)(v:Value):Sl n {tmps:=(#[p].zip #[v]).foldl (fun t (q:Nat×Value)=>t.setIfInBounds q.1 q.2) a.tmps,defers:=[]} ((p,v)::dropL [p] l):=by
 have e:(#[p].zip #[v]).foldl (fun t (q:Nat×Value)=>t.setIfInBounds q.1 q.2) a.tmps=a.tmps.setIfInBounds p v:=by simp
 rw[e]
 refine⟨by simpa using h.size,rfl,fun q hq=> ?_⟩
 have hs:=h.size
 rcases List.mem_cons.1 hq with rfl | hq
 ·simp[slot,hs,hp]
 ·unfold dropL at hq
  obtain⟨h1,h2⟩:=List.mem_filter.1 hq
  have hne:q.1≠p:=by simpa using h2
  have:=h.known q h1
  unfold slot at this ⊢
  simp only[Array.getD_eq_getD_getElem?] at this ⊢
  rw[Array.getElem?_setIfInBounds_ne (Ne.symm hne)]
  exact this
theorem pO_rev(R:List En):pO R.reverse.head? =pO R.getLast? :=by rw[List.head?_reverse]
def NOk(n:Nat)(R:List En)(N:Nat->Option Addr):Prop:= ∀X e Z,R=X++e::Z->N e.g=pO (Z.find? (bkB n e.hash))
theorem NOk.push{n:Nat}{R:List En}{N H:Nat->Option Addr}{e:En}(h:NOk n R N)(hH:HeadsOk n R H)(hn:0<n)(hne: ∀x∈R,x.g≠e.g):NOk n (e::R) (upd N e.g (H (e.hash.toNat % n))):=by
 intro X x Z hX
 cases X with
 | nil=>
  injection hX with h1 h2
  subst h1 h2
  rw[upd_same,hH _ (Nat.mod_lt _ hn)]
  rfl
 | cons y X=>
  injection hX with h1 h2
  have hx:x∈R:=by rw[h2];simp
  rw[upd_ne (hne x hx)]
  exact h X x Z h2
theorem HeadsOk.push{n:Nat}{R:List En}{H:Nat->Option Addr}{e:En}(hH:HeadsOk n R H):HeadsOk n (e::R) (upd H (e.hash.toNat % n) (some e.p)):=by
 intro i hi
 by_cases h:i=e.hash.toNat % n
 ·subst h
  rw[upd_same,List.find?_cons_of_pos (by simp)]
  rfl
 ·rw[upd_ne h,List.find?_cons_of_neg (by simpa using fun e'=>h e'.symm)]
  exact hH i hi
set_option maxHeartbeats 2000000 in
theorem kgrow_any{w:World}{m hb n:Nat}{H N B A:Nat->Option Addr}{R:List En}{D:Nat->Prop}(hR:Raw w m hb n (pO R.getLast?) (pO R.head?) (R.length:Int) H N B A R D)(hA: ∀X e Z,R=X++e::Z->A e.g=pO X.getLast?)(hn0:0<n)(hn1:n<=549755813888):
  Calls Tryd.prog 24 #[.pointer (some ⟨m,0,none⟩)] w fun r w'=>r=.returned (.tuple #[])/\∃hb' H' N',Raw w' m hb' (2*n) (pO R.getLast?) (pO R.head?) (R.length:Int) H' N' B A R D/\HeadsOk (2*n) R H'/\NOk (2*n) R N'/\w.heap.size<=hb'/\Moved (fun b=>b=m\/∃e∈R,b=e.g) w w':=by
 refine calls_evM (vs:=[.pointer (some ⟨m,0,none⟩)]) 23 Tryd.func24 kr_body (by kernel_rfl) (by simp) fun a0 h0=> ?_
 unfold krBody
 refine wp_seq (rg_wp (kr_r0 h0 rfl fun a1 h1=> ?_))
 have hB1:=Blk.new w 24 #[.pointer (some ⟨m,0,none⟩)]
 have hb1:=bl_alloc (Below.refl w.heap.size w) (.cells #[.pointer (some ⟨m,0,none⟩)] 24)
 generalize w.alloc (.cells #[.pointer (some ⟨m,0,none⟩)] 24)=w1 at hB1 hb1 ⊢
 have hR1:=hR.old hb1
 have hml:=hR.mlt
 obtain⟨cs,hBm,hz,c8,_⟩:=hR1.map
 obtain⟨w2,hmk,⟨cur,hcur,hcz,hcn⟩,hb2⟩:=make_ptr (2*n) (by omega) (w1.drewN 1)
 have hb12:Below w1.heap.size w1 w2:=bl_trans (below_drewN (Below.refl _ _) 1) hb2
 have e2:((2:Int)*(n:Int))=((2*n:Nat):Int):=by omega
 have hBm2:=hBm.below hb12 hBm.lt
 refine wp_seq (rg_wp (kr_r1 (C:=fun u=>Lds Tryd.prog 24 (.pointer (some ⟨w.heap.size,0,none⟩)) (.pointer (some ⟨m,0,none⟩)) u/\Lds Tryd.prog 74 (.pointer (some ⟨m,8,none⟩)) (.slice (some ⟨hb,0,none⟩) n n) u)
  h1 rfl (fun u hu=>hu.1) (fun u hu=>hu.2) (by omega) ⟨one_load (hB1.drewN 1) Tryd.underlying24 rfl rfl,one_load (hBm.drewN 1) Tryd.underlying74 rfl c8⟩ (by rw[e2];exact hmk)
  ⟨one_load (hB1.below hb12 hB1.lt) Tryd.underlying24 rfl rfl,one_load hBm2 Tryd.underlying74 rfl c8⟩ (one_store hBm2 (by kernel_rfl) (by omega) rfl) fun a2 h2=> ?_))
 show Code.wp _ _ _ a2 (w2.setCells m 8 [.slice (some ⟨w1.heap.size,0,none⟩) (2*n) (2*n)])
 have hcur':Blk w2 w1.heap.size 72 cur:=hcur
 have hR2:=hR1.old hb12
 have z1:=hB1.lt
 have hR3:=hR2.rehead hcur' hcz hcn (by omega) (fun e he=>by have:=hR.elt he;omega) (fun hd=>by have:=hR.dlt _ hd;omega)
 have hb02:=bl_trans hb1 hb12
 have hMv3:Moved (fun b=>b=m\/∃e∈R,b=e.g) w (w2.setCells m 8 [.slice (some ⟨w1.heap.size,0,none⟩) (2*n) (2*n)]):=(Moved.of_below hb02).set (.inl (.inl rfl)) _ _
 have hB3:=(hB1.below hb12 hB1.lt).far (p:=⟨m,8,none⟩) (by show w.heap.size≠m;omega) (.slice (some ⟨w1.heap.size,0,none⟩) (2*n) (2*n))
 change Blk (w2.setCells m 8 [.slice (some ⟨w1.heap.size,0,none⟩) (2*n) (2*n)]) _ _ _ at hB3
 have hz3:w1.heap.size<(w2.setCells m 8 [.slice (some ⟨w1.heap.size,0,none⟩) (2*n) (2*n)]).heap.size:=by rw[setCells_size'];exact hcur.lt
 generalize w2.setCells m 8 [.slice (some ⟨w1.heap.size,0,none⟩) (2*n) (2*n)]=w3 at hR3 hMv3 hB3 hz3 ⊢
 obtain⟨hbn,hhbn⟩: ∃x,x=w1.heap.size:=⟨_,rfl⟩
 rw[<-hhbn] at hR3 hz3
 have hml':m<w.heap.size:=hml
 have hsl: ∀w',(Instr.sliceAt 73 (.pointer (some ⟨m,0,none⟩)) none none none).run Tryd.prog w'=.ok (.slice (some ⟨m,0,none⟩) 8 8) w':=fun w'=>by kernel_rfl
 obtain⟨cs3,hBm3,hz3',_⟩:=hR3.map
 have hzv: ∀w,(zeroValue 72).run Tryd.prog w=.ok (.pointer none) w:=fun w=>by kernel_rfl
 refine wp_seq (rg_wp (kr_r2 h2 rfl (one_load hB3 Tryd.underlying24 rfl rfl) hsl (fun ty=>⟨_,Lib.run_clear_slice w3 74 72 ty (.pointer none) Tryd.underlying74 hzv rfl rfl m 0 8 8 (by omega)
  (fun j hj=>by rw[hBm3.cell,Nat.zero_add,Array.getElem?_eq_getElem (by omega)];rfl) (fun j _=>hBm3.frozen _)⟩) fun a3 h3=> ?_))
 have hR4:=hR3.clr (by omega) (.pointer none)
 have hMv4:=hMv3.set (.inl (.inl rfl)) 0 (List.replicate 8 (.pointer none))
 have hB4:=Blk.farL (b:=m) (by omega:w.heap.size≠m) (List.replicate 8 (.pointer none)) 0 _ hB3
 have hz4:hbn<(w3.setCells m 0 (List.replicate 8 (.pointer none))).heap.size:=by rw[setCells_size'];exact hz3
 generalize w3.setCells m 0 (List.replicate 8 (.pointer none))=w4 at hR4 hMv4 hB4 hz4 ⊢
 refine wp_seq (rg_wp (kr_r3 (C0:=fun x u=>x=.func (.func 53) #[] #[.pointer (some ⟨w4.heap.size,0,none⟩)]/\Blk u w4.heap.size 24 #[.pointer (some ⟨m,0,none⟩)]/\Below w4.heap.size w4 u) h3 rfl (one_load hB4 Tryd.underlying24 rfl rfl) ((keach_any w4 m).mono fun e w' hh=>⟨_,hh.1,rfl,hh.2⟩) fun a4 x5 w5 hx h4=> ?_))
 obtain⟨rfl,hB5,hb5⟩:=hx
 have hR5:=hR4.old hb5
 have hMv5:Moved (fun b=>b=m\/∃e∈R,b=e.g) w w5:=hMv4.trans (Moved.of_below hb5)
 have hB5':=hB4.below hb5 hB4.lt
 have z5:=hb5.size
 have hrev: ∀X e Z,R.reverse=X++e::Z->R=Z.reverse++e::X.reverse:=fun X e Z h=>by
  have:=congrArg List.reverse h
  simpa using this
 refine wp_block ?_
 refine range_y (g:=.tmp 18) (ps:=#[19]) (gf:=53) (lb:=#[.pointer (some ⟨w4.heap.size,0,none⟩)]) (h4.look 18 rfl) (Go.Proofs.enters_of Tryd.func53 (by kernel_rfl) rfl)
  (each_seq R.reverse (by rw[List.map_reverse];exact(List.reverse_perm _).nodup_iff.2 hR.nd) w4.heap.size m w5) (Below.refl _ _) (fun _=>rfl)
  (fun pre W=> ∃H' N',Raw W m hbn (2*n) (pO R.getLast?) (pO R.head?) (R.length:Int) H' N' B A R D/\HeadsOk (2*n) pre.reverse H'/\NOk (2*n) pre.reverse N'/\(∀x∈pre,x∈R)/\Blk W w.heap.size 24 #[.pointer (some ⟨m,0,none⟩)]/\Blk W w4.heap.size 24 #[.pointer (some ⟨m,0,none⟩)]/\Moved (fun b=>b=m\/∃e∈R,b=e.g) w W)
  (fun _ _ _=>False) ?hI (fun _ _ _ _ h _=>h) ?hM (fun _ _ _ _ h _=>h) ?h0 (fun e a' _=>Sl 23 a' [(2,.pointer (some ⟨e.g,0,none⟩)),(1,.pointer (some ⟨w.heap.size,0,none⟩))]) (fun _ _ _ _ h _=>h) ?ha ?hb ?hd (fun _ _ _ h=>h.elim) (fun _ _ _ h _=>h)
 case hI=>
  rintro pre W W' ⟨H',N',q1,q2,q3,q3',q4,q5,q6⟩ e
  exact⟨H',N',q1.ext e,q2,q3,q3',q4.ext e,q5.ext e,q6.ext e (Nat.le_trans hMv5.size (Nat.le_refl _))⟩
 case hM=>
  rintro pre W ⟨H',N',q1,q2,q3,q3',q4,q5,q6⟩
  refine⟨by rw[q5.cell];rfl, ?_,fun X e Z hX=> ?_⟩
  ·obtain⟨cs,r1,_,_,r4,_⟩:=q1.map
   rw[r1.cell,r4,pO_rev]
  ·have hR':=hrev X e Z hX
   obtain⟨mk,mv,r1,_⟩:=q1.ent e (by rw[hR'];simp)
   rw[r1.cell]
   show some (Value.pointer (A e.g))=_
   rw[hA _ _ _ hR',List.getLast?_reverse]
 case h0=>
  exact⟨_,N,hR5,fun i _=>rfl,(by intro X e Z h;cases X<;>cases h),(fun _ h=>by cases h),hB5',hB5,hMv5⟩
 case ha=>
  rintro l pre x W K hi hy hK
  refine rg_in (kr_r4 (h4.yield1 19 (by omega) _) rfl fun a5 h5=>hK a5 W (KeepsFrom.refl _ _) hi hy (h5.to ⟨rfl,rfl,trivial⟩)) (by kernel_rfl) (fun⟨_,_,h⟩=>h)
 case hb=>
  rintro l pre x a5 W ⟨H',N',q1,q2,q3,q3',q4,q5,q6⟩ ⟨Z,hZ⟩ h5
  refine wpIn_block (wplI (kr_r5 h5 rfl rfl (one_load q4 Tryd.underlying24 rfl rfl) (kchain_any q1 (by omega) (by omega) (e:=x) (by have:=hrev _ _ _ hZ;rw[this];simp)) fun a6 W' hx h6=> ?_) (by kernel_rfl) (block_outs postY_out))
  obtain⟨r1,r2⟩:=hx
  have hxR:x∈R:=by have:=hrev _ _ _ hZ;rw[this];simp
  have hml:m<w.heap.size:=hml'
  have hne: ∀y∈pre,y.g≠x.g:=fun y hy e=>by
   have hnd:=hR.nd
   have h2:=hrev _ _ _ hZ
   rw[h2,List.map_append,List.map_cons] at hnd
   have:=(List.nodup_cons.1 (List.nodup_append.1 hnd).2.1).1
   exact this (List.mem_map.2 ⟨y,by simpa using hy,e⟩)
  have hxl:=hR.elt hxR
  refine block_norm ⟨?_,_,_,r1, ?_, ?_, ?_, ?_, ?_, ?_⟩
  ·refine⟨by rw[r2.size];exact Nat.le_refl _,fun k o _ hk ho=> ?_⟩
   obtain⟨_,hs',g1,_⟩:=q1.heads
   obtain⟨_,_,g2,_⟩:=q1.ent x hxR
   exact(r2.block k (fun e=>by subst e;rw[g2] at hk;injection hk with hk;subst hk;cases ho) (fun e=>by subst e;rw[g1] at hk;injection hk with hk;subst hk;cases ho)).trans hk
  ·rw[List.reverse_append]
   exact q2.push
  ·rw[List.reverse_append]
   exact q3.push q2 (by omega) (fun y hy=>hne y (by simpa using hy))
  ·intro y hy
   rcases List.mem_append.1 hy with h | h
   ·exact q3' y h
   ·rw[List.mem_singleton.1 h];exact hxR
  ·exact(r2.block _ (by omega) (by omega)).trans q4
  ·exact(r2.block _ (by omega) (by omega)).trans q5
  ·exact q6.two r2 (.inl (.inr ⟨x,hxR,rfl⟩)) (.inr (by omega))
 case hd=>
  rintro xs W rfl ⟨H',N',q1,q2,q3,_,_,_,q6⟩ hD
  refine block_norm ?_
  show LeavesInM _ _ _ _ _ _ ({target:=.collected w5.heap.size,args:=#[]}::a4.defers) .returning W
  rw[h4.defers]
  refine leaves_ok (ds:=[w5.heap.size]) w5.heap.size W (by simp) (fun D hD'=>by rw[List.mem_singleton.1 hD'];exact⟨Nat.le_refl _,hD⟩) fun W' hx=>⟨_,results_none rfl _ _ _,rfl,hbn,H',N',q1.ext hx, ?_, ?_,by omega,q6.ext hx hMv5.size⟩
  ·rw[List.reverse_reverse] at q2;exact q2
  ·rw[List.reverse_reverse] at q3;exact q3
end Go.Proofs.YtlhfickniegooaaDoor
