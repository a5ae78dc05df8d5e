/-
   Written by an AI agent.
-/
import Derived.Test.YtlhfickniegooaaDoorPk30
namespace Go.Proofs.YtlhfickniegooaaDoor
open Go.RowKit Go.Sort
set_option maxRecDepth 100000
def dcs(h:Hd)(pl il:Nat)(m:Dm):Array Value:=#[.int .i64 h.kind,.string h.type,.int .i64 h.n,.int .u64 h.f,.string h.s,.int .i64 h.obj,.int .i64 h.frm,.int .i64 h.len,.int .i64 h.cap,.slice m.pa pl m.pc,.slice m.ia il m.ic]
def FoN:Nat->Fo
 | 0=>.nil
 | n+1=>.cons ⟨0,⟨#[]⟩,0,0,⟨#[]⟩,0,0,0,0,[]⟩ .nil (FoN n)
theorem FoN_len: ∀n,(FoN n).len=n
 | 0=>rfl
 | n+1=>by show(FoN n).len+1=n+1;rw[FoN_len n]
def GrW(h:Hd)(pl il:Nat):Dt:=⟨{h with path:=List.replicate pl 0},FoN il⟩
theorem GrW_pl(h:Hd)(pl il:Nat):(GrW h pl il).h.path.length=pl:=List.length_replicate ..
theorem GrW_il(h:Hd)(pl il:Nat):(GrW h pl il).k.len=il:=FoN_len il
theorem GrW_cs(h:Hd)(pl il:Nat)(m:Dm):(GrW h pl il).cs m=dcs h pl il m:=by
 unfold Dt.cs Hd.cells
 rw[GrW_pl,GrW_il]
 rfl
theorem own_ne9{w:World}{v v':Value}{n n':Nat}{xs ys:List Value}(h:w.ownsRow 0 dtT 11 v n xs)(h':w.ownsRow 0 3 1 v' n' ys){g g':Nat}(hg:v.ownBlock=some g)(hg':v'.ownBlock=some g'):g≠g':=by
 rintro rfl
 rcases h.2 with⟨e,_⟩ | ⟨g1,c1,r1,e,_,h1,_⟩
 ·rw[e] at hg
  cases hg
 ·rcases h'.2 with⟨e',_⟩ | ⟨g2,c2,r2,e',_,h2,_⟩
  ·rw[e'] at hg'
   cases hg'
  ·rw[e] at hg
   rw[e'] at hg'
   injection hg with hg
   injection hg' with hg'
   have hg:g1=g:=hg
   have hg':g2=g:=hg'
   rw[hg] at h1
   rw[hg',h1] at h2
   injection h2 with h2
   injection h2 with _ h2
   exact absurd h2 (by decide)
def markC(n:Nat):Array Value:=#[.int .i64 (-7),.string (⟨#[]⟩),.int .i64 (n:Int),.int .u64 0,.string (⟨#[]⟩),.int .i64 0,.int .i64 0,.int .i64 0,.int .i64 0,.slice none 0 0,.slice none 0 0]
theorem mark_one(n:Nat): ∀u∈(markC n).toList,u.oneCell'=true:=fun u hu=>List.all_eq_true.1 (show(markC n).toList.all (·.oneCell')=true by kernel_rfl) u hu
def GI(w:World)(m:Dm)(n il:Nat)(Y:Nat->Prop):Prop:= ∃xs:List Value,IOwn w ⟨m.ia,il,m.ic⟩ il xs/\xs.length=il*11/\(∀i,i<il->xs[i*11]? =some (.int .i64 (-7))/\xs[i*11+2]? =some (.int .i64 (n:Int)))/\∀g,0<il->(S3.v ⟨m.ia,il,m.ic⟩).ownBlock=some g->Y g
def GP(w:World)(m:Dm)(n pl:Nat)(Y:Nat->Prop):Prop:= ∃xs:List Value,POwn w ⟨m.pa,pl,m.pc⟩ pl xs/\xs.length=pl/\(∀i,i<pl->xs[i]? =some (.int .i64 ((-7:Int)-(n:Int))))/\∀g,(S3.v ⟨m.pa,pl,m.pc⟩).ownBlock=some g->Y g
theorem GI.push{w:World}{m:Dm}{n il:Nat}{Y:Nat->Prop}(h:GI w m n il Y)(hn:il<=1000000):
    ∀ ty, ∃ (s' : S3) (w' : World), (Builtin.append_ #[29, 29] ty #[.slice m.ia il m.ic, .slice (some ⟨w.heap.size, 0, none⟩) 1 1]).run Tryd.prog (w.alloc (.cells (markC n) dtT)) = .ok (S3.v s') w' ∧
      (s'.n=il+1/\(∀(pa:Option Addr) (pc:Nat),GI w' ⟨pa,pc,s'.d,s'.c⟩ n (il+1) (fun y=>Y y\/w.heap.size<=y))/\MovC (fun y=>Y y) w w'/\∀b,b<w.heap.size->(0<il->(S3.v ⟨m.ia,il,m.ic⟩).ownBlock≠some b)->w'.heap[b]? =w.heap[b]?):=by
  intro ty
  obtain⟨xs,h1,h2,h3,h4⟩:=h
  obtain⟨s',w',hr,ho,⟨r,hg,hrg⟩,hb⟩:=app_item h1 hn (markC n) rfl (mark_one n) ty
  have hal:=bl_alloc (Below.refl w.heap.size w) (.cells (markC n) dtT)
  have hsz:(w.alloc (.cells (markC n) dtT)).heap.size=w.heap.size+1:=World.size_alloc _ _
  refine⟨s',w',hr,ho.1,fun pa pc=>⟨xs++(markC n).toList, ?_, ?_,fun i hi=> ?_,fun g _ hg'=> ?_⟩,(MovC.of_below hal).trans (MovC.of_grown (S:=fun y=>Y y) hg fun g e=> ?_) (fun _ _ h=>h),fun b hb' hne=> ?_⟩
  · have:(⟨s'.d,il+1,s'.c⟩:S3)=s':=by rw[<-ho.1]
    show IOwn w' ⟨s'.d,il+1,s'.c⟩ (il+1) _
    rw[this]
    exact ho
  · rw[List.length_append,h2]
    show il*11+11=_
    omega
  · by_cases hil:i<il
    · rw[List.getElem?_append_left (by omega),List.getElem?_append_left (by omega)]
      exact h3 i hil
    · have:i=il:=by omega
      subst this
      rw[List.getElem?_append_right (by omega),List.getElem?_append_right (by omega),h2,Nat.sub_self,Nat.add_sub_cancel_left]
      exact⟨rfl,rfl⟩
  · have hg':s'.v.ownBlock=some g:=by
      have:(⟨s'.d,il+1,s'.c⟩:S3)=s':=by rw[<-ho.1]
      rw[<-this]
      exact hg'
    rcases hb with⟨h0,e⟩ | e
    · rw[e] at hg'
      exact .inl (h4 g h0 hg')
    · rw[e] at hg'
      injection hg' with hg'
      exact .inr (by omega)
  · obtain⟨h0,hv⟩:=hrg g e
    refine⟨h4 g h0 hv, ?_⟩
    rcases h1.2 with⟨e0,_⟩ | ⟨_,hrow⟩
    · omega
    · exact own_cel (row_below hrow hal) hv
  · refine(hg.block b (by rw[hsz];omega) fun e=> ?_).trans (hal.block b hb')
    obtain⟨h0,hv⟩:=hrg b e.symm
    exact hne h0 hv
theorem GP.push{w:World}{m:Dm}{n pl:Nat}{Y:Nat->Prop}(h:GP w m n pl Y)(hn:pl<=17592186044000):
    ∀ ty, ∃ (s' : S3) (w' : World), (Builtin.append_ #[22, 22] ty #[.slice m.pa pl m.pc, .slice (some ⟨w.heap.size, 0, none⟩) 1 1]).run Tryd.prog (w.alloc (.cells #[.int .i64 ((-7 : Int) - (n : Int))] 3)) = .ok (S3.v s') w' ∧
      (s'.n=pl+1/\(∀(ia:Option Addr) (ic:Nat),GP w' ⟨s'.d,s'.c,ia,ic⟩ n (pl+1) (fun y=>Y y\/w.heap.size<=y))/\MovC (fun y=>Y y) w w'/\∀b,b<w.heap.size->(S3.v ⟨m.pa,pl,m.pc⟩).ownBlock≠some b->w'.heap[b]? =w.heap[b]?):=by
  intro ty
  obtain⟨xs,h1,h2,h3,h4⟩:=h
  obtain⟨s',w',hr,ho,hg,hb⟩:=app_num h1 hn ((-7:Int)-(n:Int)) ty
  have hal:=bl_alloc (Below.refl w.heap.size w) (.cells #[.int .i64 ((-7:Int)-(n:Int))] 3)
  have hsz:(w.alloc (.cells #[.int .i64 ((-7:Int)-(n:Int))] 3)).heap.size=w.heap.size+1:=World.size_alloc _ _
  have es:(⟨s'.d,pl+1,s'.c⟩:S3)=s':=by rw[<-ho.1]
  refine⟨s',w',hr,ho.1,fun ia ic=>⟨xs++[.int .i64 ((-7:Int)-(n:Int))], ?_, ?_,fun i hi=> ?_,fun g hg'=> ?_⟩,(MovC.of_below hal).trans (MovC.of_grown (S:=fun y=>Y y) hg fun g e=> ?_) (fun _ _ h=>h),fun b hb' hne=> ?_⟩
  · show POwn w' ⟨s'.d,pl+1,s'.c⟩ (pl+1) _
    rw[es]
    exact ho
  · rw[List.length_append,h2]
    rfl
  · by_cases hil:i<pl
    · rw[List.getElem?_append_left (by omega)]
      exact h3 i hil
    · have:i=pl:=by omega
      subst this
      rw[List.getElem?_append_right (by omega),h2,Nat.sub_self]
      rfl
  · have hg':s'.v.ownBlock=some g:=by
      rw[<-es]
      exact hg'
    rcases hb with e | e
    · rw[e] at hg'
      exact .inl (h4 g hg')
    · rw[e] at hg'
      injection hg' with hg'
      exact .inr (by omega)
  · exact⟨h4 g e,own_cel (row_below h1.2 hal) e⟩
  · exact(hg.block b (by rw[hsz];omega) fun e=>hne e.symm).trans (hal.block b hb')
theorem GI.keep{w w':World}{m:Dm}{n il:Nat}{Y T:Nat->Prop}(h:GI w m n il Y)(hk: ∀g,0<il->(S3.v ⟨m.ia,il,m.ic⟩).ownBlock=some g->w'.heap[g]? =w.heap[g]?)(hT: ∀y,Y y->T y):GI w' m n il T:=
 let⟨xs,h1,h2,h3,h4⟩:=h;⟨xs,h1.keep fun h0 g hg=>hk g h0 hg,h2,h3,fun g h0 hg=>hT g (h4 g h0 hg)⟩
theorem GP.keep{w w':World}{m:Dm}{n pl:Nat}{Y T:Nat->Prop}(h:GP w m n pl Y)(hk: ∀g,(S3.v ⟨m.pa,pl,m.pc⟩).ownBlock=some g->w'.heap[g]? =w.heap[g]?)(hT: ∀y,Y y->T y):GP w' m n pl T:=
 let⟨xs,h1,h2,h3,h4⟩:=h;⟨xs,⟨h1.1,row_keep h1.2 fun g hg=>hk g hg⟩,h2,h3,fun g hg=>hT g (h4 g hg)⟩
theorem GI.mark{w:World}{m:Dm}{n il:Nat}{Y:Nat->Prop}(h:GI w m n il Y):MarkI w (fun y=>Y y/\y<w.heap.size) m.ia il n:=by
 obtain⟨xs,h1,h2,h3,h4⟩:=h
 rcases h1.2 with⟨h0,_⟩ | ⟨h0,hrow⟩
 ·exact .inl h0
 ·obtain⟨g,hg,hd,hc⟩:=own_cells hrow h0
  exact .inr ⟨g,hd ⟨m.ia,il,m.ic⟩ rfl,⟨h4 g h0 hg,own_lt hrow hg⟩,own_cel hrow hg,fun i hi=>⟨hc _ _ (h3 i hi).1,hc _ _ (h3 i hi).2⟩⟩
theorem GP.mark{w:World}{m:Dm}{n pl:Nat}{Y:Nat->Prop}(h:GP w m n pl Y):MarkP w (fun y=>Y y/\y<w.heap.size) m.pa pl n:=by
 obtain⟨xs,h1,h2,h3,h4⟩:=h
 rcases Nat.eq_zero_or_pos pl with h0 | h0
 ·exact .inl h0
 ·obtain⟨g,hg,hd,hc⟩:=own_cells h1.2 h0
  exact .inr ⟨g,hd ⟨m.pa,pl,m.pc⟩ rfl,⟨h4 g hg,own_lt h1.2 hg⟩,own_cel h1.2 hg,fun i hi=>hc _ _ (h3 i hi)⟩
theorem GI.ne{w:World}{m:Dm}{n il pl:Nat}{Y T:Nat->Prop}(h:GI w m n il Y)(h':GP w m n pl T){g g':Nat}(h0:0<il)(hg:(S3.v ⟨m.ia,il,m.ic⟩).ownBlock=some g)(hg':(S3.v ⟨m.pa,pl,m.pc⟩).ownBlock=some g'):g≠g':=by
 obtain⟨xs,h1,_⟩:=h
 obtain⟨ys,h2,_⟩:=h'
 rcases h1.2 with⟨e,_⟩ | ⟨_,hrow⟩
 ·omega
 ·exact own_ne9 hrow h2.2 hg hg'
theorem GI.lt{w:World}{m:Dm}{n il:Nat}{Y:Nat->Prop}(h:GI w m n il Y){g:Nat}(h0:0<il)(hg:(S3.v ⟨m.ia,il,m.ic⟩).ownBlock=some g):Y g/\g<w.heap.size:=by
 obtain⟨xs,h1,_,_,h4⟩:=h
 rcases h1.2 with⟨e,_⟩ | ⟨_,hrow⟩
 ·omega
 ·exact⟨h4 g h0 hg,own_lt hrow hg⟩
theorem GP.lt{w:World}{m:Dm}{n pl:Nat}{Y:Nat->Prop}(h:GP w m n pl Y){g:Nat}(hg:(S3.v ⟨m.pa,pl,m.pc⟩).ownBlock=some g):Y g/\g<w.heap.size:=by
 obtain⟨xs,h1,_,_,h4⟩:=h
 exact⟨h4 g hg,own_lt h1.2 hg⟩
end Go.Proofs.YtlhfickniegooaaDoor

namespace Go.Proofs.YtlhfickniegooaaDoor
open Go.RowKit Go.Sort
set_option maxRecDepth 100000
section
variable {h:Hd} {a:Act} {gw n:Nat} {hs:List Value} {Z Y:Nat->Prop} {Q:Exit->Act->World->Prop}
theorem dcs_i{w:World}{g pl il:Nat}{m:Dm}(hB:Blk w g dtT (dcs h pl il m))(s:S3):Blk (w.setCells g 10 [s.v]) g dtT (dcs h pl s.n ⟨m.pa,m.pc,s.d,s.c⟩):=Blk.setL [s.v] 10 _ _ hB
theorem dcs_p{w:World}{g pl il:Nat}{m:Dm}(hB:Blk w g dtT (dcs h pl il m))(s:S3):Blk (w.setCells g (5+4) [s.v]) g dtT (dcs h s.n il ⟨s.d,s.c,m.ia,m.ic⟩):=Blk.setL [s.v] 9 _ _ hB
set_option maxHeartbeats 4000000 in
theorem ow_grow{u:World}{g8 pl il:Nat}{m:Dm}(hf:Sl 97 a [(8,.pointer (some ⟨g8,0,none⟩)),(7,.int .i64 (n:Int)),(0,.pointer (some ⟨gw,0,none⟩))])(hil:il<=99)(hpl:pl<=17592186043904)(hn:n<=200000000000)
  (hO:OutAt u gw hs n Z) (hB:Blk u g8 dtT (dcs h pl il m)) (hZ: ∀y,Z y->y<g8) (hY: ∀y,Y y->¬Z y/\y<g8) (hI:GI u m n il Y) (hP:GP u m n pl Y)
  (hQ: ∀a' u' m',Sl 97 a' [(8,.pointer (some ⟨g8,0,none⟩)),(0,.pointer (some ⟨gw,0,none⟩))]->OutAt u' gw hs n Z->Blk u' g8 dtT (dcs h (pl+6) (il+6) m')->GI u' m' n (il+6) (fun y=>Y y\/g8<y)->GP u' m' n (pl+6) (fun y=>Y y\/g8<y)->MovC (fun y=>Y y\/g8<=y) u u'->Q .normal a' u'):
  (Code.seq (r_ow 15) (.block 6 (.loop owL0))).wp Tryd.prog Q a u:=by
 have hgl:=hB.lt
 refine wp_seq (rg_wp (ow_r15 hf fun a1 h1=> ?_))
 have h1:Sl 97 a1 [(9,.int .i64 ((0:Nat):Int)),(8,.pointer (some ⟨g8,0,none⟩)),(7,.int .i64 (n:Int)),(0,.pointer (some ⟨gw,0,none⟩))]:=h1.to ⟨rfl,rfl,rfl,rfl,trivial⟩
 refine wp_block ?_
 refine wp_loop (fun a' v=> ∃(j:Nat) (m':Dm),j<=6/\Sl 97 a' [(9,.int .i64 (j:Int)),(8,.pointer (some ⟨g8,0,none⟩)),(7,.int .i64 (n:Int)),(0,.pointer (some ⟨gw,0,none⟩))]/\OutAt v gw hs n Z/\Blk v g8 dtT (dcs h (pl+j) (il+j) m')/\GI v m' n (il+j) (fun y=>Y y\/g8<y)/\GP v m' n (pl+j) (fun y=>Y y\/g8<y)/\MovC (fun y=>Y y\/g8<=y) u v)
  (fun a' _=>muTo 6 (slot a' 9)) ⟨0,m,by omega,h1,hO,hB,hI.keep (fun _ _ _=>rfl) (fun _ h=>.inl h),hP.keep (fun _ _=>rfl) (fun _ h=>.inl h),MovC.of_below (Below.refl _ _)⟩ ?_
 rintro a2 v ⟨j,m',hj,h2,hOv,hBv,hIv,hPv,hMv⟩
 rw[h2.look 9 rfl,muTo_int]
 unfold owL0
 have hgv:=hBv.lt
 by_cases hjl:j<6
 ·refine wp_seq (wp_seq (rg_wp (ow_r16 (b67:=true) h2 rfl (decide_eq_true (by omega)) fun a3 h3=>wpn (h3.look 67 rfl) ?_)))
  have nI: ∀{g:Nat},0<il+j->(S3.v ⟨m'.ia,il+j,m'.ic⟩).ownBlock=some g->g≠g8/\¬Z g:=fun{g} h0 hg=>by
   have:=(hIv.lt h0 hg).1
   refine⟨fun e=> ?_,fun hz=> ?_⟩
   ·subst e
    rcases this with q | q
    ·have:=(hY g q).2;omega
    ·omega
   ·rcases this with q | q
    ·exact(hY g q).1 hz
    ·have:=hZ g hz;omega
  refine wp_seq (wp_block (wp_seq (rg_wp (ow_r18 (xd:=m'.ia) (xn:=il+j) (xc:=m'.ic) (C0:=fun _ s' w'=>s'.n=il+j+1/\(∀(pa:Option Addr) (pc:Nat),GI w' ⟨pa,pc,s'.d,s'.c⟩ n (il+j+1) (fun y=>(Y y\/g8<y)\/v.heap.size<=y))/\MovC (fun y=>Y y\/g8<y) v w'/\∀b,b<v.heap.size->(0<il+j->(S3.v ⟨m'.ia,il+j,m'.ic⟩).ownBlock≠some b)->w'.heap[b]? =v.heap[b]?)
   h3 rfl rfl (one_load hBv Tryd.underlying29 rfl rfl) (fun ty=>hIv.push (by omega) ty) (fun s' v1 hc=>sts1 (there_bk (show Blk v1 g8 dtT _ from(hc.2.2.2 g8 hgv (fun h0 e=>(nI h0 e).1 rfl)).trans hBv) (by show 10+1<=11;omega)) (by kernel_rfl) rfl) fun a4 s' v1 hc h4=> ?_))))
  obtain⟨hsn,hI1,hM1,hk1⟩:=hc
  have hB1:Blk v1 g8 dtT (dcs h (pl+j) (il+j) m'):=(hk1 g8 hgv (fun h0 e=>(nI h0 e).1 rfl)).trans hBv
  have hB1':=dcs_i hB1 s'
  rw[hsn] at hB1'
  have hO1:OutAt (v1.setCells g8 10 [s'.v]) gw hs n Z:=hOv.keep (fun y hy hl=>(setCells_other _ _ _ (by have:=hZ y hy;omega)).trans (hk1 y hl (fun h0 e=>(nI h0 e).2 hy))) (fun _ h _=>h)
  have hP1:GP (v1.setCells g8 10 [s'.v]) ⟨m'.pa,m'.pc,s'.d,s'.c⟩ n (pl+j) (fun y=>Y y\/g8<y):=GP.keep (m:=⟨m'.pa,m'.pc,s'.d,s'.c⟩) hPv (fun g hg=>by
   have hg1:=hPv.lt hg
   refine(setCells_other _ _ _ ?_).trans (hk1 g hg1.2 fun h0 e=>hIv.ne hPv h0 e hg rfl)
   rintro rfl
   rcases hg1.1 with q | q
   ·have:=(hY g q).2;omega
   ·omega) (fun _ h=>h)
  have hI1':GI (v1.setCells g8 10 [s'.v]) ⟨m'.pa,m'.pc,s'.d,s'.c⟩ n (il+j+1) (fun y=>Y y\/g8<y):=GI.keep (hI1 m'.pa m'.pc) (fun g h0 hg=>by
   have hg1:=((hI1 m'.pa m'.pc).lt h0 hg).1
   refine setCells_other _ _ _ ?_
   rintro rfl
   rcases hg1 with(q | q) | q
   ·have:=(hY g q).2;omega
   ·omega
   ·omega) (fun y hy=>hy.elim (fun h=>h) (fun h=>.inr (by omega)))
  have hMa:MovC (fun y=>Y y\/g8<=y) u (v1.setCells g8 10 [s'.v]):=(hMv.trans hM1 (fun y _ q=>q.imp_right (fun q=>by omega))).set (fun _=>.inr (Nat.le_refl _)) ⟨_,_,hB1⟩ _ _
  clear hk1 hB1 hM1 hI1 nI hOv hBv hIv hPv hMv
  show Code.wp _ (r_ow 19) _ a4 (v1.setCells g8 10 [s'.v])
  generalize v1.setCells g8 10 [s'.v]=v2 at hB1' hO1 hP1 hI1' hMa ⊢
  have hg2:=hB1'.lt
  have nP: ∀{g:Nat},(S3.v ⟨m'.pa,pl+j,m'.pc⟩).ownBlock=some g->g≠g8/\¬Z g:=fun{g} hg=>by
   have:=(GP.lt hP1 hg).1
   refine⟨fun e=> ?_,fun hz=> ?_⟩
   ·subst e
    rcases this with q | q
    ·have:=(hY g q).2;omega
    ·omega
   ·rcases this with q | q
    ·exact(hY g q).1 hz
    ·have:=hZ g hz;omega
  refine wpl (rg_wp (ow_r19 (yd:=m'.pa) (yn:=pl+j) (yc:=m'.pc) (C0:=fun _ s' w'=>s'.n=pl+j+1/\(∀(ia:Option Addr) (ic:Nat),GP w' ⟨s'.d,s'.c,ia,ic⟩ n (pl+j+1) (fun y=>(Y y\/g8<y)\/v2.heap.size<=y))/\MovC (fun y=>Y y\/g8<y) v2 w'/\∀b,b<v2.heap.size->(S3.v ⟨m'.pa,pl+j,m'.pc⟩).ownBlock≠some b->w'.heap[b]? =v2.heap[b]?)
   h4 rfl rfl (one_load hB1' Tryd.underlying22 rfl rfl) (by omega) (fun ty=>GP.push hP1 (by omega) ty) (fun t' v1 hc=>sts1 (there_bk (show Blk v1 g8 dtT _ from(hc.2.2.2 g8 hg2 (fun e=>(nP e).1 rfl)).trans hB1') (by show 5+4+1<=11;omega)) (by kernel_rfl) rfl) fun a5 t' v3 hc h5=>block_norm ?_))
  obtain⟨htn,hP3,hM3,hk3⟩:=hc
  have hB3:Blk v3 g8 dtT (dcs h (pl+j) (il+j+1) ⟨m'.pa,m'.pc,s'.d,s'.c⟩):=(hk3 g8 hg2 (fun e=>(nP e).1 rfl)).trans hB1'
  have hB3':=dcs_p hB3 t'
  rw[htn] at hB3'
  have hO3:OutAt (v3.setCells g8 (5+4) [t'.v]) gw hs n Z:=hO1.keep (fun y hy hl=>(setCells_other _ _ _ (by have:=hZ y hy;omega)).trans (hk3 y hl (fun e=>(nP e).2 hy))) (fun _ h _=>h)
  have hI3:GI (v3.setCells g8 (5+4) [t'.v]) ⟨t'.d,t'.c,s'.d,s'.c⟩ n (il+j+1) (fun y=>Y y\/g8<y):=GI.keep (m:=⟨t'.d,t'.c,s'.d,s'.c⟩) hI1' (fun g h0 hg=>by
   have hg1:=GI.lt hI1' h0 hg
   refine(setCells_other _ _ _ ?_).trans (hk3 g hg1.2 fun e=>GI.ne hI1' hP1 h0 hg e rfl)
   rintro rfl
   rcases hg1.1 with q | q
   ·have:=(hY g q).2;omega
   ·omega) (fun _ h=>h)
  have hP3':GP (v3.setCells g8 (5+4) [t'.v]) ⟨t'.d,t'.c,s'.d,s'.c⟩ n (pl+j+1) (fun y=>Y y\/g8<y):=GP.keep (hP3 s'.d s'.c) (fun g hg=>by
   have hg1:=((hP3 s'.d s'.c).lt hg).1
   refine setCells_other _ _ _ ?_
   rintro rfl
   rcases hg1 with(q | q) | q
   ·have:=(hY g q).2;omega
   ·omega
   ·omega) (fun y hy=>hy.elim (fun h=>h) (fun h=>.inr (by omega)))
  have hMb:MovC (fun y=>Y y\/g8<=y) u (v3.setCells g8 (5+4) [t'.v]):=(hMa.trans hM3 (fun y _ q=>q.imp_right (fun q=>by omega))).set (fun _=>.inr (Nat.le_refl _)) ⟨_,_,hB3⟩ _ _
  clear hk3 hB3 hM3 hP3 nP hO1 hB1' hP1 hI1' hMa
  show Code.wp _ (r_ow 17) _ a5 (v3.setCells g8 (5+4) [t'.v])
  generalize v3.setCells g8 (5+4) [t'.v]=v4 at hB3' hO3 hI3 hP3' hMb ⊢
  refine wpl (rg_wp (ow_r17 h5 rfl (by omega) fun a6 h6=>⟨⟨j+1,⟨t'.d,t'.c,s'.d,s'.c⟩,by omega,h6.to ⟨rfl,rfl,rfl,rfl,trivial⟩,hO3,hB3',hI3,hP3',hMb⟩, ?_⟩))
  rw[h6.look 9 rfl,show((j:Int)+1)=((j+1:Nat):Int) by simp,muTo_int]
  omega
 ·have hj6:j=6:=by omega
  subst hj6
  refine wp_seq (wp_seq (rg_wp (ow_r16 (b67:=false) h2 rfl (decide_eq_false (by omega)) fun a3 h3=>wpx (h3.look 67 rfl) ?_)))
  refine then_exit' (in_block2 ?_)
  exact hQ a3 v m' (h3.to ⟨rfl,rfl,trivial⟩) hOv hBv hIv hPv hMv
end
theorem GI.mk{w:World}{m:Dm}{n il:Nat}(h99:il<=99)(h:(il=0/\m.ic=il)\/∃b cb,m.ia=some ⟨b,0,none⟩/\Blk w b dtT cb/\cb.size=il*11/\m.ic=il/\0<il/\∀i,i<il->w.cell? ⟨b,i*11,none⟩=some (.int .i64 (-7))/\w.cell? ⟨b,i*11+2,none⟩=some (.int .i64 (n:Int))):
  GI w m n il (fun y=>0<il/\m.ia=some ⟨y,0,none⟩):=by
 rcases h with⟨rfl,hc⟩ | ⟨b,cb,hia,hB,hz,hc,h0,hm⟩
 ·exact⟨[],⟨rfl,.inl ⟨rfl,hc,rfl⟩⟩,rfl,fun i hi=>by omega,fun g h0=>by omega⟩
 ·have hcell: ∀j v,w.cell? ⟨b,j,none⟩=some v->cb.toList[j]? =some v:=fun j v hv=>by
   rw[hB.cell] at hv
   rw[Array.getElem?_toList]
   exact hv
  refine⟨cb.toList,⟨rfl,.inr ⟨h0,by rw[Array.length_toList,hz],.inr ⟨b,il,cb, ?_,Nat.zero_le _,hB,Nat.le_refl _,by simp only[maxLen];omega,hz, ?_⟩⟩⟩,by rw[Array.length_toList,hz],fun i hi=>⟨hcell _ _ (hm i hi).1,hcell _ _ (hm i hi).2⟩,fun g _ hg=>⟨h0, ?_⟩⟩
  ·show Value.slice m.ia il m.ic=_
   rw[hia,hc]
  ·exact List.take_of_length_le (by rw[Array.length_toList,hz];exact Nat.le_refl _)
  ·rw[hia] at hg ⊢
   have hg:some b=some g:=hg
   injection hg with hg
   rw[hg]
theorem GP.mk{w:World}{m:Dm}{n pl:Nat}(h:(m.pa=none/\m.pc=0/\pl=0)\/∃b cb,m.pa=some ⟨b,0,none⟩/\Blk w b 3 cb/\cb.size=m.pc/\pl<=m.pc/\m.pc<=maxLen/\0<pl/\∀i,i<pl->w.cell? ⟨b,i,none⟩=some (.int .i64 ((-7:Int)-(n:Int)))):
  GP w m n pl (fun y=>0<pl/\m.pa=some ⟨y,0,none⟩):=by
 rcases h with⟨ha,hc,rfl⟩ | ⟨b,cb,hia,hB,hz,hc,hx,h0,hm⟩
 ·refine⟨[],⟨rfl, ?_⟩,rfl,fun i hi=>by omega,fun g hg=> ?_⟩
  ·rw[ha,hc]
   exact World.ownsRow_nil _ _ _ _
  ·rw[ha,hc] at hg
   cases hg
 ·have hcell: ∀j v,w.cell? ⟨b,j,none⟩=some v->cb.toList[j]? =some v:=fun j v hv=>by
   rw[hB.cell] at hv
   rw[Array.getElem?_toList]
   exact hv
  refine⟨cb.toList.take pl,⟨rfl,by rw[List.length_take,Array.length_toList,hz];omega,.inr ⟨b,m.pc,cb, ?_,Nat.zero_le _,hB,hc,hx,by rw[hz,Nat.mul_one],by rw[Nat.mul_one]⟩⟩,by rw[List.length_take,Array.length_toList,hz];omega,fun i hi=> ?_,fun g hg=>⟨h0, ?_⟩⟩
  ·show Value.slice m.pa pl m.pc=_
   rw[hia]
  ·rw[List.getElem?_take_of_lt hi]
   exact hcell _ _ (hm i hi)
  ·rw[hia] at hg ⊢
   have hg:some b=some g:=hg
   injection hg with hg
   rw[hg]
end Go.Proofs.YtlhfickniegooaaDoor

namespace Go.Proofs.YtlhfickniegooaaDoor
open Go.RowKit Go.Sort
set_option maxRecDepth 100000
theorem MarkI.wide{w:World}{Z T:Nat->Prop}{ia:Option Addr}{il n:Nat}(h:MarkI w Z ia il n)(hT: ∀b,Z b->b<w.heap.size->T b):MarkI w T ia il n:=h.keep (fun _ _ _=>rfl) hT
theorem MarkP.wide{w:World}{Z T:Nat->Prop}{ia:Option Addr}{il n:Nat}(h:MarkP w Z ia il n)(hT: ∀b,Z b->b<w.heap.size->T b):MarkP w T ia il n:=h.keep (fun _ _ _=>rfl) hT
set_option maxHeartbeats 8000000 in
theorem owns_dt{d:Dt}(ho:d.ok)(ih: ∀i a e,d.k.get i=some (a,e)->OwnsC a e){w:World}{gw n lo hi:Nat}{hs:List Value}{Z:Nat->Prop}{m:Dm}(hr:rightB d.h d.k=true)(hsep:d.sep w lo hi m)(hO:OutAt w gw hs n Z)(hZ: ∀b,Z b->¬InR lo hi b)(hhi:hi<=w.heap.size)(hn:n+(1+cntF d.k)<=200000000000):
  Calls Tryd.prog 41 #[.pointer (some ⟨gw,0,none⟩),.agg (d.cs m)] w fun e w'=>e=.returned (.tuple #[])/\(OutAt w' gw hs (n+(1+cntF d.k)) (fun b=>Z b\/InR lo hi b\/w.heap.size<=b)/\MovC (fun b=>Z b\/InR lo hi b) w w'):=by
 have hlen:d.k.len<=99:=by
  have:=(right_iff.1 hr).2.2
  have h2: ∀f:Fo,f.len<=cntF f:=fun f=>by
   induction f with
   | nil=>exact Nat.le_refl _
   | cons h k r _ ih=>show r.len+1<=1+cntF k+cntF r;omega
  have:=h2 d.k
  omega
 have hplen:d.h.path.length<=17592186043904:=ho.h.path
 refine calls_ev (vs:=[.pointer (some ⟨gw,0,none⟩),.agg (d.cs m)]) 97 Tryd.func41 ow_body (by kernel_rfl) (by simp) fun a0 h0=> ?_
 unfold owBody
 refine wp_seq (rg_wp (ow_r0 h0 rfl fun a1 h1=> ?_))
 have hD1:=Blk.new w 31 (d.cs m)
 have hb1:=bl_alloc (Below.refl w.heap.size w) (.cells (d.cs m) 31)
 have hs1:(w.alloc (.cells (d.cs m) 31)).heap.size=w.heap.size+1:=World.size_alloc _ _
 have hsep1:=hsep.old hb1
 have hO1:=hO.low.old hb1
 show Code.wp _ _ _ a1 (w.alloc (.cells (d.cs m) 31))
 generalize w.alloc (.cells (d.cs m) 31)=w1 at hD1 hb1 hs1 hsep1 hO1 ⊢
 obtain⟨k1,k2,g1,g2,g3,gk,gp⟩:=hsep1.parts
 have hZ1: ∀b,Z b/\b<w.heap.size->¬InR k1 k2 b:=fun b hb q=>hZ b hb.1 ⟨by have:=q.1;omega,by have:=q.2;omega⟩
 refine wp_seq (ow_items (d:=d) (m:=m) (n:=n) (k1:=k1) (k2:=k2) (h1.to ⟨rfl,rfl,trivial⟩) ih hr hO1 hD1 (fun q=>by have:=q.2;omega) (fun q=>by have:=q.2;omega) hZ1 (by omega) g2
  (gk.imp_right fun⟨b,cb,q1,q2,q3,q4,q5,q6,q7⟩=>⟨b,cb,q1,q3,fun hz=>hZ b hz.1 ⟨by omega,by omega⟩,q4,q7⟩) (by omega) fun a2 u2 h2 hO2 hD2 hM2=> ?_)
 show Code.wp _ _ _ a2 u2
 have z2:=hM2.size
 have kI:d.k.len=0\/∃b cb,m.ia=some ⟨b,0,none⟩/\lo<=b/\b<k1/\Blk u2 b dtT cb/\cb.size=d.k.len*11:=gk.imp_right fun⟨b,cb,q1,q2,q3,q4,q5,_⟩=>⟨b,cb,q1,q2,q3,hM2.stay q4 (by
  rintro(q | q)
  ·exact hZ b q.1 ⟨by omega,by omega⟩
  ·have:=q.1;omega),q5⟩
 have kc:m.ic=d.k.len:=hsep1.rows.2.1.1
 have kP:=gp.keep (w':=u2) (T:=fun y=>lo<=y/\y<hi/\¬(k1<=y/\y<k2)/\(0<d.k.len->m.ia≠some ⟨y,0,none⟩)) (fun b hb hl=>hM2.block b hl (by
  rintro⟨q | q,_⟩
  ·exact hZ b q.1 ⟨hb.1,hb.2.1⟩
  ·exact hb.2.2.1 q)) (fun _ h _=>h)
 have hZ2: ∀b,lo<=b->b<hi->¬(k1<=b/\b<k2)->¬((Z b/\b<w.heap.size)\/InR k1 k2 b\/w1.heap.size<=b):=fun b h1 h2 h3=>by
  rintro(q | q | q)
  ·exact hZ b q.1 ⟨h1,h2⟩
  ·exact h3 q
  ·omega
 refine wp_seq (ow_marki (d:=d) (m:=m) (h2.to ⟨rfl,rfl,trivial⟩) hlen hO2 hD2 (by omega) (kI.imp_right fun⟨b,cb,q1,q2,q3,q4,q5⟩=>⟨b,cb,q1,hZ2 b q2 (by omega) (by omega),by omega,q4,q5⟩) fun a3 u3 h3 hO3 hD3 hM3 kI3=> ?_)
 show Code.wp _ _ _ a3 u3
 have z3:=hM3.size
 have kP3:=kP.keep (w':=u3) (T:=fun y=>lo<=y/\y<hi/\¬(k1<=y/\y<k2)/\(0<d.k.len->m.ia≠some ⟨y,0,none⟩)) (fun b hb hl=>hM3.block b hl (fun q=>hb.2.2.2 q.1.1 q.1.2)) (fun _ h _=>h)
 refine wp_seq (ow_markp (d:=d) (m:=m) (h3.to ⟨rfl,rfl,trivial⟩) hplen hO3 hD3 (by omega) (by
  rcases kP3 with q | ⟨q1,q2,_,g,cs,q3,q4,q5,q6⟩
  ·exact .inl q.2.2
  ·exact .inr ⟨g,cs,q3,hZ2 g q4.1 q4.2.1 q4.2.2.1,by have:=q4.2.1;omega,q5,q6,q2⟩) fun a4 u4 h4 hO4 hD4 hM4 kP4=> ?_)
 show Code.wp _ _ _ a4 u4
 have z4:=hM4.size
 have hI4:GI u4 m (n+cntF d.k) d.k.len (fun y=>0<d.k.len/\m.ia=some ⟨y,0,none⟩):=GI.mk hlen (by
  rcases Nat.eq_zero_or_pos d.k.len with e | e
  ·exact .inl ⟨e,kc⟩
  ·rcases kI3 with q | ⟨b,cb,q1,q2,q3,q4⟩
   ·omega
   ·have kb:u4.heap[b]? =u3.heap[b]? :=hM4.block b q2.lt (fun q=>by
     rcases kP3 with p | ⟨p1,p2,_,g,cs,p3,p4,p5,p6⟩
     ·have:=q.1.1;have:=p.2.2;omega
     ·obtain⟨r1,_⟩:=addr_eq p3 q.1.2
      exact p4.2.2.2 e (r1 ▸ q1))
    exact .inr ⟨b,cb,q1,kb.trans q2,q3,kc,e,fun i hi=>⟨(cell_same kb).trans (q4 i hi).1,(cell_same kb).trans (q4 i hi).2⟩⟩)
 have hP4:GP u4 m (n+cntF d.k) d.h.path.length (fun y=>0<d.h.path.length/\m.pa=some ⟨y,0,none⟩):=GP.mk (by
  rcases kP3 with p | ⟨p1,p2,pm,g,cs,p3,p4,p5,p6⟩
  ·exact .inl p
  ·rcases kP4 with q | ⟨b,cb,q1,q2,q3,q4⟩
   ·omega
   ·exact .inr ⟨b,cb,q1,q2,q3,p2,pm,p1,q4⟩)
 obtain⟨od,oc,hld⟩:=hO4.load
 refine wp_seq (rg_wp (ow_r13 h4 rfl (hld rfl) fun a5 h5=> ?_))
 refine wp_seq (rg_wp (ow_r14 (d:=d) (m:=m) h5 rfl (dat_whole hD4) (dat_put (Blk.new u4 dtT zeroC) (Nat.le_refl _) d m) fun a6 h6=> ?_))
 have hB6:=dat_over (Blk.new u4 dtT zeroC) rfl d m
 have hb6:Below u4.heap.size u4 ((u4.alloc (.cells zeroC dtT)).setCells u4.heap.size 0 (d.cs m).toList):=below_setCells _ _ _ (bl_alloc (Below.refl _ _) _) (Nat.le_refl _)
 show Code.wp _ _ _ a6 ((u4.alloc (.cells zeroC dtT)).setCells u4.heap.size 0 (d.cs m).toList)
 generalize (u4.alloc (.cells zeroC dtT)).setCells u4.heap.size 0 (d.cs m).toList=u6 at hB6 hb6 ⊢
 have hO6:=hO4.low.old hb6
 have yR: ∀y,(0<d.k.len/\m.ia=some ⟨y,0,none⟩)\/(0<d.h.path.length/\m.pa=some ⟨y,0,none⟩)->lo<=y/\y<hi/\¬(k1<=y/\y<k2):=fun y hy=>by
  rcases hy with⟨h0,e⟩ | ⟨h0,e⟩
  ·rcases kI with q | ⟨b,cb,q1,q2,q3,_⟩
   ·omega
   ·obtain⟨r1,_⟩:=addr_eq q1 e
    omega
  ·rcases kP3 with p | ⟨p1,p2,pm,g,cs,p3,p4,p5,p6⟩
   ·have:=p.2.2;omega
   ·obtain⟨r1,_⟩:=addr_eq p3 e
    exact r1 ▸ ⟨p4.1,p4.2.1,p4.2.2.1⟩
 have hI6:=GI.keep hI4 (w':=u6) (T:=fun y=>(0<d.k.len/\m.ia=some ⟨y,0,none⟩)\/(0<d.h.path.length/\m.pa=some ⟨y,0,none⟩)) (fun g h0 hg=>hb6.block g (GI.lt hI4 h0 hg).2) (fun _ h=>.inl h)
 have hP6:=GP.keep hP4 (w':=u6) (T:=fun y=>(0<d.k.len/\m.ia=some ⟨y,0,none⟩)\/(0<d.h.path.length/\m.pa=some ⟨y,0,none⟩)) (fun g hg=>hb6.block g (GP.lt hP4 hg).2) (fun _ h=>.inr h)
 have hlo:lo<=hi:=hsep.le
 refine wp_seq (ow_grow (h:=d.h) (pl:=d.h.path.length) (il:=d.k.len) (m:=m) (n:=n+cntF d.k) (h6.to ⟨rfl,rfl,rfl,trivial⟩) hlen hplen (by omega) hO6 hB6 (fun y hy=>hy.2) (fun y hy=>⟨fun hz=>hZ2 y (yR y hy).1 (yR y hy).2.1 (yR y hy).2.2 hz.1,by have:=(yR y hy).2.1;omega⟩) hI6 hP6 fun a7 u7 m' h7 hO7 hB7 hI7 hP7 hM7=> ?_)
 show Code.wp _ (r_ow 20) _ a7 u7
 have z6:=hb6.size
 have z7:=hM7.size
 rw[<-GrW_cs] at hB7
 refine ow_push (Y:=fun y=>(((0<d.k.len/\m.ia=some ⟨y,0,none⟩)\/(0<d.h.path.length/\m.pa=some ⟨y,0,none⟩))\/u4.heap.size<y)/\y<u7.heap.size) h7 hO7 (by omega) hB7 (fun q=>by have:=q.2;omega) (by rw[GrW_pl,GrW_il];omega) (by rw[GrW_pl];exact hP7.mark) (by rw[GrW_il];exact hI7.mark) (fun y hy=>⟨fun hz=> ?_,hy.2⟩) fun a8 u8 hdf hO8 hM8=> ?_
 ·rcases hy.1 with q | q
  ·exact hZ2 y (yR y q).1 (yR y q).2.1 (yR y q).2.2 hz.1
  ·have:=hz.2;omega
 ·have S1: ∀y,InR k1 k2 y->InR lo hi y:=fun y q=>⟨by have:=q.1;omega,by have:=q.2;omega⟩
  have m2:MovC (fun b=>Z b\/InR lo hi b) w u2:=(MovC.of_below hb1).trans hM2 (fun y _ q=>q.elim (fun q=>.inl q.1) (fun q=>.inr (S1 y q)))
  have m3:MovC (fun b=>Z b\/InR lo hi b) w u3:=m2.trans hM3 (fun y _ q=>by
   have:=yR y (.inl q)
   exact .inr ⟨this.1,this.2.1⟩)
  have m4:MovC (fun b=>Z b\/InR lo hi b) w u4:=m3.trans hM4 (fun y _ q=>by
   have:=yR y (.inr q)
   exact .inr ⟨this.1,this.2.1⟩)
  have m7:MovC (fun b=>Z b\/InR lo hi b) w u7:=(m4.below hb6).trans hM7 (fun y hl q=>by
   rcases q with q | q
   ·have:=yR y q
    exact .inr ⟨this.1,this.2.1⟩
   ·omega)
  have m8:MovC (fun b=>Z b\/InR lo hi b) w u8:=m7.trans hM8 (fun y hl q=>by
   rcases q.1 with q | q | q
   ·exact .inl q.1
   ·exact .inr (S1 y q)
   ·omega)
  refine bodyPost_end (results_none rfl _ _ _) hdf ⟨rfl, ?_,m8⟩
  rw[show n+(1+cntF d.k)=n+cntF d.k+1 by omega]
  refine hO8.wide fun y hy _=> ?_
  rcases hy with q | q | q
  ·rcases q.1 with q | q | q
   ·exact .inl q.1
   ·exact .inr (.inl (S1 y q))
   ·exact .inr (.inr (by omega))
  ·rcases q.1 with q | q
   ·have:=yR y q
    exact .inr (.inl ⟨this.1,this.2.1⟩)
   ·exact .inr (.inr (by omega))
  ·exact .inr (.inr (by omega))
theorem owns_all: ∀(f:Fo),f.ok->∀i h k,f.get i=some (h,k)->OwnsC h k
 | .nil,_,i,h,k,e=>by simp[Fo.get] at e
 | .cons h k r,ho,0,h',k',e=>by
  simp only[Fo.get,Option.some.injEq,Prod.mk.injEq] at e
  obtain⟨rfl,rfl⟩:=e
  exact fun w gw n lo hi hs Z m hr hsep hO hZ hhi hn=>owns_dt (d:=⟨h,k⟩) ⟨ho.1,ho.2.1,ho.2.2.2⟩ (owns_all k ho.2.1) hr hsep hO hZ hhi hn
 | .cons h k r,ho,i+1,h',k',e=>owns_all r ho.2.2.1 i h' k' e
theorem owns_any{d:Dt}(ho:d.ok){w:World}{gw n lo hi:Nat}{hs:List Value}{Z:Nat->Prop}{m:Dm}(hr:rB d=true)(hsep:d.sep w lo hi m)(hO:OutAt w gw hs n Z)(hZ: ∀b,Z b->¬InR lo hi b)(hhi:hi<=w.heap.size)(hn:n+100<=200000000000):
  Calls Tryd.prog 41 #[.pointer (some ⟨gw,0,none⟩),.agg (d.cs m)] w fun e w'=>e=.returned (.tuple #[])/\((∃n',n'<=n+100/\OutAt w' gw hs n' (fun b=>Z b\/InR lo hi b\/w.heap.size<=b))/\MovC (fun b=>Z b\/InR lo hi b) w w'):=by
 have hc:=(right_iff.1 hr).2.2
 exact(owns_dt ho (owns_all d.k ho.k) hr hsep hO hZ hhi (by omega)).mono fun e w' hh=>⟨hh.1,⟨_,by omega,hh.2.1⟩,hh.2.2⟩
end Go.Proofs.YtlhfickniegooaaDoor

namespace Go.Proofs.YtlhfickniegooaaDoor
open Go.RowKit Go.Sort
set_option maxRecDepth 100000
theorem flat_cell: ∀(E:List (Array Value)) (_: ∀c∈E,c.size=11) (j i:Nat) (c:Array Value),E[j]? =some c->i<11->(E.flatMap Array.toList)[j*11+i]? =c[i]?
 | [],_,_,_,_,h,_=>by cases h
 | q::E,hE,0,i,c,h,hi=>by
  injection h with h
  subst h
  have hq:q.toList.length=11:=hE q (List.mem_cons_self ..)
  rw[List.flatMap_cons,Nat.zero_mul,Nat.zero_add,List.getElem?_append_left (by omega),Array.getElem?_toList]
 | q::E,hE,j+1,i,c,h,hi=>by
  have hq:q.toList.length=11:=hE q (List.mem_cons_self ..)
  rw[List.flatMap_cons,List.getElem?_append_right (by omega),hq,show(j+1)*11+i-11=j*11+i by omega]
  exact flat_cell E (fun c hc=>hE c (List.mem_cons_of_mem _ hc)) j i c h hi
theorem OutAt.read{w:World}{gw N:Nat}{hs:List Value}{Z:Nat->Prop}(h:OutAt w gw hs N Z): ∃od oc,(∀{u:World},u=w->Lds Tryd.prog 29 (.pointer (some ⟨gw,8,none⟩)) (.slice od N oc) u)/\
    ∀ j, j < N → ∃ g pa pl pc ia il ic, (∀ v, (Instr.indexAt 29 (.slice od N oc) (.int .i64 (j : Int))).run Tryd.prog v = .ok (.pointer (some ⟨g, j * 11, none⟩)) v) ∧
      w.cell? ⟨g,j*11+9,none⟩=some (.slice pa pl pc)/\w.cell? ⟨g,j*11+10,none⟩=some (.slice ia il ic)/\(pl<=9000000000000000000/\il<=9000000000000000000)/\MarkP w (fun _=>True) pa pl j/\MarkI w (fun _=>True) ia il j:=by
  obtain⟨od0,oc0,hld0⟩:=h.load
  obtain⟨s,E,hS⟩:=h
  refine⟨s.d,s.c,fun{u} e=> ?_,fun j hj=> ?_⟩
  · subst e
    rw[<-hS.num.1]
    refine one_load hS.blk Tryd.underlying29 rfl ?_
    rw[<-Array.getElem?_toList]
    show(hs++[s.v])[8]? =_
    rw[List.getElem?_append_right (by rw[hS.len];exact Nat.le_refl _),hS.len]
    rfl
  · obtain⟨g,hg,hd,hc⟩:=own_cells hS.row (by omega)
    have hd:=hd s rfl
    obtain⟨c,hcE⟩: ∃c,E[j]? =some c:=⟨E[j]'(by rw[hS.num.2];exact hj),List.getElem?_eq_getElem _⟩
    obtain⟨h11,pa,pl,pc,ia,il,ic,hb,q1,q2,q3,q4⟩:=hS.el j c hcE
    have hE: ∀c∈E,c.size=11:=fun c hc=>by
      obtain⟨i,hi⟩:=List.mem_iff_getElem?.1 hc
      exact(hS.el i c hi).1
    refine⟨g,pa,pl,pc,ia,il,ic,fun v=> ?_,hc _ _ ((flat_cell E hE j 9 c hcE (by omega)).trans q1),hc _ _ ((flat_cell E hE j 10 c hcE (by omega)).trans q2),hb,q3.wide (fun _ _ _=>trivial),q4.wide (fun _ _ _=>trivial)⟩
    rw[hd]
    exact ix_at j rfl Tryd.underlying29 (by kernel_rfl) hj rfl v
set_option maxHeartbeats 4000000 in
theorem kept_any{w:World}{gw N:Nat}{hs:List Value}{Z:Nat->Prop}(h:OutAt w gw hs N Z)(hN:N<=200000000000):
  Calls Tryd.prog 17 #[.pointer (some ⟨gw,0,none⟩)] w fun e w'=>e=.returned (.bool true)/\w'=w:=by
 obtain⟨od,oc,hld,hel⟩:=h.read
 refine calls_ev (vs:=[.pointer (some ⟨gw,0,none⟩)]) 86 Tryd.func17 kp9_body (by kernel_rfl) (by simp) fun a0 h0=> ?_
 unfold kp9Body
 refine wp_seq (rg_wp (kp9_r0 h0 fun a1 h1=> ?_))
 refine wp_seq (wp_seq (rg_wp (kp9_r1 h1 fun a2 h2=> ?_)))
 have h2:Sl 86 a2 [(3,.int .i64 ((0:Nat):Int)),(0,.pointer (some ⟨gw,0,none⟩))]:=h2.to ⟨rfl,rfl,trivial⟩
 refine wp_block ?_
 refine wp_loop (fun a' v=> ∃n:Nat,n<=N/\Sl 86 a' [(3,.int .i64 (n:Int)),(0,.pointer (some ⟨gw,0,none⟩))]/\v=w) (fun a' _=>muTo N (slot a' 3)) ⟨0,Nat.zero_le _,h2,rfl⟩ ?_
 rintro a3 v ⟨n,hn,h3,rfl⟩
 rw[h3.look 3 rfl,muTo_int]
 unfold kp9L2
 by_cases hlt:n<N
 ·refine wp_seq (wp_seq (rg_wp (kp9_r2 (b12:=true) h3 rfl rfl (hld rfl) (decide_eq_true (by omega)) fun a4 h4=>wpn (h4.look 12 rfl) ?_)))
  obtain⟨g,pa,pl,pc,ia,il,ic,hix,c9,c10,hb,mP,mI⟩:=hel n hlt
  refine wp_seq (wp_block ?_)
  refine wp_seq (wp_seq (rg_wp (kp9_r4 h4 fun a5 h5=> ?_)))
  have h5:Sl 86 a5 [(4,.int .i64 ((0:Nat):Int)),(3,.int .i64 (n:Int)),(0,.pointer (some ⟨gw,0,none⟩))]:=h5.to ⟨rfl,rfl,rfl,trivial⟩
  refine wp_block ?_
  refine wp_loop (fun a' u=> ∃i:Nat,i<=il/\Sl 86 a' [(4,.int .i64 (i:Int)),(3,.int .i64 (n:Int)),(0,.pointer (some ⟨gw,0,none⟩))]/\u=v) (fun a' _=>muTo il (slot a' 4)) ⟨0,Nat.zero_le _,h5,rfl⟩ ?_
  rintro a6 u ⟨i,hi,h6,rfl⟩
  rw[h6.look 4 rfl,muTo_int]
  unfold kp9L1
  by_cases hil:i<il
  ·refine wp_seq (wp_seq (rg_wp (kp9_r5 (b25:=true) h6 rfl rfl rfl (hld rfl) hix (lds1 Tryd.underlying29 rfl c10) (decide_eq_true (by omega)) fun a7 h7=>wpn (h7.look 25 rfl) ?_)))
   rcases mI with e | ⟨b,hia,_,_,hm⟩
   ·omega
   ·subst hia
    refine wp_seq (wp_block (wp_seq (rg_wp (kp9_r7_f (g37:=b) (o37:=i*11) (b55:=false) h7 rfl rfl rfl (hld rfl) hix (lds1 Tryd.underlying29 rfl c10) (fun w=>ix_at i rfl Tryd.underlying29 (by kernel_rfl) hil rfl w) (lds1 Tryd.underlying3 rfl (hm i hil).1) (decide_eq_false (by simp)) (lds1 Tryd.underlying3 rfl (hm i hil).2) (decide_eq_false (by simp)) fun a8 h8=>wpc_off (h8.look 56 rfl) (block_norm ?_)))))
    show Code.wp _ (r_kp9 6) _ a8 u
    refine wpl (rg_wp (kp9_r6 h8 rfl (by omega) fun a9 h9=>⟨⟨i+1,by omega,h9.to ⟨rfl,rfl,rfl,trivial⟩,rfl⟩, ?_⟩))
    rw[h9.look 4 rfl,show((i:Int)+1)=((i+1:Nat):Int) by simp,muTo_int]
    omega
  ·refine wp_seq (wp_seq (rg_wp (kp9_r5 (b25:=false) h6 rfl rfl rfl (hld rfl) hix (lds1 Tryd.underlying29 rfl c10) (decide_eq_false (by omega)) fun a7 h7=>wpx (h7.look 25 rfl) ?_)))
   refine then_exit' (in_block2 ?_)
   show Code.wp _ (.seq (r_kp9 9) (.block 4 (.loop kp9L0))) _ a7 u
   refine wp_seq (rg_wp (kp9_r9 h7 fun a8 h8=> ?_))
   have h8:Sl 86 a8 [(5,.int .i64 ((0:Nat):Int)),(3,.int .i64 (n:Int)),(0,.pointer (some ⟨gw,0,none⟩))]:=h8.to ⟨rfl,rfl,rfl,trivial⟩
   refine wp_block ?_
   refine wp_loop (fun a' z=> ∃i:Nat,i<=pl/\Sl 86 a' [(5,.int .i64 (i:Int)),(3,.int .i64 (n:Int)),(0,.pointer (some ⟨gw,0,none⟩))]/\z=u) (fun a' _=>muTo pl (slot a' 5)) ⟨0,Nat.zero_le _,h8,rfl⟩ ?_
   rintro a9 z ⟨i,hi,h9,rfl⟩
   rw[h9.look 5 rfl,muTo_int]
   unfold kp9L0
   by_cases hpl:i<pl
   ·refine wp_seq (wp_seq (rg_wp (kp9_r10 (b68:=true) h9 rfl rfl rfl (hld rfl) hix (lds1 Tryd.underlying22 rfl c9) (decide_eq_true (by omega)) fun a10 h10=>wpn (h10.look 68 rfl) ?_)))
    rcases mP with e | ⟨b,hpa,_,_,hm⟩
    ·omega
    ·subst hpa
     refine wp_seq (wp_block (wp_seq (rg_wp (kp9_r12 (g81:=b) (o81:=i) (b85:=false) h10 rfl rfl rfl (hld rfl) hix (lds1 Tryd.underlying22 rfl c9) (fun w=>ix_at i rfl Tryd.underlying22 (by kernel_rfl) hpl (Nat.mul_one _).symm w) (lds1 Tryd.underlying3 rfl (hm i hpl)) (by omega) (decide_eq_false (by simp)) fun a11 h11=>wpc_off (h11.look 85 rfl) (block_norm ?_)))))
     show Code.wp _ (r_kp9 11) _ a11 z
     refine wpl (rg_wp (kp9_r11 h11 rfl (by omega) fun a12 h12=>⟨⟨i+1,by omega,h12.to ⟨rfl,rfl,rfl,trivial⟩,rfl⟩, ?_⟩))
     rw[h12.look 5 rfl,show((i:Int)+1)=((i+1:Nat):Int) by simp,muTo_int]
     omega
   ·refine wp_seq (wp_seq (rg_wp (kp9_r10 (b68:=false) h9 rfl rfl rfl (hld rfl) hix (lds1 Tryd.underlying22 rfl c9) (decide_eq_false (by omega)) fun a10 h10=>wpx (h10.look 68 rfl) ?_)))
    refine then_exit' (in_block2 (block_norm ?_))
    show Code.wp _ (r_kp9 3) _ a10 z
    refine wpl (rg_wp (kp9_r3 h10 rfl (by omega) fun a11 h11=>⟨⟨n+1,by omega,h11.to ⟨rfl,rfl,trivial⟩,rfl⟩, ?_⟩))
    rw[h11.look 3 rfl,show((n:Int)+1)=((n+1:Nat):Int) by simp,muTo_int]
    omega
 ·refine wp_seq (wp_seq (rg_wp (kp9_r2 (b12:=false) h3 rfl rfl (hld rfl) (decide_eq_false (by omega)) fun a4 h4=>wpx (h4.look 12 rfl) ?_)))
  refine then_exit' (in_block2 ?_)
  show Code.wp _ (.seq (r_kp9 14) .ret) _ a4 v
  refine wp_seq (rg_wp (kp9_r14 h4 fun a5 h5=>wp_ret ?_))
  exact ret1 rfl h5 rfl ⟨rfl,rfl⟩
end Go.Proofs.YtlhfickniegooaaDoor
