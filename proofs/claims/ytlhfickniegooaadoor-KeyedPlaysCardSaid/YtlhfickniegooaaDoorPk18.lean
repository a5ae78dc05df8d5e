/-
   Written by an AI agent.
-/
import Derived.Test.YtlhfickniegooaaDoorPk05
import Derived.Test.YtlhfickniegooaaDoorPk17
import Derived.Test.YtlhfickniegooaaDoorPk13
import Derived.Test.YtlhfickniegooaaDoorPk07
namespace Go.Proofs.YtlhfickniegooaaDoor
open Go.RowKit
set_option maxRecDepth 100000
def pH(kind:Int)(type:ByteArray)(n f:Int)(s:ByteArray):Hd:=⟨kind,type,n,f,s,0,0,0,0,[]⟩
def pD(kind:Int)(type:ByteArray)(n f:Int)(s:ByteArray):Dt:=⟨pH kind type n f s,.nil⟩
def m0:Dm:=⟨none,0,none,0⟩
theorem pD_at(kind:Int)(type:ByteArray)(n f:Int)(s:ByteArray)(w:World)(S:Nat->Prop):(pD kind type n f s).at w S m0:=
 ⟨.inl rfl,Nat.zero_le _,capOk.nil,.inl rfl,Nat.zero_le _,capOk.nil⟩
theorem pD_ok{kind:Int}{type:ByteArray}{n f:Int}{s:ByteArray}(h1:okInt kind)(h2:okInt n)(h3:0<=f)(h4:f<=18446744073709551615)(h5:type.size<=140737488351232)(h6:s.size<=140737488351232):(pD kind type n f s).ok where
  h := by
    have z:okInt 0:=by unfold okInt;omega
    exact⟨h1,h2,h3,h4,z,z,z,z,h5,h6,Nat.zero_le _,fun _ _ h=>by cases h⟩
  k:=trivial
  len:=by show(0:Nat)<=_;omega
def intW:ByteArray:=⟨#[105,110,116]⟩
def wholeD(n:Int):Dt:=pD 2 intW n 0 ⟨#[]⟩
def textW:ByteArray:=⟨#[116,101,120,116]⟩
def textD(s:ByteArray):Dt:=pD 4 textW 0 0 s
theorem whole_ok{n:Int}(h:okInt n):(wholeD n).ok:=pD_ok (by unfold okInt;omega) h (by omega) (by omega) (by show(3:Nat)<=_;omega) (by show(0:Nat)<=_;omega)
theorem kwhole_any(n:Int)(w:World):Calls Tryd.prog 8 #[.int .i64 n] w fun e w'=>e=.returned (.agg ((wholeD n).cs m0))/\Below w.heap.size w w':=by
 refine calls_ev (vs:=[.int .i64 n]) 5 Tryd.func8 lw_body (by kernel_rfl) (by simp) fun a0 h0=> ?_
 unfold lwBody
 refine wp_seq (rg_wp (lw_r0 h0 fun a1 h1=> ?_))
 have hZ:=Blk.new w 31 zeroC
 refine wp_seq (rg_wp (lw_r1 h1 rfl rfl (dat_store (d:=wholeD n) (m:=m0) hZ (by show 0+11<=11;omega)) fun a2 h2=>wp_ret ?_))
 exact ret_c rfl h2 rfl (dat_whole (over_dat hZ rfl (wholeD n) m0)) ⟨rfl,below_setCells _ 0 _ (bl_alloc (Below.refl _ _) _) (Nat.le_refl _)⟩
theorem text_ok{s:ByteArray}(h:s.size<=140737488351232):(textD s).ok:=pD_ok (by unfold okInt;omega) (by unfold okInt;omega) (by omega) (by omega) (by show(4:Nat)<=_;omega) h
theorem ktext_any(s:ByteArray)(w:World):Calls Tryd.prog 20 #[.string s] w fun e w'=>e=.returned (.agg ((textD s).cs m0))/\Below w.heap.size w w':=by
 refine calls_ev (vs:=[.string s]) 5 Tryd.func20 lt_body (by kernel_rfl) (by simp) fun a0 h0=> ?_
 unfold ltBody
 refine wp_seq (rg_wp (lt_r0 h0 fun a1 h1=> ?_))
 have hZ:=Blk.new w 31 zeroC
 refine wp_seq (rg_wp (lt_r1 h1 rfl rfl (dat_store (d:=textD s) (m:=m0) hZ (by show 0+11<=11;omega)) fun a2 h2=>wp_ret ?_))
 exact ret_c rfl h2 rfl (dat_whole (over_dat hZ rfl (textD s) m0)) ⟨rfl,below_setCells _ 0 _ (bl_alloc (Below.refl _ _) _) (Nat.le_refl _)⟩
theorem ksame_any{d d':Dt}{m m':Dm}{S T:Nat->Prop}{w:World}(ho:d.ok)(ho':d'.ok)(hd:d.at w S m)(hd':d'.at w T m'):Calls Tryd.prog 13 #[.agg (d.cs m),.agg (d'.cs m')] w fun e w'=>e=.returned (.bool (sameD d.h d.k d'.h d'.k))/\Below w.heap.size w w':=by
 refine calls_ev (vs:=[.agg (d.cs m),.agg (d'.cs m')]) 10 Tryd.func13 ls_body (by kernel_rfl) (by simp) fun a0 h0=> ?_
 unfold lsBody
 refine wp_seq (rg_wp (ls_r0 h0 rfl rfl fun a1 h1=> ?_))
 have hA1:=(Blk.new w 31 (d.cs m)).alloc (.cells (d'.cs m') 31)
 have hZ1:=Blk.new1 w (.cells (d.cs m) 31) 31 (d'.cs m')
 have hb1:=bl_alloc (bl_alloc (Below.refl w.heap.size w) (.cells (d.cs m) 31)) (.cells (d'.cs m') 31)
 have hs1:(w.alloc (.cells (d.cs m) 31)).heap.size=w.heap.size+1:=by simp
 rw[hs1] at h1
 show Code.wp _ _ _ a1 ((w.alloc (.cells (d.cs m) 31)).alloc (.cells (d'.cs m') 31))
 generalize (w.alloc (.cells (d.cs m) 31)).alloc (.cells (d'.cs m') 31)=w1 at hA1 hZ1 hb1 ⊢
 refine wp_seq (rg_wp (ls_r1 h1 rfl rfl (dat_whole hA1) (dat_whole hZ1) (rsame_any d.h d.k d'.h d'.k ho.h ho.k ho.len ho'.h ho'.k w1 S T m.pa m.pc m.ia m.ic m'.pa m'.pc m'.ia m'.ic (hd.old hb1) (hd'.old hb1)) fun a2 w2 hb2 h2=> ?_))
 refine wp_seq (rg_wp (ls_r2 h2 rfl fun a3 h3=>wp_ret ?_))
 exact ret1 rfl h3 rfl ⟨rfl,bl_trans hb1 hb2⟩
end Go.Proofs.YtlhfickniegooaaDoor

namespace Go.Proofs.YtlhfickniegooaaDoor
open Go.RowKit
variable {df:List Deferred}
set_option maxRecDepth 100000
inductive Pl where
 | fin
 | rd (i:Nat) (p:Pl)
 | e1 (j:Nat) (p:Pl)
 | e2 (j:Nat) (p:Pl) (k:Nat) (g:List Giv) (q:Pl)
section
variable {P:Program} {md:Region.Mode} {ops:Array Oper} {C:World->Prop}
def treeB(md:Region.Mode)(ops:Array Oper)(n g:Nat):Pl->Nat->Array Bool->Bool
 | .fin,0,done=>Region.seqB md ops g n done
 | .rd i p,f+1,done=>(Region.ready md ops done).contains i&&decide (i<n)&&Region.free md ops done i&&treeB md ops n g p f (done.setIfInBounds i true)
 | .e1 j p,f+1,done=>decide (Region.ready md ops done=[j])&&decide (j<n)&&treeB md ops n g p f (done.setIfInBounds j true)
 | .e2 j p k _ q,f+1,done=>decide (Region.ready md ops done=[j,k])&&decide (j<n)&&decide (k<n)&&treeB md ops n g p f (done.setIfInBounds j true)&&treeB md ops n g q f (done.setIfInBounds k true)
 | _,_,_=>false
def opWp(P:Program)(ops:Array Oper)(j:Nat)(K:Act->World->Prop)(a:Act)(w:World):Prop:=match ops[j]? with
 | some o=>wpList P ops (outQ K) [o] a w
 | none=>False
def effT(P:Program)(ops:Array Oper)(C:World->Prop)(T:Act->World->Prop):Pl->Act->World->Prop
 | .fin,a,w=>C w/\T a w
 | .rd i p,a,w=>C w/\∃o v,ops[i]? =some o/\Stays P ops C o v a/\effT P ops C T p (a.put o.dst v) w
 | .e1 j p,a,w=>C w/\opWp P ops j (effT P ops C T p) a w
 | .e2 j p k _ q,a,w=>C w/\opWp P ops j (effT P ops C T p) a w/\opWp P ops k (effT P ops C T q) a w
theorem opWp_wpOp{Q:Exit->Act->World->Prop}{j:Nat}{a:Act}{w:World}{K K':Act->World->Prop}(hk: ∀b u,K b u->K' b u)(h:opWp P ops j K a w):wpOp P ops Q j K' a w:=by
 unfold opWp at h
 split at h
 ·rename_i o ho
  exact wpOp_of_list ho hk h
 ·exact h.elim
theorem headC_tree{Q:Exit->Act->World->Prop}{n g:Nat}{T:Act->World->Prop}(hQ: ∀c a b w,Q (.panic c) a w->Q (.panic c) b w)(hsel:Region.noSelect ops=true)(hs:Region.sinkB md ops n=true)(hc:Region.chainB md ops n=true)(hn:n<ops.size)(p:Pl):
    ∀ (f : Nat) (done : Array Bool) (a : Act) (w : World), HeadInv md ops n done → treeB md ops n g p f done = true → effT P ops C T p a w →
      headC P md ops C Q n (fun d a' w'=>Region.seqB md ops g n d=true/\T a' w') f done a w:=by
  induction p with
  | fin=>
    intro f done a w inv hB h
    cases f with
    | zero=>exact⟨h.1,hB,h.2⟩
    | succ f=>simp[treeB] at hB
  | rd i p ih=>
    intro f done a w inv hB h
    cases f with
    | zero=>simp[treeB] at hB
    | succ f=>
      simp only[treeB,Bool.and_eq_true,decide_eq_true_eq] at hB
      obtain⟨⟨⟨hr,hin⟩,hf⟩,hB2⟩:=hB
      have hr2:i∈Region.ready md ops done:=by simpa using hr
      obtain⟨_,o,v,hio,hy,hK⟩:=h
      exact headC_first (fun c a w=>hQ c _ _ w) hio (Region.noSelect_spec hsel) hs hc hn hin (fun d a' w' hd=>seqB_ready hd.1) f done a w inv (Region.free_spec hio hf) hr2 hy
        (ih f _ _ w (inv.set hr2 hin) hB2 hK)
  | e1 j p ih=>
    intro f done a w inv hB h
    cases f with
    | zero=>simp[treeB] at hB
    | succ f=>
      simp only[treeB,Bool.and_eq_true,decide_eq_true_eq] at hB
      obtain⟨⟨hr,hjn⟩,hB2⟩:=hB
      refine⟨h.1,by rw[hr];simp,fun k hk=> ?_⟩
      rw[hr] at hk
      have hij:k=j:=by simpa using hk
      subst hij
      exact⟨hjn,opWp_wpOp (fun b u hb=>ih f _ b u (inv.set (by rw[hr];simp) hjn) hB2 hb) h.2⟩
  | e2 j p k g' q ih ih2=>
    intro f done a w inv hB h
    cases f with
    | zero=>simp[treeB] at hB
    | succ f=>
      simp only[treeB,Bool.and_eq_true,decide_eq_true_eq] at hB
      obtain⟨⟨⟨⟨hr,hjn⟩,hkn⟩,hB2⟩,hB3⟩:=hB
      refine⟨h.1,by rw[hr];simp,fun i hi=> ?_⟩
      rw[hr] at hi
      have hij:i=j\/i=k:=by simpa using hi
      rcases hij with rfl | rfl
      · exact⟨hjn,opWp_wpOp (fun b u hb=>ih f _ b u (inv.set (by rw[hr];simp) hjn) hB2 hb) h.2.1⟩
      · exact⟨hkn,opWp_wpOp (fun b u hb=>ih2 f _ b u (inv.set (by rw[hr];simp) hkn) hB3 hb) h.2.2⟩
end
def treeOk(ops:List Oper)(p:Pl)(n:Nat):Bool:=
 (Region.noSelect ops.toArray&&decide (n<ops.length)&&Region.sinkB .any ops.toArray n&&Region.chainB .any ops.toArray n&&treeB .any ops.toArray n (ops.length-n) p n (Array.replicate ops.length false))
theorem rg_tree{P:Program}{id:Nat}{Q:Exit->Act->World->Prop}{a:Act}{w:World}{l:List Oper}(C:World->Prop)(p:Pl)(n:Nat)(hm:P.follows .mixedOrders=true)(hB:treeOk l p n=true)
  (h:effT P l.toArray C (fun b u=>wpList P l.toArray (outQ (Q .normal)) (l.drop n) b u) p a {w with drawn:=w.drawn+1}):rg P Q a w (.region id l.toArray true):=by
 unfold treeOk at hB
 simp only[Bool.and_eq_true,decide_eq_true_eq] at hB
 obtain⟨⟨⟨⟨hsel,hn⟩,hs⟩,hc⟩,hplan⟩:=hB
 have hn2:n<l.toArray.size:=by simpa using hn
 have inv:HeadInv .any l.toArray n (Array.replicate l.length false):=
  ⟨by simp,fun j oj _ hl=>(by rw[getD_replicate_false] at hl;cases hl),fun t _ ht=>getD_in (by simpa using ht) (getD_replicate_false _ _)⟩
 have H:=headC_tree (P:=P) (md:=.any) (C:=C) (Q:=NoPanic Q) (T:=fun b u=>wpList P l.toArray (outQ (Q .normal)) (l.drop n) b u) (g:=l.length-n) (fun c a b w h=>h) hsel hs hc hn2 p n _ a _ inv hplan h
 refine⟨hm,NoPanic Q,NoPanic.imp, ?_⟩
 have hdl:(l.drop n).length=l.length-n:=by simp
 have:=headC_any (Q:=NoPanic Q) (g:=l.length-n) (fun done a' w' hL=>by
  have hw:wpList P l.toArray (NoPanic Q) (l.drop n) a' w':=wpList_weaken (fun _ _ h=>h) _ a' w' hL.2
  have:=wpAny_of_seq (md:=.any) (Q':=NoPanic Q) (l.drop n) n done a' w' (fun j=>by simp[List.getElem?_drop]) (by rw[hdl];exact hL.1) hw
  rwa [hdl] at this) _ _ a _ H
 rw[show n+(l.length-n)=l.toArray.size by simp;omega] at this
 exact this
def evT(P:Program)(n:Nat)(ops:Array Oper)(C:World->Prop)(K:List (Nat×Value)->World->List Giv->Prop):Pl->List Giv->List (Nat×Value)->World->Prop
 | .fin,g,l,w=>C w/\K l w g
 | .rd i p,g,l,w=>C w/\match ops[i]? with
  | some o=>match o.dst,gdL ops l o with
   | some d,some true=>match decide (d<n) with
    | true=>evOpE P C l o g (fun v g'=>evT P n ops C K p g' ((d,v)::l) w)
    | false=>False
   | _,_=>False
  | none=>False
 | .e1 j p,g,l,w=>C w/\match ops[j]? with
  | some o=>match dstOk n o.dst,gdL ops l o with
   | true,some true=>evOp P l w o g (fun v w' g'=>evT P n ops C K p g' (putL o.dst v l) w')
   | _,_=>False
  | none=>False
 | .e2 j p k g2 q,g,l,w=>C w/\(match ops[j]? with
  | some o=>match dstOk n o.dst,gdL ops l o with
   | true,some true=>evOp P l w o g (fun v w' g'=>evT P n ops C K p g' (putL o.dst v l) w')
   | _,_=>False
  | none=>False)/\(match ops[k]? with
  | some o=>match dstOk n o.dst,gdL ops l o with
   | true,some true=>evOp P l w o g2 (fun v w' g'=>evT P n ops C K q g' (putL o.dst v l) w')
   | _,_=>False
  | none=>False)
theorem evT_wp{P:Program}{n:Nat}{ops:Array Oper}{C:World->Prop}{T:Act->World->Prop}{K:List (Nat×Value)->World->List Giv->Prop}{Fr:Act->Prop}(hFr: ∀(o:Oper) (b:Act) (v:Value),o∈ops->Fr b->Fr (b.put o.dst v))
  (hT: ∀a' l' w' g',a'.tmps.size=n->a'.defers=df->Agr a' l'->Fr a'->K l' w' g'->T a' w'): ∀(p:Pl) (g:List Giv) (l:List (Nat×Value)) (w:World) (a:Act),
  a.tmps.size=n->a.defers=df->Agr a l->Fr a->evT P n ops C K p g l w->effT P ops C T p a w
 | .fin,g,l,w,a,h1,h2,h3,h4,h=>⟨h.1,hT a l w g h1 h2 h3 h4 h.2⟩
 | .rd i p,g,l,w,a,h1,h2,h3,h4,h=>by
  unfold evT at h
  refine⟨h.1, ?_⟩
  have h:=h.2
  split at h
  ·rename_i o ho
   have hmem:o∈ops:=Array.mem_of_getElem? ho
   split at h
   ·rename_i d hd hg
    split at h
    ·rename_i hdn
     have hdn:d<n:=by simpa using hdn
     obtain⟨v,g',hw,hh⟩:=evOpE_stays h3 h
     refine⟨o,v,ho,⟨by rw[gd_wanted h3 hg],⟨d,hd,by rw[h1];exact hdn⟩,hw⟩, ?_⟩
     have hag:Agr (a.put o.dst v) ((d,v)::l):=by
      have:=agr_put (d:=some d) (v:=v) h3 h1 (by simpa[dstOk] using hdn)
      rw[hd]
      exact this
     exact evT_wp hFr hT p g' _ w (a.put o.dst v) ((act_put_size _ _ _).trans h1) ((put_defers _ _ _).trans h2) hag (hFr o a v hmem h4) hh
    ·exact h.elim
   ·exact h.elim
  ·exact h.elim
 | .e1 j p,g,l,w,a,h1,h2,h3,h4,h=>by
  unfold evT at h
  refine⟨h.1, ?_⟩
  have h:=h.2
  unfold opWp
  split at h
  ·rename_i o ho
   have hmem:o∈ops:=Array.mem_of_getElem? ho
   split at h
   ·rename_i hd hg
    refine wpList_step fun N hN=> ?_
    rw[if_pos (by rw[gd_wanted h3 hg])]
    refine evOp_wp h3 h fun v w' g' hh=>hN _ _ ?_
    exact evT_wp hFr hT p g' _ w' (a.put o.dst v) ((act_put_size _ _ _).trans h1) ((put_defers _ _ _).trans h2) (agr_put h3 h1 hd) (hFr o a v hmem h4) hh
   ·exact h.elim
  ·exact h.elim
 | .e2 j p k g2 q,g,l,w,a,h1,h2,h3,h4,h=>by
  unfold evT at h
  obtain⟨hC,hA,hB⟩:=h
  refine⟨hC, ?_, ?_⟩
  ·unfold opWp
   split at hA
   ·rename_i o ho
    have hmem:o∈ops:=Array.mem_of_getElem? ho
    split at hA
    ·rename_i hd hg
     refine wpList_step fun N hN=> ?_
     rw[if_pos (by rw[gd_wanted h3 hg])]
     refine evOp_wp h3 hA fun v w' g' hh=>hN _ _ ?_
     exact evT_wp hFr hT p g' _ w' (a.put o.dst v) ((act_put_size _ _ _).trans h1) ((put_defers _ _ _).trans h2) (agr_put h3 h1 hd) (hFr o a v hmem h4) hh
    ·exact hA.elim
   ·exact hA.elim
  ·unfold opWp
   split at hB
   ·rename_i o ho
    have hmem:o∈ops:=Array.mem_of_getElem? ho
    split at hB
    ·rename_i hd hg
     refine wpList_step fun N hN=> ?_
     rw[if_pos (by rw[gd_wanted h3 hg])]
     refine evOp_wp h3 hB fun v w' g' hh=>hN _ _ ?_
     exact evT_wp hFr hT q g' _ w' (a.put o.dst v) ((act_put_size _ _ _).trans h1) ((put_defers _ _ _).trans h2) (agr_put h3 h1 hd) (hFr o a v hmem h4) hh
    ·exact hB.elim
   ·exact hB.elim
def evCR(P:Program)(n k:Nat)(p:Pl)(ds:List Nat)(C:World->Prop)(g:List Giv)(l0:List (Nat×Value))(w:World)(K:List (Nat×Value)->World->Prop):Code->Prop
 | .region _ ⟨ops⟩ true=>match dstIn ds ops,P.follows .mixedOrders,treeOk ops p k with
  | true,true,true=>evT P n ⟨ops⟩ C (fun l2 w2 g3=>evL P n ⟨ops⟩ (ops.drop k) g3 l2 w2 K) p g l0 (w.drewN 1)
  | _,_,_=>False
 | _=>False
theorem regR{P:Program}{n:Nat}{a:Act}{w:World}{l l0:List (Nat×Value)}{c:Code}{N:Act->World->Prop}{Q:Exit->Act->World->Prop}{T:Prop}(k:Nat)(p:Pl)(C:World->Prop)(keep ds:List Nat)(g:List Giv)(hs:Sl n a l df)(h0:AllL l l0)(hT:T)
  (he:T=evCR P n k p ds C g l0 w (fun l1 w'=> ∀a',Sl n a' (outL keep l1 (dropL ds l)) df->N a' w') c):rg P (Exit.then N Q) a w c:=by
 rw[he] at hT
 unfold evCR at hT
 split at hT
 ·rename_i id ops
  split at hT
  ·rename_i hd hm hB
   have hno: ∀p∈dropL ds l,∀o∈ops,o.dst≠some p.1:=fun p hp o ho e=>by
    obtain⟨_,hp2⟩:=List.mem_filter.1 hp
    exact dstIn_spec hd p.1 (by simpa using hp2) (List.mem_map.2 ⟨o,ho,e⟩)
   refine rg_tree C p k hm hB ?_
   refine evT_wp (df:=df) (Fr:=fun b=> ∀p∈dropL ds l,slot b p.1=p.2) (fun o b v ho hb p hp=>(put_slot b _ v p.1 (hno p hp o (by simpa using ho))).trans (hb p hp)) ?_ p g l0 _ a hs.size hs.defers (hs.to h0).agr (fun p hp=>hs.known p (List.mem_filter.1 hp).1) hT
   intro a2 l2 w2 g3 r1 r2 r3 r4 r5
   refine evL_wp (ops.drop k) g3 l2 w2 _ a2 r1 r2 r3 r5 ?_
   intro a' l' w' q1 q2 q3 q4 q5
   refine q5 a' (outL_sl q3 keep ⟨q1,q2,fun p hp=> ?_⟩)
   have hn:=hno p hp
   rw[q4 p.1 (fun hm=>by obtain⟨o,ho,e⟩:=List.mem_map.1 hm;exact hn o (List.mem_of_mem_drop ho) e)]
   exact r4 p hp
  ·exact hT.elim
 ·exact hT.elim
end Go.Proofs.YtlhfickniegooaaDoor

namespace Go.Proofs.YtlhfickniegooaaDoor
open Go.RowKit
set_option maxRecDepth 100000
structure Re where
 k:Dt
 v:Dt
 dk:Dm
 dv:Dm
 n:Int
def reA(k v:Dt)(mk mv:Dm)(n:Int):Array Value:=⟨[.int .i64 k.h.kind,.string k.h.type,.int .i64 k.h.n,.int .u64 k.h.f,.string k.h.s,.int .i64 k.h.obj,.int .i64 k.h.frm,.int .i64 k.h.len,.int .i64 k.h.cap,.slice mk.pa k.h.path.length mk.pc,.slice mk.ia k.k.len mk.ic,
 .int .i64 v.h.kind,.string v.h.type,.int .i64 v.h.n,.int .u64 v.h.f,.string v.h.s,.int .i64 v.h.obj,.int .i64 v.h.frm,.int .i64 v.h.len,.int .i64 v.h.cap,.slice mv.pa v.h.path.length mv.pc,.slice mv.ia v.k.len mv.ic,.int .i64 n]⟩
def Re.cs(r:Re):Array Value:=reA r.k r.v r.dk r.dv r.n
end Go.Proofs.YtlhfickniegooaaDoor
