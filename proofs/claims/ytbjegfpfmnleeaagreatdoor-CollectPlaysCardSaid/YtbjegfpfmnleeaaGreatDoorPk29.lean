/-
   Written by an AI agent.
-/
import Derived.Test.YtbjegfpfmnleeaaGreatDoorPk15
import Derived.Test.YtbjegfpfmnleeaaGreatDoorPk28
namespace Go.Proofs.YtbjegfpfmnleeaaGreatDoor
open Go.RowKit Go.Maps
set_option maxRecDepth 100000
theorem Eq8{a:Int}(h1: -9223372036854775807<=a)(h2:a<=9223372036854775807)(w:World):(Op.unary .neg (ii a)).run Tryz.prog w=.ok (ii (-a)) w:=by
 have hw:IntKind.i64.wrap (-a)= -a:=Cw ⟨by simp[IntKind.min,IntKind.signed,IntKind.bits];omega,by simp[IntKind.max,IntKind.signed,IntKind.bits];omega⟩
 have e:(0:Int)-a= -a:=by omega
 simp[Op.unary,Op.intArith,e,hw]
theorem Bs1{a b:Nat}(h1:a<=9223372036854775807)(hb:0<b)(w:World):(binOp .rem 3 (ii (a:Int)) (ii (b:Int))).run Tryz.prog w=.ok (ii ((a % b:Nat):Int)) w:=by
 have e:(a:Int).tmod (b:Int)=((a % b:Nat):Int):=by rw[Int.tmod_eq_emod_of_nonneg Zo];exact(Int.natCast_emod _ _).symm
 have h3:a % b<=a:=Nat.mod_le _ _
 have hw:IntKind.i64.wrap ((a % b:Nat):Int)=((a % b:Nat):Int):=Cw ⟨by simp only[IntKind.min,IntKind.signed,IntKind.bits];simp;omega,by simp only[IntKind.max,IntKind.signed,IntKind.bits];simp;omega⟩
 have hb': ¬(b:Int)=0:=by omega
 simp only[binOp,Op.intArith,Op.intDiv]
 simp only[hb',if_false,e,hw]
 simp
def Bs2(c:Int):Nat:=(if c<0 then-(c+1) else c).toNat
def M9(c:Int)(n:Nat):Nat:=Bs2 c % n
theorem Bs3{c:Int}(hc:F8 c):Bs2 c<=9223372036854775807:=by
 unfold Bs2
 have h1:=hc.1
 have h2:=hc.2
 split<;>omega
theorem N9{c:Int}(hc:F8 c){n:Nat}(hn:0<n)(w:World):Calls Tryz.prog 10 #[ii c,ii (n:Int)] w fun e w'=>e=.returned (ii ((M9 c n:Nat):Int))/\w'=w:=by
 have h1':=hc.1
 have h2':=hc.2
 refine B6 (vs:=[ii c,ii (n:Int)]) 13 Tryz.func10 Bq6 Zk (by simp) fun a0 h0=> ?_
 unfold Ba0
 refine Zs (Ek8 h0 fun a1 h1=> ?_)
 have hr:=Bs3 hc
 by_cases hz:c<0
 ·have e: -(c+1)=((Bs2 c:Nat):Int):=by unfold Bs2;rw[if_pos hz];omega
  refine wp_seq (Zs (Cw2 (b6:=true) h1 rfl (decide_eq_true hz) fun a2 h2=>wp_cond_true (h2.look 6 rfl) ?_))
  refine Zl (Ek9 (v9:= -(c+1)) h2 rfl Zo (fun w=>Eq8 Zo Zo w) fun a3 h3=> ?_)
  rw[e] at h3
  refine Zs (Cw3 (v12:=((M9 c n:Nat):Int)) h3 rfl rfl (fun w=>Bs1 hr hn w) fun a4 h4=>wp_ret ?_)
  exact G7 rfl h4 rfl ⟨rfl,rfl⟩
 ·have e:c=((Bs2 c:Nat):Int):=by unfold Bs2;rw[if_neg hz];omega
  refine wp_seq (Zs (Cw2 (b6:=false) h1 rfl (decide_eq_false hz) fun a2 h2=>B9 (h2.look 6 rfl) ?_))
  refine Zs (Cw3 (c:=c) (v12:=((M9 c n:Nat):Int)) h2 rfl rfl (fun w=>by have:=Bs1 hr hn w;rw[<-e] at this;exact this) fun a4 h4=>wp_ret ?_)
  exact G7 rfl h4 rfl ⟨rfl,rfl⟩
theorem Db{c:Int}{n:Nat}(hn:0<n):M9 c n<n:=Nat.mod_lt _ hn
theorem Ap(n:Nat)(w:World):Calls Tryz.prog 42 #[ii (n:Int)] w fun e w'=>e=.returned (.agg ((Fd.num n).dt.cs dm0))/\Below w.heap.size w w':=by
 refine B6 (vs:=[ii (n:Int)]) 5 Tryz.func42 Bq7 Zk (by simp) fun a0 h0=> ?_
 unfold Ba1
 refine Zs (El0 h0 fun a1 h1=> ?_)
 have hX:=Q8 (w:=w) (Fd.num n).dt dm0
 have hZ:=Blk.new w C7 zA
 refine Zs (El1 h1 rfl rfl (D1 (d:=(Fd.num n).dt) (m:=dm0) hZ (by show 0+11<=11;omega)) fun a2 h2=>wp_ret ?_)
 change bodyPost _ _ _ _ a2 ((w.alloc (.cells zA C7)).setCells w.heap.size 0 ((Fd.num n).dt.cs dm0).toList)
 exact Gy rfl h2 rfl (C6 hX.1 rfl) ⟨rfl,hX.2⟩
structure St where
 last:Nat
 T:Tm
 X:List Fd
 Ks:List Int
abbrev Lv:TypeId:=37
structure StOk (σ:St):Prop where
 len:σ.X.length=σ.Ks.length
 far:σ.X.length<=80
 last:σ.last<=σ.X.length
 ok: ∀x,x∈σ.X->x.ok
 tok: ∀i t,(i,t)∈σ.T->t.ok
structure Wd (B:Nat) (w:World) (wp gh:Nat) (O:Nat->Prop) (σ:St) (sd sk:S3):Prop where
 blk:Blk w wp Lv #[pT gh,.slice sd.d sd.n sd.c,.slice sk.d sk.n sk.c]
 hs:HS B w gh O σ.last σ.T
 data:RowN B w sd σ.X
 kinds:ZRow w B sk σ.Ks
 lo:B<=wp
 o1: ¬O wp
 o2: ∀g,sd.v.ownBlock=some g->¬O g
 o3: ∀g,sk.v.ownBlock=some g->¬O g
 ok:StOk σ
def WdO(wp:Nat)(O:Nat->Prop)(sd sk:S3)(b:Nat):Prop:=b=wp\/O b\/sd.v.ownBlock=some b\/sk.v.ownBlock=some b
section
variable {B:Nat} {w:World} {wp gh:Nat} {O:Nat->Prop} {σ:St} {sd sk:S3}
theorem Wd.lim(h:Wd B w wp gh O σ sd sk){b:Nat}(hb:WdO wp O sd sk b):B<=b/\b<w.heap.size:=by
 rcases hb with rfl | hb | hb | hb
 ·exact⟨h.lo,h.blk.lt⟩
 ·exact h.hs.lim b hb
 ·exact ARow.block h.data hb
 ·exact ARow.block h.kinds hb
theorem Wd.keep{w':World}(h:Wd B w wp gh O σ sd sk)(hs:w.heap.size<=w'.heap.size)(hk: ∀b,WdO wp O sd sk b->w'.heap[b]? =w.heap[b]?):Wd B w' wp gh O σ sd sk:=
 ⟨(hk _ (.inl rfl)).trans h.blk,h.hs.keep hs fun b hb=>hk b (.inr (.inl hb)),ARow.keep h.data fun g hg=>hk g (.inr (.inr (.inl hg))),ARow.keep h.kinds fun g hg=>hk g (.inr (.inr (.inr hg))),h.lo,h.o1,h.o2,h.o3,h.ok⟩
theorem Wd.old{w':World}(h:Wd B w wp gh O σ sd sk)(hb:Below w.heap.size w w'):Wd B w' wp gh O σ sd sk:=h.keep hb.size fun b hO=>hb.block b (h.lim hO).2
theorem Wd.lh(h:Wd B w wp gh O σ sd sk):Lds Tryz.prog 35 (pT wp) (pT gh) w:=A9 h.blk Tryz.underlying35 rfl rfl
theorem Wd.ld(h:Wd B w wp gh O σ sd sk):Lds Tryz.prog 23 (.pointer (some ⟨wp,1,none⟩)) (.slice sd.d sd.n sd.c) w:=A9 h.blk Tryz.underlying23 rfl rfl
theorem Wd.lk(h:Wd B w wp gh O σ sd sk):Lds Tryz.prog 24 (.pointer (some ⟨wp,2,none⟩)) (.slice sk.d sk.n sk.c) w:=A9 h.blk Tryz.underlying24 rfl rfl
def I2(X:List Fd)(c:Int):Fd:=
 let n:=M9 c (X.length+2)
 if n=0 then .nil else if X.length<n then .num n else X[n-1]?.getD .nil
theorem Hi{X:List Fd}(hX: ∀x,x∈X->x.ok)(hl:X.length<=80)(c:Int):(I2 X c).ok:=by
 unfold I2
 have hp:M9 c (X.length+2)<X.length+2:=Db Zo
 dsimp only
 split
 ·trivial
 ·split
  ·show F8 _
   exact Em _ Zo
  ·cases hx:X[M9 c (X.length+2)-1]? with
   | none=>trivial
   | some x=>exact hX x (List.mem_of_getElem? hx)
theorem Y9(hbk:Blk w wp Lv #[pT gh,.slice sd.d sd.n sd.c,.slice sk.d sk.n sk.c])(hdt:RowN B w sd σ.X)(hl:σ.X.length<=80){c:Int}(hc:F8 c):Calls Tryz.prog 22 #[pT wp,ii c] w fun e w'=>e=.returned (.agg ((I2 σ.X c).dt.cs dm0))/\Below w.heap.size w w':=by
 refine B6 (vs:=[pT wp,ii c]) 34 Tryz.func22 Bq8 Zk (by simp) fun a0 h0=> ?_
 unfold Ba2
 have hsn:sd.n=σ.X.length:=hdt.1
 refine Zs (El2 h0 fun a1 h1=> ?_)
 have hZ:=Blk.new w C7 zA
 have hb1:Below w.heap.size w (w.alloc (.cells zA C7)):=B2 (Below.refl _ _) _
 change Code.wp _ _ _ a1 (w.alloc (.cells zA C7))
 generalize w.alloc (.cells zA C7)=u at hZ hb1 ⊢
 have hzZ:=hZ.lt
 have hbk':=hbk.below hb1 hbk.lt
 have hdt':RowN B u sd σ.X:=hdt.old hb1
 have h'ld:Lds Tryz.prog 23 (.pointer (some ⟨wp,1,none⟩)) (.slice sd.d sd.n sd.c) u:=A9 hbk' Tryz.underlying23 rfl rfl
 obtain⟨n,hn⟩: ∃n,n=M9 c (σ.X.length+2):=⟨_,rfl⟩
 have hp:n<σ.X.length+2:=by rw[hn];exact Db Zo
 have hpk:=N9 hc (n:=σ.X.length+2) Zo u
 rw[<-hn] at hpk
 refine Zs (El3 (n:=n) (C0:=fun v=>v=u) h1 rfl rfl h'ld Zo (by rw[hsn];exact hpk) fun a2 v hv h2=> ?_)
 subst hv
 have hd:I2 σ.X c=if n=0 then .nil else if σ.X.length<n then .num n else σ.X[n-1]?.getD .nil:=by rw[hn];rfl
 by_cases h0':n=0
 ·refine wp_seq (Zs (Cw4 (b15:=true) h2 rfl (decide_eq_true Zo) fun a3 h3=>wp_cond_true (h3.look 15 rfl) ?_))
  refine Zs (El4 h3 rfl (D1 (d:=Fd.nil.dt) (m:=dm0) hZ (by show 0+11<=11;omega)) fun a4 h4=>wp_ret ?_)
  have hF:=K1 Fd.nil.dt dm0 hZ
  rw[hd,if_pos h0']
  refine D2 (Gy rfl h4 rfl (C6 hF rfl) ⟨rfl,C8 _ 0 _ hb1 (Nat.le_refl _)⟩)
 ·refine wp_seq (Zs (Cw4 (b15:=false) h2 rfl (decide_eq_false Zo) fun a3 h3=>B9 (h3.look 15 rfl) ?_))
  by_cases hlt:σ.X.length<n
  ·refine wp_seq (Zs (Cw5 (b23:=true) h3 rfl rfl h'ld (decide_eq_true (by rw[hsn];omega)) fun a4 h4=>wp_cond_true (h4.look 23 rfl) ?_))
   refine Zs (El5 (d:=(Fd.num n).dt) (m:=dm0) (C0:=fun x=>Below v.heap.size v x) h4 rfl rfl (Ap n v) (fun x hx=>D1 (hZ.below hx hzZ) (by show 0+11<=11;omega)) fun a5 x hx h5=>wp_ret ?_)
   have hF:=K1 (Fd.num n).dt dm0 (hZ.below hx hzZ)
   rw[hd,if_neg h0',if_pos hlt]
   exact D2 (Gy rfl h5 rfl (C6 hF rfl) ⟨rfl,C8 _ 0 _ (A7 hb1 hx) (Nat.le_refl _)⟩)
  ·refine wp_seq (Zs (Cw5 (b23:=false) h3 rfl rfl h'ld (decide_eq_false (by rw[hsn];omega)) fun a4 h4=>B9 (h4.look 23 rfl) ?_))
   have hj:n-1<σ.X.length:=by omega
   obtain⟨x,hx⟩: ∃x,σ.X[n-1]? =some x:=⟨σ.X[n-1],List.getElem?_eq_getElem hj⟩
   obtain⟨q,hq,_,_,hld⟩:=(RowN.row hdt').1.load hx
   have hdl:=h'ld
   rw[hq] at hdl
   refine Zs (El6 (d:=x.dt) (m:=dm0) h4 rfl rfl rfl hdl Zo (fun w=>by rw[show((n:Int)-1)=((n-1:Nat):Int) by omega];exact Q7 Zo w) hld (D1 hZ (by show 0+11<=11;omega)) fun a5 h5=>wp_ret ?_)
   have hF:=K1 x.dt dm0 hZ
   rw[hd,if_neg h0',if_neg hlt,hx]
   exact Gy rfl h5 rfl (C6 hF rfl) ⟨rfl,C8 _ 0 _ hb1 (Nat.le_refl _)⟩
theorem M3(h:Wd B w wp gh O σ sd sk){c:Int}(hc:F8 c):Calls Tryz.prog 22 #[pT wp,ii c] w fun e w'=>e=.returned (.agg ((I2 σ.X c).dt.cs dm0))/\Below w.heap.size w w':=Y9 h.blk h.data h.ok.far hc
theorem Dc(h:Wd B w wp gh O σ sd sk){c d:Int}(hc:F8 c)(hd:F8 d):Calls Tryz.prog 49 #[pT wp,ii c,ii d] w fun e w'=> ∃q:Dm,e=.returned (.agg ((pr (I2 σ.X c) (I2 σ.X d)).cs q))/\((∃g,q=⟨none,0,some ⟨g,0,none⟩,2⟩/\w.heap.size<=g/\RowX w' (fun b=>b<w'.heap.size) (some ⟨g,0,none⟩) [I2 σ.X c,I2 σ.X d])/\Below w.heap.size w w'):=by
  refine B6 (vs:=[pT wp,ii c,ii d]) 15 Tryz.func49 Bq9 Zk (by simp) fun a0 h0=> ?_
  unfold Ba3
  refine Zs (El7 h0 fun a1 h1=> ?_)
  have hZ:=Blk.new w C7 zA
  have hb1:Below w.heap.size w (w.alloc (.cells zA C7)):=B2 (Below.refl _ _) _
  change Code.wp _ _ _ a1 (w.alloc (.cells zA C7))
  generalize w.alloc (.cells zA C7)=u at hZ hb1 ⊢
  have hzZ:=hZ.lt
  have h':=h.old hb1
  obtain⟨x,hx⟩: ∃x,x=I2 σ.X c:=⟨_,rfl⟩
  obtain⟨y,hy⟩: ∃y,y=I2 σ.X d:=⟨_,rfl⟩
  have k0:=M3 h' hc
  rw[<-hx] at k0 ⊢
  rw[<-hy]
  refine Zs (El8 (x:=x.dt) (mx:=dm0) (y:=y.dt) (my:=dm0) (C0:=fun v=>Below u.heap.size u v) (C1:=fun v=>Below u.heap.size u v) h1 rfl rfl rfl rfl k0 (fun v hv=>by
    have:=M3 (h'.old hv) hd
    rw[<-hy] at this
    exact this.mono fun e v' hh=>⟨hh.1,A7 hv hh.2⟩) (fun v hv v2 hv2=>D1 (d:=pr x y) (m:=⟨none,0,some ⟨v2.heap.size,0,none⟩,2⟩) ((hZ.below hv2 hzZ).alloc _) (by show 0+11<=11;omega)) fun a2 v v2 hv hv2 h2=>wp_ret ?_)
  have hz2:=hv2.size
  have hb2:Below w.heap.size w v2:=A7 hb1 hv2
  have hR:=Blk.new v2 C7 (((x.dt.cs dm0).toList++(y.dt.cs dm0).toList).toArray)
  have hF:=K1 (pr x y) ⟨none,0,some ⟨v2.heap.size,0,none⟩,2⟩ ((hZ.below hv2 hzZ).alloc (.cells (((x.dt.cs dm0).toList++(y.dt.cs dm0).toList).toArray) C7))
  change bodyPost _ _ _ _ a2 ((v2.alloc (.cells (((x.dt.cs dm0).toList++(y.dt.cs dm0).toList).toArray) C7)).setCells w.heap.size 0 ((pr x y).cs ⟨none,0,some ⟨v2.heap.size,0,none⟩,2⟩).toList)
  have hlt:=hb1.size
  have hwv:w.heap.size<v2.heap.size:=by omega
  refine Gy rfl h2 rfl (C6 hF rfl) ⟨_,rfl,⟨v2.heap.size,rfl,Zo,.inr ⟨v2.heap.size,_,rfl, ?_,Blk.farL (Ne.symm Zo) _ _ _ hR,by simp[Dt.cs,Hd.cells],fun j z hz=> ?_⟩⟩,C8 _ 0 _ (B2 hb2 _) (Nat.le_refl _)⟩
  · rw[B7]
    simp
  · match j,hz with
    | 0, hz => obtain rfl : x = z := by simpa using hz
               simp[Dt.cs,Hd.cells]
    | 1, hz => obtain rfl : y = z := by simpa using hz
               simp[Dt.cs,Hd.cells]
def Cd7(Ks:List Int)(p:Nat)(k:Int):Nat->Nat->Nat
 | 0,_=>0
 | f+1,i=>if Ks[(p+i) % Ks.length]? =some k then(p+i) % Ks.length+1 else Cd7 Ks p k f (i+1)
def U7(Ks:List Int)(c:Int)(k:Int):Nat:=if Ks.length=0 then 0 else Cd7 Ks (M9 c Ks.length) k Ks.length 0
theorem Xi(Ks:List Int)(p:Nat)(k:Int)(h0:0<Ks.length): ∀(f i:Nat),Cd7 Ks p k f i<=Ks.length
 | 0,_=>Nat.zero_le _
 | f+1,i=>by
  unfold Cd7
  split
  ·exact Nat.mod_lt _ h0
  ·exact Xi Ks p k h0 f (i+1)
theorem V9(Ks:List Int)(c k:Int):U7 Ks c k<=Ks.length:=by
 unfold U7
 split
 ·exact Nat.zero_le _
 ·exact Xi _ _ _ Zo _ _
set_option maxHeartbeats 1000000 in
theorem Z3(h:Wd B w wp gh O σ sd sk){c k:Int}(hc:F8 c):Calls Tryz.prog 44 #[pT wp,ii c,ii k] w fun e w'=>e=.returned (ii ((U7 σ.Ks c k:Nat):Int))/\Below w.heap.size w w':=by
 refine B6 (vs:=[pT wp,ii c,ii k]) 44 Tryz.func44 Br0 Zk (by simp) fun a0 h0=> ?_
 unfold Ba4
 have hl:=h.ok.far
 have hlk:=h.ok.len
 have hsn:sk.n=σ.Ks.length:=h.kinds.1
 refine Zs (El9 h0 fun a1 h1=> ?_)
 refine wp_seq (Zs (Em0 h1 fun a2 h2=> ?_))
 refine wp_block ?_
 refine wp_loop (fun a' wr=> ∃i:Nat,i<=σ.Ks.length/\Sl 44 a' [(7,ii (i:Int)),(0,pT wp),(1,ii c),(2,ii k)]/\Below w.heap.size w wr/\(0<σ.Ks.length->U7 σ.Ks c k=Cd7 σ.Ks (M9 c σ.Ks.length) k (σ.Ks.length-i) i)) (fun a' _=>G1 σ.Ks.length (F9 a' 7))
  ⟨0,Nat.zero_le _,h2.to ⟨rfl,rfl,rfl,rfl,trivial⟩,Below.refl _ _,fun h0=>by unfold U7;rw[if_neg Zo];rfl⟩ ?_
 rintro a3 w3 ⟨i,hi,h3,hb3,hnum⟩
 rw[h3.look 7 rfl,B4]
 unfold Ev1
 have h':=h.old hb3
 by_cases hlt:i<σ.Ks.length
 ·refine wp_seq (Zs (Cw6 (b15:=true) h3 rfl rfl h'.lk (decide_eq_true (by rw[hsn];omega)) fun a4 h4=>wpn (h4.look 15 rfl) ?_))
  have hK0:0<σ.Ks.length:=by omega
  have hnum:=hnum hK0
  obtain⟨p,hp⟩: ∃p,p=M9 c σ.Ks.length:=⟨_,rfl⟩
  have hpl:p<σ.Ks.length:=by rw[hp];exact Db hK0
  rw[<-hp] at hnum
  obtain⟨q,hq⟩: ∃q,q=(p+i) % σ.Ks.length:=⟨_,rfl⟩
  have hql:q<σ.Ks.length:=by rw[hq];exact Nat.mod_lt _ hK0
  have hpk: ∀v,Calls Tryz.prog 10 #[ii c,ii (sk.n:Int)] v fun e w'=>e=.returned (ii (p:Int))/\w'=v:=fun v=>by
   have:=N9 hc (n:=σ.Ks.length) hK0 v
   rw[<-hp] at this
   rw[hsn]
   exact this
  refine wp_seq (wp_block ?_)
  refine Zs (Em2 (p:=p) (v32:=(q:Int)) h4 rfl rfl rfl h'.lk (fun mm=>(hpk _).mono fun e w' hh=>⟨hh.1,mm,hh.2⟩) Zo (fun w=>by
   have:=Bs1 (a:=p+i) (b:=σ.Ks.length) Zo hK0 w
   rw[<-hq] at this
   rw[hsn,show((p:Int)+(i:Int))=((p+i:Nat):Int) by omega]
   exact this) fun a5 md h5=> ?_)
  obtain⟨x,hx⟩: ∃x,σ.Ks[q]? =some x:=⟨σ.Ks[q],List.getElem?_eq_getElem hql⟩
  have hbd:Below w3.heap.size w3 (w3.drewN md):=B3 (Below.refl _ _) _
  have h5':=h'.old hbd
  have hb5:=A7 hb3 hbd
  obtain⟨g,hkd,hkn,hcl⟩:=ZRow.get h5'.kinds hx
  have hkl:=h5'.lk
  rw[hkd] at hkl
  obtain⟨f,hf⟩: ∃f,σ.Ks.length-i=f+1:=⟨σ.Ks.length-i-1,Zo⟩
  rw[hf] at hnum
  unfold Cd7 at hnum
  rw[<-hq,hx] at hnum
  by_cases hxk:x=k
  ·refine Zs (Cw7 (n:=q) (x:=x) (b41:=true) h5 rfl rfl rfl hkl (fun w=>D7 Zo w) (H9 Tryz.underlying3 rfl hcl) (decide_eq_true hxk) fun a6 h6=>wp_cond_true (h6.look 41 rfl) ?_)
   refine Zs (Em3 (n:=q) h6 rfl Zo fun a7 h7=>wp_ret ?_)
   rw[if_pos (by rw[hxk])] at hnum
   have e7:U7 σ.Ks c k=q+1:=hnum
   rw[e7]
   repeat (first | with_reducible refine D2 ?_ | with_reducible refine F1 ?_)
   exact G7 rfl h7 rfl ⟨rfl,hb5⟩
  ·refine Zs (Cw7 (n:=q) (x:=x) (b41:=false) h5 rfl rfl rfl hkl (fun w=>D7 Zo w) (H9 Tryz.underlying3 rfl hcl) (decide_eq_false hxk) fun a6 h6=>B9 (h6.look 41 rfl) (B1 ?_))
   rw[if_neg (by simpa using hxk)] at hnum
   show Code.wp _ (Kh 3) _ a6 _
   refine Zl (Em1 h6 rfl Zo fun a7 h7=>⟨⟨i+1,hlt,h7.to ⟨rfl,rfl,rfl,rfl,trivial⟩,hb5,fun _=> ?_⟩, ?_⟩)
   ·rw[hnum,<-hp,show σ.Ks.length-(i+1)=f by omega]
   ·rw[h7.look 7 rfl]
    show G1 σ.Ks.length (ii ((i+1:Nat):Int))<_
    rw[B4]
    omega
 ·refine wp_seq (Zs (Cw6 (b15:=false) h3 rfl rfl h'.lk (decide_eq_false (by rw[hsn];omega)) fun a4 h4=>C9 (h4.look 15 rfl) ?_))
  refine A8 (A8 (B8 ?_))
  refine Zs (Em4 h4 fun a5 h5=>wp_ret ?_)
  refine G7 rfl h5 rfl ⟨?_,hb3⟩
  obtain rfl:i=σ.Ks.length:=by omega
  have:U7 σ.Ks c k=0:=by
   rcases Nat.eq_zero_or_pos σ.Ks.length with h0 | h0
   ·unfold U7;rw[if_pos h0]
   ·rw[hnum h0,Nat.sub_self];rfl
  rw[this]
  rfl
end
def HR(u0:Nat)(B:Nat)(w v:World)(gh:Nat)(O:Nat->Prop)(n:Nat)(T':Tm):Prop:= ∃O',HS B v gh O' n T'/\Moved O w v/\(∀b,O b->O' b)/\(∀b,O' b->O b\/u0<=b)
theorem HR.of{B:Nat}{w u v:World}{gh:Nat}{O:Nat->Prop}{n:Nat}{T':Tm}(hb:Below w.heap.size w u)(h:HQ B u v gh O n T'):HR u.heap.size B w v gh O n T':=by
 obtain⟨O',h1,h2,h3,h4⟩:=h
 exact⟨O',h1,(Moved.of_below hb).trans (h2.more fun _ h=>.inl h),h3,h4⟩
theorem HR.set{u0 B:Nat}{w v:World}{gh:Nat}{O:Nat->Prop}{n:Nat}{T':Tm}(h:HR u0 B w v gh O n T'){g:Nat}(hg:w.heap.size<=g)(hg2:g<u0)(hl: ∀b,O b->b<w.heap.size)(o:Nat)(vs:List Value):HR u0 B w (v.setCells g o vs) gh O n T':=by
 obtain⟨O',h1,h2,h3,h4⟩:=h
 refine⟨O',h1.keep (by rw[B7];exact Nat.le_refl _) fun x hx=>B5 _ _ _ fun e=> ?_,h2.set (.inr hg) _ _,h3,h4⟩
 subst e
 rcases h4 _ hx with q | q
 ·have:=hl _ q
  omega
 ·omega
theorem HR.hq{u0 B:Nat}{w v:World}{gh:Nat}{O:Nat->Prop}{n:Nat}{T':Tm}(h:HR u0 B w v gh O n T')(hu:w.heap.size<=u0):HQ B w v gh O n T':=by
 obtain⟨O',h1,h2,h3,h4⟩:=h
 exact⟨O',h1,h2,h3,fun b hb=>(h4 b hb).imp_right fun q=>by omega⟩
theorem HR.old{u0 B:Nat}{w v v2:World}{gh:Nat}{O:Nat->Prop}{n:Nat}{T':Tm}(h:HR u0 B w v gh O n T')(hb:Below v.heap.size v v2):HR u0 B w v2 gh O n T':=by
 obtain⟨O',h1,h2,h3,h4⟩:=h
 exact⟨O',h1.old hb,h2.trans ((Moved.of_below hb).more fun b hb=>.inl hb),h3,h4⟩
theorem HR.then{u0 B:Nat}{w v v3:World}{gh:Nat}{O O1:Nat->Prop}{n:Nat}{T':Tm}(hM:Moved O w v)(o1: ∀b,O b->O1 b)(o2: ∀b,O1 b->O b\/u0<=b)(hu:u0<=v.heap.size)(hw:w.heap.size<=u0)(k:HQ B v v3 gh O1 n T'):HR u0 B w v3 gh O n T':=by
 obtain⟨O2,k1,k2,k3,k4⟩:=k
 exact⟨O2,k1,hM.trans (k2.more fun b hb=>(o2 b hb).imp_right fun q=>by omega),fun b hb=>k3 b (o1 b hb),fun b hb=>(k4 b hb).elim (o2 b) fun q=>.inr Zo⟩
def Bb4(Ks:List Int)(a:Int):List Nat:=if 0<U7 Ks a 4 then[U7 Ks a 4] else[]
def K2(σ:St)(k a b c:Int):Nat×Tm×Fd:=
 if k=1 then(σ.last+1,σ.T++[(σ.last+1,.obj (I2 σ.X a) (I2 σ.X b))],.ref 1 (σ.last+1))
 else if k=2 then(σ.last+1,σ.T++[(σ.last+1,.arr (I2 σ.X a) (I2 σ.X b))],.ref 2 (σ.last+1))
 else if k=3 then(σ.last+1,Sm (σ.T++[(σ.last+1,.tab [])]) (.ref 3 (σ.last+1)) (I2 σ.X b) (I2 σ.X a),.ref 3 (σ.last+1))
 else if k=4 then(σ.last+1,σ.T++[(σ.last+1,.box (I2 σ.X a))],.num ((σ.last+1:Nat):Int))
 else if k=5 then(if S1 σ.T (Bb4 σ.Ks a) then(σ.last+1,σ.T++[(σ.last+1,.fn (M9 c 9) (zBx (Bb4 σ.Ks a)) (I2 σ.X b))],.ref 5 (σ.last+1)) else(σ.last,σ.T,.nil))
 else(σ.last,σ.T,.nil)
abbrev Aq:TypeId:=59
abbrev Ar(k a b c:Int):Array Value:=#[ii k,ii a,ii b,ii c]
section
variable {B:Nat} {w:World} {wp gh:Nat} {O:Nat->Prop} {σ:St} {sd sk:S3}
set_option maxHeartbeats 4000000 in
theorem Xj(h:Wd B w wp gh O σ sd sk)(hown:OwnAt w)(hB0:0<B)(hE: ∀o E,I6 σ.T o=some (.tab E)->E.length<=100){k a b c:Int}(ha:F8 a)(hb:F8 b)(hc:F8 c):
    Calls Tryz.prog 43 #[pT wp,.agg (Ar k a b c)] w fun e w'=>e=.returned (.agg ((K2 σ k a b c).2.2.dt.cs dm0))/\HQ B w w' gh O (K2 σ k a b c).1 (K2 σ k a b c).2.1:=by
  refine B6 (vs:=[pT wp,.agg (Ar k a b c)]) 115 Tryz.func43 Br1 Zk (by simp) fun a0 h0=> ?_
  unfold Ba5
  have hfar:=h.ok.far
  have hlast:=h.ok.last
  have hdok:=fun c=>Hi h.ok.ok hfar c
  have hBw:=(h.lim (.inl rfl)).1
  have hwl:=h.blk.lt
  refine Zs (Em5 h0 rfl fun a1 h1=> ?_)
  have e1:(w.alloc (.cells (Ar k a b c) Aq)).heap.size=w.heap.size+1:=by simp
  rw[e1] at h1
  refine Zs (Em6 h1 (D1 (d:=Fd.nil.dt) (m:=dm0) (Blk.new _ C7 zA) (by show 0+11<=11;omega)) fun a2 h2=> ?_)
  have hA0:=Blk.new w Aq (Ar k a b c)
  have hZ0:=Blk.new (w.alloc (.cells (Ar k a b c) Aq)) C7 zA
  rw[e1] at hZ0
  obtain⟨u1,hu1⟩: ∃u1,u1=(w.alloc (.cells (Ar k a b c) Aq)).alloc (.cells zA C7):=⟨_,rfl⟩
  have hA1:Blk u1 w.heap.size Aq (Ar k a b c):=by rw[hu1];exact hA0.alloc _
  have hZ1:Blk u1 (w.heap.size+1) C7 zA:=by rw[hu1];exact hZ0
  have hb1:Below w.heap.size w u1:=by rw[hu1];exact B2 (B2 (Below.refl _ _) _) _
  have hzu:u1.heap.size=w.heap.size+2:=by rw[hu1];simp
  have hX:=Q8 (w:=u1) Fd.nil.dt dm0
  change Sl 115 a2 _ at h2
  rw[<-hu1,hzu] at h2
  rw[hzu] at hX
  change Code.wp _ _ _ a2 ((((w.alloc (.cells (Ar k a b c) Aq)).alloc (.cells zA C7)).alloc (.cells zA C7)).setCells ((w.alloc (.cells (Ar k a b c) Aq)).alloc (.cells zA C7)).heap.size 0 (Fd.nil.dt.cs dm0).toList)
  rw[<-hu1,hzu]
  generalize (u1.alloc (.cells zA C7)).setCells (w.heap.size+2) 0 (Fd.nil.dt.cs dm0).toList=u at hX ⊢
  obtain⟨hD,hbu⟩:=hX
  rw[<-hzu] at hbu
  have hA:=hA1.below hbu hA1.lt
  have hZ:=hZ1.below hbu hZ1.lt
  have hbw:=A7 hb1 hbu
  have hDl:=hD.lt
  have hW:=h.old hbw
  have hlim: ∀b,O b->b<w.heap.size:=fun b hb=>(h.hs.lim b hb).2
  obtain⟨g3,hg3⟩: ∃g3,g3=w.heap.size:=⟨_,rfl⟩
  obtain⟨g4,hg4⟩: ∃g4,g4=w.heap.size+1:=⟨_,rfl⟩
  obtain⟨g5,hg5⟩: ∃g5,g5=w.heap.size+2:=⟨_,rfl⟩
  rw[<-hg3] at hA
  rw[<-hg4] at hZ
  rw[<-hg5] at hD hDl
  have h2:Sl 115 a2 [(5,pT g5),(3,pT g3),(4,pT g4),(0,pT wp)]:=by rw[hg3,hg4,hg5];exact h2.to ⟨rfl,rfl,rfl,rfl,trivial⟩
  have hown2:=hown.old hbw
  obtain⟨bm,pt,own,hx⟩:=h.hs
  have hxu:=hx.old hbw
  obtain⟨L',hL'⟩: ∃L',L'=(K2 σ k a b c).1:=⟨_,rfl⟩
  obtain⟨T',hT'⟩: ∃T',T'=(K2 σ k a b c).2.1:=⟨_,rfl⟩
  obtain⟨x,hxd⟩: ∃x,x=(K2 σ k a b c).2.2:=⟨_,rfl⟩
  rw[<-hL',<-hT',<-hxd]
  obtain⟨C,hC⟩: ∃C:World->Prop,C=fun v=>Blk v wp Lv #[pT gh,.slice sd.d sd.n sd.c,.slice sk.d sk.n sk.c]/\Blk v g3 Aq (Ar k a b c)/\Blk v g4 C7 zA:=⟨_,rfl⟩
  have hCu:C u:=by rw[hC];exact⟨hW.blk,hA,hZ⟩
  have hCb: ∀v v2,C v->g5<v.heap.size->Below v.heap.size v v2->C v2:=fun v v2 hv hz hb=>by
    rw[hC] at hv ⊢
    exact⟨hv.1.below hb hv.1.lt,hv.2.1.below hb hv.2.1.lt,hv.2.2.below hb hv.2.2.lt⟩
  have hCm: ∀{O1:Nat->Prop} (v v2:World),C v->Moved O1 v v2->(∀b,O1 b->O b\/g5<b)->C v2:=fun{O1} v v2 hv hm ho=>by
    rw[hC] at hv ⊢
    refine⟨(hm.block _ hv.1.lt fun e=> ?_).trans hv.1,(hm.block _ hv.2.1.lt fun e=> ?_).trans hv.2.1,(hm.block _ hv.2.2.lt fun e=> ?_).trans hv.2.2⟩
    · rcases ho _ e with q | q
      · exact h.o1 q
      · omega
    · rcases ho _ e with q | q
      · have:=hlim _ q;omega
      · omega
    · rcases ho _ e with q | q
      · have:=hlim _ q;omega
      · omega
  have hCs: ∀(v:World) (vs:List Value),C v->C (v.setCells g5 0 vs):=fun v vs hv=>by
    rw[hC] at hv ⊢
    exact⟨Blk.farL Zo _ _ _ hv.1,Blk.farL Zo _ _ _ hv.2.1,Blk.farL Zo _ _ _ hv.2.2⟩
  have ch: ∀v,C v->Lds Tryz.prog 35 (pT wp) (pT gh) v:=fun v hv=>by rw[hC] at hv;exact A9 hv.1 Tryz.underlying35 rfl rfl
  have cA: ∀v,C v->Lds Tryz.prog 3 (.pointer (some ⟨g3,1,none⟩)) (ii a) v:=fun v hv=>by rw[hC] at hv;exact A9 hv.2.1 Tryz.underlying3 rfl rfl
  have cB: ∀v,C v->Lds Tryz.prog 3 (.pointer (some ⟨g3,2,none⟩)) (ii b) v:=fun v hv=>by rw[hC] at hv;exact A9 hv.2.1 Tryz.underlying3 rfl rfl
  have cC: ∀v,C v->Lds Tryz.prog 3 (.pointer (some ⟨g3,3,none⟩)) (ii c) v:=fun v hv=>by rw[hC] at hv;exact A9 hv.2.1 Tryz.underlying3 rfl rfl
  have hd1:Below u.heap.size u (u.drewN 1):=B3 (Below.refl _ _) 1
  have hdat: ∀v,Below u.heap.size u v->∀{c:Int},F8 c->Calls Tryz.prog 22 #[pT wp,ii c] v fun e w'=>e=.returned (.agg ((I2 σ.X c).dt.cs dm0))/\Below u.heap.size u w':=fun v hv {c} hc=>(M3 (hW.old hv) hc).mono fun e w' hh=>⟨hh.1,A7 hv hh.2⟩
  obtain⟨rest,hrest⟩: ∃rest:Act->World->Prop,rest=fun a' v=>Sl 115 a' [(5,pT g5),(4,pT g4)]/\HR u.heap.size B w v gh O L' T'/\Blk v g5 C7 (x.dt.cs dm0)/\C v:=⟨_,rfl⟩
  refine wp_seq (Code.wp_mono (Q:=fun e a' w'=>e=.normal/\rest a' w') ?_ ?_)
  · rintro e a7 v ⟨rfl,hr⟩
    rw[hrest] at hr
    obtain⟨h7,hR,hB5,hCv⟩:=hr
    show Code.wp _ _ _ a7 v
    have hZv:Blk v g4 C7 zA:=by rw[hC] at hCv;exact hCv.2.2
    refine Zs (Cx7 (d114:=x.dt) (m114:=dm0) h7 rfl rfl (C6 hB5 rfl) (D1 hZv (by show 0+11<=11;omega)) fun a8 h8=>wp_ret ?_)
    refine Gy rfl h8 rfl (C6 (K1 x.dt dm0 hZv) rfl) ⟨rfl,(hR.set (g:=g4) Zo Zo hlim _ _).hq Zo⟩
  have lst: ∀(v:World),HQ B u v gh O L' T'->C v->∃q,q=v.setCells g5 0 (x.dt.cs dm0).toList/\HR u.heap.size B w q gh O L' T'/\Blk q g5 C7 (x.dt.cs dm0)/\C q:=fun v hQ hCv=>by
    have h5v:Blk v g5 C7 zA:=by
      obtain⟨O',_,hm,_⟩:=hQ
      exact(hm.block _ hDl fun e=>by have:=hlim _ e;omega).trans hD
    exact⟨_,rfl,(HR.of hbw hQ).set Zo hDl hlim _ _,K1 x.dt dm0 h5v,hCs v _ hCv⟩
  have hM5: ∀(v:World),HQ B u v gh O L' T'->C v:=fun v hQ=>by
    obtain⟨O',_,hm,_⟩:=hQ
    exact hCm u v hCu hm fun b hb=>.inl hb
  refine Zs (Em7 (k:=k) h2 rfl (A9 hA Tryz.underlying3 rfl rfl) fun a3 h3=> ?_)
  refine wp_block ?_
  have h5st: ∀(v:World),HQ B u v gh O L' T'->So C7 g5 0 (.agg (x.dt.cs dm0)) v (x.dt.cs dm0).toList:=fun v hQ=>by
    have h5v:Blk v g5 C7 zA:=by
      obtain⟨O',_,hm,_⟩:=hQ
      exact(hm.block _ hDl fun e=>by have:=hlim _ e;omega).trans hD
    exact D1 h5v (by show 0+11<=11;omega)
  by_cases k1:k=1
  · refine Zs (Cw8 (b14:=true) h3 rfl (decide_eq_true k1) fun a4 h4=>wp_cond_true (h4.look 13 rfl) ?_)
    have e1:K2 σ k a b c=(σ.last+1,σ.T++[(σ.last+1,.obj (I2 σ.X a) (I2 σ.X b))],.ref 1 (σ.last+1)):=by unfold K2;rw[if_pos k1]
    rw[e1] at hL' hT' hxd
    refine Zl (Em8 (C:=C) (x:=pr (I2 σ.X a) (I2 σ.X b)) (y:=x.dt) (my:=dm0) (v:=.nilIface)
      (C0:=fun q v=>(∃g,q=⟨none,0,some ⟨g,0,none⟩,2⟩/\RowX v (fun b=>b<v.heap.size) (some ⟨g,0,none⟩) [I2 σ.X a,I2 σ.X b])/\Below u.heap.size u v) (C1:=fun v=>HQ B u v gh O L' T')
      h4 rfl rfl rfl (hCb _ _ hCu hDl hd1) ch cA cB ((Dc (hW.old hd1) ha hb).mono ?_) (fun q v hq=>hCb _ _ hCu hDl hq.2) (fun q v hq=> ?_) (fun q v hq v2 hv2=>hM5 v2 hv2) (fun q v hq v2 hv2=>h5st v2 hv2) (fun q v hq v2 hv2=>hCs _ _ (hM5 v2 hv2)) fun a5 q v v2 hq hv2 h5=> ?_)
    · rintro e w' ⟨q,r1,⟨g,r2,_,r3⟩,r4⟩
      exact⟨q,r1,⟨g,r2,r3⟩,A7 hd1 r4⟩
    · obtain⟨⟨g,rfl,hr⟩,hbv⟩:=hq
      refine(Mh (hxu.old hbv) (hown2.old hbv) Zo (hdok a) (hdok b) hr (Nat.le_refl _) (capOk.some Zo) (by have:=hbv.size;have:=hbw.size;omega)).mono ?_
      rintro e w' ⟨r1,r2⟩
      rw[hL',hT',hxd]
      exact⟨r1,HQ.pre hbv r2⟩
    · obtain⟨z,rfl,r1,r2,r3⟩:=lst v2 hv2 (hM5 v2 hv2)
      exact B1 ⟨rfl,by rw[hrest];exact⟨h5.to ⟨rfl,rfl,trivial⟩,r1,r2,r3⟩⟩
  refine Zs (Cw8 (b14:=false) h3 rfl (decide_eq_false k1) fun a4 h4=>wp_cond_false (h4.look 13 rfl) ?_)
  by_cases k2:k=2
  · refine Zs (Cw9 (b30:=true) h4 rfl (decide_eq_true k2) fun a5 h5=>wp_cond_true (h5.look 29 rfl) ?_)
    have e1:K2 σ k a b c=(σ.last+1,σ.T++[(σ.last+1,.arr (I2 σ.X a) (I2 σ.X b))],.ref 2 (σ.last+1)):=by unfold K2;rw[if_neg k1,if_pos k2]
    rw[e1] at hL' hT' hxd
    refine Zl (Em9 (C:=C) (x:=(I2 σ.X a).dt) (mx:=dm0) (y:=(I2 σ.X b).dt) (my:=dm0) (z:=x.dt) (mz:=dm0) (v:=.nilIface)
      (C0:=fun v=>Below u.heap.size u v) (C1:=fun v=>Below u.heap.size u v) (C2:=fun v=>HQ B u v gh O L' T')
      h5 rfl rfl rfl (hCb _ _ hCu hDl hd1) ch cA cB (hdat _ hd1 ha) (fun v hv=>hCb _ _ hCu hDl hv) (fun v hv=>hdat v hv hb) (fun v hv v2 hv2=>hCb _ _ hCu hDl hv2) (fun v hv v2 hv2=>hCb _ _ hCu hDl (B2 hv2 _)) (fun v hv v2 hv2=> ?_) (fun v hv v2 hv2 v3 hv3=>hM5 v3 hv3) (fun v hv v2 hv2 v3 hv3=>h5st v3 hv3) (fun v hv v2 hv2 v3 hv3=>hCs _ _ (hM5 v3 hv3)) fun a6 v v2 v3 hv hv2 hv3 h6=> ?_)
    · have hba:Below u.heap.size u (v2.alloc (.cells (((I2 σ.X a).dt.cs dm0).toList++((I2 σ.X b).dt.cs dm0).toList).toArray C7)):=B2 hv2 _
      have hR:RowX (v2.alloc (.cells (((I2 σ.X a).dt.cs dm0).toList++((I2 σ.X b).dt.cs dm0).toList).toArray C7)) (fun _=>True) (some ⟨v2.heap.size,0,none⟩) [I2 σ.X a,I2 σ.X b]:=.inr ⟨v2.heap.size,_,rfl,trivial,Blk.new _ _ _,by simp[Dt.cs,Hd.cells],fun j z hz=>by
        match j,hz with
        | 0, hz => obtain rfl : I2 σ.X a = z := by simpa using hz
                   simp[Dt.cs,Hd.cells]
        | 1, hz => obtain rfl : I2 σ.X b = z := by simpa using hz
                   simp[Dt.cs,Hd.cells]⟩
      refine(Uy (hxu.old hba) (hown2.old hba) Zo (hdok a) (hdok b) hR (by have:=hba.size;have:=hbw.size;omega)).mono ?_
      rintro e w' ⟨r1,r2⟩
      rw[hL',hT',hxd]
      exact⟨r1,HQ.pre hba r2⟩
    · obtain⟨z,rfl,r1,r2,r3⟩:=lst v3 hv3 (hM5 v3 hv3)
      exact B1 ⟨rfl,by rw[hrest];exact⟨h6.to ⟨rfl,rfl,trivial⟩,r1,r2,r3⟩⟩
  refine Zs (Cw9 (b30:=false) h4 rfl (decide_eq_false k2) fun a5 h5=>wp_cond_false (h5.look 29 rfl) ?_)
  by_cases k3:k=3
  · refine Zs (Cx0 (b49:=true) h5 rfl (decide_eq_true k3) fun a6 h6=>wp_cond_true (h6.look 48 rfl) ?_)
    have e1:K2 σ k a b c=(σ.last+1,Sm (σ.T++[(σ.last+1,.tab [])]) (.ref 3 (σ.last+1)) (I2 σ.X b) (I2 σ.X a),.ref 3 (σ.last+1)):=by unfold K2;rw[if_neg k1,if_neg k2,if_pos k3]
    rw[e1] at hL' hT' hxd
    have hxok:x.ok:=by rw[hxd];exact⟨Zo,Zo⟩
    have hQC: ∀{n:Nat} {T1:Tm} (v:World),HQ B u v gh O n T1->C v/\Blk v g5 C7 zA:=fun v hQ=>by
      obtain⟨O',_,hm,_⟩:=hQ
      exact⟨hCm u v hCu hm fun b hb=>.inl hb,(hm.block _ hDl fun e=>by have:=hlim _ e;omega).trans hD⟩
    refine Zs (En0 (y:=x.dt) (my:=dm0) (C0:=fun v=>HQ B u v gh O (σ.last+1) (σ.T++[(σ.last+1,.tab [])])) h6 rfl rfl (ch u hCu) ((Ai3 hxu Zo (by have:=hbw.size;omega)).mono fun e w' hh=>by rw[hxd];exact hh) (fun v hv=>D1 (hQC v hv).2 (by show 0+11<=11;omega)) fun a7 v hv h7=> ?_)
    have hR:=(HR.of hbw hv).set (g:=g5) Zo hDl hlim 0 (x.dt.cs dm0).toList
    have hB5:Blk (v.setCells g5 0 (x.dt.cs dm0).toList) g5 C7 (x.dt.cs dm0):=K1 x.dt dm0 (hQC v hv).2
    have hCv:=hCs v (x.dt.cs dm0).toList (hQC v hv).1
    have hzv:u.heap.size<=(v.setCells g5 0 (x.dt.cs dm0).toList).heap.size:=by rw[B7];obtain⟨_,_,hm,_⟩:=hv;exact hm.size
    change Code.wp _ _ _ a7 (v.setCells g5 0 (x.dt.cs dm0).toList)
    generalize v.setCells g5 0 (x.dt.cs dm0).toList=z at hR hB5 hCv hzv ⊢
    obtain⟨O1,s1,s2,s3,s4⟩:=hR
    have hrow: ∀{g:Nat},g<w.heap.size->¬O g->z.heap[g]? =w.heap[g]? :=fun hg ho=>s2.block _ hg ho
    have hdz: ∀(v:World),Below z.heap.size z v->∀{c:Int},F8 c->Calls Tryz.prog 22 #[pT wp,ii c] v fun e w'=>e=.returned (.agg ((I2 σ.X c).dt.cs dm0))/\Below z.heap.size z w':=fun v hv {c} hc=>by
      have hds:=Y9 (σ:=σ) (sd:=sd) (sk:=sk) (gh:=gh) (w:=v) (wp:=wp) (B:=B) ((hrow hwl h.o1 |> fun e=>by rw[hC] at hCv;exact hCv.1.below hv hCv.1.lt)) (ARow.keep h.data fun g hg=>(hv.block g (by have:=(ARow.block h.data hg).2;have:=s2.size;omega)).trans (hrow (ARow.block h.data hg).2 (h.o2 g hg))) hfar hc
      exact hds.mono fun e w' hh=>⟨hh.1,A7 hv hh.2⟩
    have hdr:Below z.heap.size z (z.drewN 1):=B3 (Below.refl _ _) 1
    have hC5b: ∀v,Below z.heap.size z v->C v/\Blk v g5 C7 (x.dt.cs dm0):=fun v hv=>⟨hCb z v hCv Zo hv,hB5.below hv hB5.lt⟩
    have hownz:OwnAt z:=OwnAt.moved hown s2 (fun e=>by have:=(hx.lim 0 e).1;omega) Zo
    refine Zl (En1 (C:=fun v=>C v/\Blk v g5 C7 (x.dt.cs dm0)) (d:=x.dt) (m:=dm0) (x:=(I2 σ.X b).dt) (mx:=dm0) (y:=(I2 σ.X a).dt) (my:=dm0)
      (C0:=fun v=>Below z.heap.size z v) (C1:=fun v=>Below z.heap.size z v) (C2:=fun _ v=>HR u.heap.size B w v gh O L' T'/\Blk v g5 C7 (x.dt.cs dm0)/\C v)
      h7 rfl rfl rfl (hC5b _ hdr) (fun v hv=>ch v hv.1) (fun v hv=>C6 hv.2 rfl) (fun v hv=>cB v hv.1) (fun v hv=>cA v hv.1) (hdz _ hdr hb) (fun v hv=>hC5b v hv) (fun v hv=>hdz v hv ha) (fun v hv v2 hv2=>hC5b v2 hv2) (fun v hv v2 hv2=> ?_) fun a8 v v2 er v3 hv hv2 hv3 h8=> ?_)
    · obtain⟨bm1,pt1,own1,hx1⟩:=s1.old hv2
      refine(Nv hx1 hB0 (hownz.old hv2) (fun o E ho=> ?_) hxok (hdok b) (hdok a)).mono ?_
      · have:I6 (σ.T++[(σ.last+1,.tab [])]) o=some (.tab E):=ho
        unfold I6 at this
        rw[List.find?_append] at this
        cases hf:σ.T.find? (fun t=>t.1==o) with
        | some t=>
          rw[hf] at this
          have h8:I6 σ.T o=some (.tab E):=by unfold I6;rw[hf];exact this
          have:=hE o E h8
          omega
        | none=>
          rw[hf] at this
          by_cases ho2:(σ.last+1==o)=true
          · simp[ho2] at this
            subst this
            simp
          · simp[ho2] at this
      · rintro e w' ⟨⟨er,r1⟩,r2⟩
        have hR2:HR u.heap.size B w w' gh O L' T':=by
          rw[hL',hT',hxd] at*
          exact HR.then (s2.trans ((Moved.of_below hv2).more fun b hb=>.inl hb)) s3 s4 (by have:=hv2.size;omega) (by have:=hbw.size;omega) r2
        obtain⟨O2,t1,t2,t3,t4⟩:=r2
        refine⟨er,r1,hR2,(t2.block _ (by have:=hv2.size;omega) fun e=> ?_).trans (hB5.below hv2 hB5.lt),hCm v2 w' (hC5b v2 hv2).1 t2 fun b hb=>(s4 b hb).imp_right fun q=>by omega⟩
        rcases s4 _ e with q | q
        · have:=hlim _ q;omega
        · omega
    · exact B1 ⟨rfl,by rw[hrest];exact⟨h8.to ⟨rfl,rfl,trivial⟩,hv3.1,hv3.2.1,hv3.2.2⟩⟩
  refine Zs (Cx0 (b49:=false) h5 rfl (decide_eq_false k3) fun a6 h6=>wp_cond_false (h6.look 48 rfl) ?_)
  by_cases k4:k=4
  · refine Zs (Ba6 (b70:=true) h6 rfl (decide_eq_true k4) fun a7 h7=>wp_cond_true (h7.look 69 rfl) ?_)
    have e1:K2 σ k a b c=(σ.last+1,σ.T++[(σ.last+1,.box (I2 σ.X a))],.num ((σ.last+1:Nat):Int)):=by unfold K2;rw[if_neg k1,if_neg k2,if_neg k3,if_pos k4]
    rw[e1] at hL' hT' hxd
    refine Zs (Cx1 (C:=C) (x:=(I2 σ.X a).dt) (mx:=dm0) (n:=σ.last+1) (v:=.nilIface) (C0:=fun v=>Below u.heap.size u v) (C1:=fun v=>HQ B u v gh O L' T')
      h7 rfl rfl (hCb _ _ hCu hDl hd1) ch cA (hdat _ hd1 ha) (fun v hv=>hCb _ _ hCu hDl hv) (fun v hv=> ?_) (fun v hv v2 hv2=>hM5 v2 hv2) fun a8 v v2 hv hv2 h8=> ?_)
    · refine(Ai4 (hxu.old hv) (hown2.old hv) Zo (hdok a) (by have:=hv.size;have:=hbw.size;omega)).mono ?_
      rintro e w' ⟨r1,r2⟩
      rw[hL',hT']
      exact⟨r1,HQ.pre hv r2⟩
    · refine Zl (Cx2 (n6:=σ.last+1) (y:=x.dt) (my:=dm0) (C0:=fun v=>HQ B u v gh O L' T') h8 rfl rfl ((Ap (σ.last+1) v2).mono fun e w' hh=>⟨by rw[hxd];exact hh.1,hv2.post hh.2⟩) (fun v hv=>h5st v hv) fun a9 v3 hv3 h9=> ?_)
      obtain⟨z,rfl,r1,r2,r3⟩:=lst v3 hv3 (hM5 v3 hv3)
      exact B1 ⟨rfl,by rw[hrest];exact⟨h9.to ⟨rfl,rfl,trivial⟩,r1,r2,r3⟩⟩
  refine Zs (Ba6 (b70:=false) h6 rfl (decide_eq_false k4) fun a7 h7=>wp_cond_false (h7.look 69 rfl) ?_)
  by_cases k5:k=5
  · refine Zs (Ba7 (b86:=true) h7 rfl (decide_eq_true k5) fun a8 h8=>wp_cond_true (h8.look 85 rfl) ?_)
    have e1:K2 σ k a b c=(if S1 σ.T (Bb4 σ.Ks a) then(σ.last+1,σ.T++[(σ.last+1,.fn (M9 c 9) (zBx (Bb4 σ.Ks a)) (I2 σ.X b))],.ref 5 (σ.last+1)) else(σ.last,σ.T,.nil)):=by unfold K2;rw[if_neg k1,if_neg k2,if_neg k3,if_neg k4,if_pos k5]
    rw[e1] at hL' hT' hxd
    refine Zs (Cx3 h8 fun a9 h9=> ?_)
    refine Zs (Cx4 (n:=U7 σ.Ks a 4) (C0:=fun v=>Below u.heap.size u v) h9 rfl rfl (cA u hCu) (Z3 hW ha) fun a10 v hv h10=> ?_)
    obtain⟨n,hn⟩: ∃n,n=U7 σ.Ks a 4:=⟨_,rfl⟩
    rw[<-hn] at h10
    have hnl:n<=80:=by rw[hn];have:=V9 σ.Ks a 4;have:=h.ok.len;omega
    obtain⟨bx,hbx⟩: ∃bx,bx=Bb4 σ.Ks a:=⟨_,rfl⟩
    have hbx':bx=if 0<n then[n] else[]:=by rw[hbx,hn];rfl
    rw[<-hbx] at hL' hT' hxd
    have tail: ∀(a11:Act) (s:S3) (v2:World),Below u.heap.size u v2->ZRow v2 u.heap.size s (zBx bx)->Sl 115 a11 [(8,.slice s.d s.n s.c),(5,pT g5),(3,pT g3),(4,pT g4),(0,pT wp)]->∀Qn:Exit->Act->World->Prop,(∀a' v',rest a' v'->Qn .normal a' v')->Code.wp Tryz.prog (P4 18) Qn a11 v2:=fun a11 s v2 hv2 hZ h11 Qn hQn=>by
      have hsn:s.n=bx.length:=by have:=hZ.1;rw[this];unfold zBx;rw[List.length_map]
      rw[hsn] at h11
      have hdr:Below v2.heap.size v2 (v2.drewN 1):=B3 (Below.refl _ _) 1
      have hv3:=A7 hv2 hdr
      refine Zl (Cx6 (C:=C) (p:=M9 c 9) (x:=(I2 σ.X b).dt) (mx:=dm0) (y:=x.dt) (my:=dm0) (C0:=fun v=>v=v2.drewN 1) (C1:=fun v=>Below v2.heap.size v2 v) (C2:=fun _ v=>HQ B u v gh O L' T')
        h11 rfl rfl rfl rfl (hCb _ _ hCu hDl hv3) ch cC cB (N9 hc (n:=9) Zo _) (fun v hv=>by rw[hv];exact hCb _ _ hCu hDl hv3) (fun v hv=> ?_) (fun v hv v4 hv4=>hCb _ _ hCu hDl (A7 hv2 hv4)) (fun v hv v4 hv4=>hCb _ _ hCu hDl (B2 (A7 hv2 hv4) _)) (fun v hv v4 hv4=> ?_) (fun v hv v4 hv4 er v5 hv5=>hM5 v5 hv5) (fun v hv v4 hv4 er v5 hv5=>h5st v5 hv5) (fun v hv v4 hv4 er v5 hv5=>hCs _ _ (hM5 v5 hv5)) fun a12 v v4 er v5 hv hv4 hv5 h12=> ?_)
      · rw[hv]
        exact(M3 (hW.old hv3) hb).mono fun e w' hh=>⟨hh.1,A7 hdr hh.2⟩
      · have hv4':=A7 hv2 hv4
        have hba:Below u.heap.size u (v4.alloc (.cells ((I2 σ.X b).dt.cs dm0) C7)):=B2 hv4' _
        have hR:RowX (v4.alloc (.cells ((I2 σ.X b).dt.cs dm0) C7)) (fun _=>True) (some ⟨v4.heap.size,0,none⟩) [I2 σ.X b]:=.inr ⟨v4.heap.size,_,rfl,trivial,Blk.new _ _ _,by simp[Dt.cs,Hd.cells],fun j z hz=>by
          match j,hz with
          | 0, hz => obtain rfl : I2 σ.X b = z := by simpa using hz
                     simp[Dt.cs,Hd.cells]⟩
        have hZ4:=(ZRow.path ((hZ.old hv4).old (B2 (Below.refl _ _) (.cells ((I2 σ.X b).dt.cs dm0) C7)))).1
        refine(Uz (hxu.old hba) (hown2.old hba) Zo (hdok b) (M9 c 9) (bx:=bx) (by rw[hbx'];split<;>simp) (by rw[hbx'];intro m hm;split at hm<;>simp at hm;omega) hZ4 hR (by have:=hba.size;have:=hbw.size;omega) (pc:=s.c) (ic:=1)).mono ?_
        rintro e w' ⟨⟨er,r1⟩,r2⟩
        refine⟨er, ?_, ?_⟩
        · rw[r1,hxd]
          by_cases hall:S1 σ.T bx=true
          · rw[if_pos hall,if_pos hall]
          · rw[if_neg hall,if_neg hall]
        · rw[hL',hT']
          by_cases hall:S1 σ.T bx=true
          · simp only[if_pos hall] at r2 ⊢
            exact HQ.pre hba r2
          · simp only[if_neg hall] at r2 ⊢
            exact HQ.pre hba r2
      · obtain⟨z,rfl,r1,r2,r3⟩:=lst v5 hv5 (hM5 v5 hv5)
        exact hQn _ _ (by rw[hrest];exact⟨h12.to ⟨rfl,rfl,trivial⟩,r1,r2,r3⟩)
    by_cases hn0:0<n
    · refine wp_seq (Zs (Ba8 (n9:=n) (b92:=true) h10 rfl (decide_eq_true Zo) fun a11 h11=>wp_cond_true (h11.look 92 rfl) ?_))
      refine Zl (Cx5 (n9:=n) (bd:=none) (bn:=0) (bc:=0) (C0:=fun s v2=>ZRow v2 u.heap.size s (zBx bx)/\Below u.heap.size u v2) h11 rfl rfl (fun ty=> ?_) fun a12 s v2 hs h12=> ?_)
      · obtain⟨s',v',r1,r2,r3,_⟩:=ZRow.app (ZRow.nil v v.heap.size) (by simp) (Nat.le_refl _) (n:Int) ty
        refine⟨s',v',r1, ?_, ?_⟩
        · rw[hbx',if_pos hn0]
          exact ZRow.low r2 hv.size
        · exact hv.trans ((r3.below (n:=v.heap.size) (Below.refl _ _) (fun x _ e=>by cases e) (Nat.le_refl _)).mono hv.size)
      · exact tail a12 s v2 hs.2 hs.1 (h12.to ⟨rfl,rfl,rfl,rfl,rfl,trivial⟩) _ fun a' v' hr=>B1 ⟨rfl,hr⟩
    · refine wp_seq (Zs (Ba8 (n9:=n) (b92:=false) h10 rfl (decide_eq_false Zo) fun a11 h11=>B9 (h11.look 92 rfl) ?_))
      exact tail a11 ⟨none,0,0⟩ v hv (by rw[hbx',if_neg hn0];exact ZRow.nil _ _) (h11.to ⟨rfl,rfl,rfl,rfl,rfl,trivial⟩) _ fun a' v' hr=>B1 ⟨rfl,hr⟩
  refine Zs (Ba7 (b86:=false) h7 rfl (decide_eq_false k5) fun a8 h8=>wp_cond_false (h8.look 85 rfl) ?_)
  have e1:K2 σ k a b c=(σ.last,σ.T,.nil):=by unfold K2;rw[if_neg k1,if_neg k2,if_neg k3,if_neg k4,if_neg k5]
  rw[e1] at hL' hT' hxd
  refine wp_skip (B1 ⟨rfl, ?_⟩)
  rw[hrest]
  refine⟨h8.to ⟨rfl,rfl,trivial⟩, ?_,by rw[hxd];exact hD,hCu⟩
  rw[hL',hT']
  exact HR.of hbw (HQ.same ⟨bm,pt,own,hxu⟩ (Below.refl _ _))
end
end Go.Proofs.YtbjegfpfmnleeaaGreatDoor
