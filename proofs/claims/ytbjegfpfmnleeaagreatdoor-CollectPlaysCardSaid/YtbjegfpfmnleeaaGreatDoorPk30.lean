/-
   Written by an AI agent.
-/
import Derived.Test.YtbjegfpfmnleeaaGreatDoorPk29
namespace Go.Proofs.YtbjegfpfmnleeaaGreatDoor
set_option maxRecDepth 100000
def TQ(m:Nat)(T:Tm):Prop:= ∀i t,(i,t)∈T->t.ok/\∀E,t=.tab E->E.length<=m
theorem TQ.more{m n:Nat}{T:Tm}(h:TQ m T)(e:m<=n):TQ n T:=fun i t ht=>⟨(h i t ht).1,fun E hE=>Nat.le_trans ((h i t ht).2 E hE) e⟩
theorem TQ.put{m:Nat}{T:Tm}(h:TQ m T){o:Nat}{th:Th}(hth:th.ok/\∀E,th=.tab E->E.length<=m):TQ m (Nr T o th):=fun i t ht=>by
 unfold Nr at ht
 obtain⟨q,hq,e⟩:=List.mem_map.1 ht
 split at e
 ·injection e with _ e
  subst e
  exact hth
 ·subst e
  exact h i t hq
theorem TQ.app{m:Nat}{T:Tm}(h:TQ m T){n:Nat}{th:Th}(hth:th.ok/\∀E,th=.tab E->E.length<=m):TQ m (T++[(n,th)]):=fun i t ht=>by
 rcases List.mem_append.1 ht with ht | ht
 ·exact h i t ht
 ·have ht:(i,t)=(n,th):=by simpa using ht
  injection ht with _ ht
  subst ht
  exact hth
theorem TQ.del{m:Nat}{T:Tm}(h:TQ m T)(i:Nat):TQ m (Qm T i):=fun j t ht=>h j t (List.mem_filter.1 ht).1
theorem TQ.get{m:Nat}{T:Tm}(h:TQ m T){o:Nat}{t:Th}(ht:I6 T o=some t):t.ok/\∀E,t=.tab E->E.length<=m:=h o t (L9 ht)
theorem Dd{m:Nat}{t:Th}(h: ∀E,t≠.tab E): ∀E,t=.tab E->E.length<=m:=fun E e=>absurd e (h E)
theorem Eq9{m:Nat}{T:Tm}(h:TQ m T){x y:Fd}(hy:y.ok):TQ m (Ad4 T x y):=by
 unfold Ad4
 split
 ·split
  ·rename_i b hb
   exact h.put ⟨⟨hy,(h.get hb).1.2⟩,Dd fun E e=>by cases e⟩
  ·exact h
 ·exact h
theorem Er0{m:Nat}{T:Tm}(h:TQ m T){n:Nat}{y:Fd}(hy:y.ok):TQ m (Es T n y):=by
 unfold Es
 split
 ·exact h.put ⟨hy,Dd fun E e=>by cases e⟩
 ·exact h
theorem Bs4{m:Nat}{T:Tm}(h:TQ m T){x c d:Fd}(hc:c.ok)(hd:d.ok):TQ m (U8 T x c d):=by
 unfold U8
 split
 ·split
  ·exact h.put ⟨⟨hc,hd⟩,Dd fun E e=>by cases e⟩
  ·exact h
 ·exact h
theorem Bb5{k v:Fd}(hv:v.ok): ∀(E E':List (Fd×Fd)),(∀p,p∈E->p.1.ok/\p.2.ok)->Vc k v E=some E'->E'.length=E.length/\∀p,p∈E'->p.1.ok/\p.2.ok
 | [],_,_,e=>by cases e
 | p::r,E',h,e=>by
  unfold Vc at e
  split at e
  ·injection e with e
   subst e
   exact⟨rfl,fun q hq=>by
    rcases List.mem_cons.1 hq with rfl | hq
    ·exact⟨(h p (by simp)).1,hv⟩
    ·exact h q (List.mem_cons_of_mem _ hq)⟩
  ·cases hr:Vc k v r with
   | none=>rw[hr] at e;cases e
   | some r'=>
    rw[hr] at e
    injection e with e
    subst e
    obtain⟨h1,h2⟩:=Bb5 hv r r' (fun q hq=>h q (List.mem_cons_of_mem _ hq)) hr
    exact⟨by simp[h1],fun q hq=>by
     rcases List.mem_cons.1 hq with rfl | hq
     ·exact h q (by simp)
     ·exact h2 q hq⟩
theorem Cy9{k v:Fd}(hk:k.ok)(hv:v.ok){E:List (Fd×Fd)}(h: ∀p,p∈E->p.1.ok/\p.2.ok):(Aw8 E k v).length<=E.length+1/\∀p,p∈Aw8 E k v->p.1.ok/\p.2.ok:=by
 unfold Aw8
 cases hr:Vc k v E with
 | none=>
  exact⟨Nat.le_refl _,fun q hq=>by
   rcases List.mem_cons.1 hq with rfl | hq
   ·exact⟨hk,hv⟩
   ·exact h q hq⟩
 | some E'=>
  obtain⟨h1,h2⟩:=Bb5 hv E E' h hr
  exact⟨by show E'.length<=_;omega,h2⟩
theorem Cz0{m:Nat}{T:Tm}(hm:m+1<=1000)(h:TQ m T){x k v:Fd}(hk:k.ok)(hv:v.ok):TQ (m+1) (Sm T x k v):=by
 have h1:=h.more (Nat.le_succ m)
 unfold Sm
 split
 ·split
  ·rename_i E hE
   obtain⟨⟨e1,e2⟩,e3⟩:=h.get hE
   obtain⟨l1,l2⟩:=Cy9 hk hv (E:=E) e2
   have:=e3 E rfl
   split
   ·exact h1.put ⟨⟨Zo,l2⟩,fun E' e=>by injection e with e;subst e;omega⟩
   ·exact h1
  ·exact h1
 ·exact h1
theorem Cz1(Ks:List Int)(a:Int)(h:Ks.length<=80):(Bb4 Ks a).length<=1/\∀v,v∈zBx (Bb4 Ks a)-> -9223372036854775808<=v/\v<=9223372036854775807:=by
 have:=V9 Ks a 4
 unfold Bb4
 split
 ·exact⟨Nat.le_refl _,fun v hv=>by simp[zBx] at hv;omega⟩
 ·exact⟨Nat.zero_le _,fun v hv=>by simp[zBx] at hv⟩
theorem Cz2{m:Nat}{σ:St}(hσ:StOk σ)(hm:m+1<=1000)(h:TQ m σ.T)(k a b c:Int):TQ (m+1) (K2 σ k a b c).2.1/\(K2 σ k a b c).2.2.ok/\(K2 σ k a b c).1<=σ.last+1:=by
 have hd:=fun c=>Hi hσ.ok hσ.far c
 have h1:=h.more (Nat.le_succ m)
 have hl:=hσ.last
 have hf:=hσ.far
 have hlen:=hσ.len
 have rk: ∀q,(Fd.ref q (σ.last+1)).ok:=fun q=>⟨Zo,Zo⟩
 unfold K2
 split
 ·exact⟨h1.app ⟨⟨hd a,hd b⟩,Dd fun E e=>by cases e⟩,rk 1,Nat.le_refl _⟩
 split
 ·exact⟨h1.app ⟨⟨hd a,hd b⟩,Dd fun E e=>by cases e⟩,rk 2,Nat.le_refl _⟩
 split
 ·have h3:=Cz0 (x:=Fd.ref 3 (σ.last+1)) hm (h.app (n:=σ.last+1) (th:=.tab []) ⟨⟨Nat.zero_le _,fun p hp=>by cases hp⟩,fun E e=>by injection e with e;subst e;exact Nat.zero_le _⟩) (hd b) (hd a)
  exact⟨h3,rk 3,Nat.le_refl _⟩
 split
 ·exact⟨h1.app ⟨hd a,Dd fun E e=>by cases e⟩,Em _ Zo,Nat.le_refl _⟩
 split
 ·split
  ·obtain⟨b1,b2⟩:=Cz1 σ.Ks a Zo
   exact⟨h1.app ⟨⟨by unfold zBx;rw[List.length_map];omega,hd b,b2⟩,Dd fun E e=>by cases e⟩,rk 5,Nat.le_refl _⟩
  ·exact⟨h1,trivial,Nat.le_succ _⟩
 ·exact⟨h1,trivial,Nat.le_succ _⟩
def Bh(σ:St)(k a b c:Int):St:=
 if 1<=k/\k<=5 then⟨(K2 σ k a b c).1,(K2 σ k a b c).2.1,σ.X++[(K2 σ k a b c).2.2],σ.Ks++[k]⟩
 else if k=6/\0<U7 σ.Ks a 2 then{σ with T:=Ad4 σ.T (σ.X[U7 σ.Ks a 2-1]?.getD .nil) (I2 σ.X b)}
 else if k=7/\0<U7 σ.Ks a 3 then{σ with T:=Sm σ.T (σ.X[U7 σ.Ks a 3-1]?.getD .nil) (I2 σ.X c) (I2 σ.X b)}
 else if k=8/\0<U7 σ.Ks a 4 then{σ with T:=Es σ.T (U7 σ.Ks a 4) (I2 σ.X b)}
 else if k=9/\0<U7 σ.Ks a 1 then{σ with T:=U8 σ.T (σ.X[U7 σ.Ks a 1-1]?.getD .nil) (I2 σ.X b) (I2 σ.X c)}
 else if k=10/\0<σ.X.length then{σ with T:=Qm σ.T (1+M9 a σ.X.length)}
 else σ
theorem StOk.sub{σ:St}(h:StOk σ){T':Tm}{m:Nat}(hT:TQ m T'):StOk {σ with T:=T'}:=⟨h.len,h.far,h.last,h.ok,fun i t ht=>(hT i t ht).1⟩
theorem Cz3{m:Nat}{σ:St}(hσ:StOk σ)(hl:σ.X.length<80)(hm:m+1<=1000)(h:TQ m σ.T)(k a b c:Int):StOk (Bh σ k a b c)/\TQ (m+1) (Bh σ k a b c).T:=by
 have hd:=fun c=>Hi hσ.ok hσ.far c
 have h1:=h.more (Nat.le_succ m)
 unfold Bh
 split
 ·obtain⟨m1,m2,m3⟩:=Cz2 hσ hm h k a b c
  refine⟨⟨by simp[hσ.len],by simp;omega, ?_,fun x hx=> ?_,fun i t ht=>(m1 i t ht).1⟩,m1⟩
  ·have:=hσ.last
   simp
   omega
  ·rcases List.mem_append.1 hx with hx | hx
   ·exact hσ.ok x hx
   ·rw[List.mem_singleton.1 hx]
    exact m2
 split
 ·have:=Eq9 h1 (x:=σ.X[U7 σ.Ks a 2-1]?.getD .nil) (hd b)
  exact⟨hσ.sub this,this⟩
 split
 ·have:=Cz0 hm h (x:=σ.X[U7 σ.Ks a 3-1]?.getD .nil) (hd c) (hd b)
  exact⟨hσ.sub this,this⟩
 split
 ·have:=Er0 h1 (n:=U7 σ.Ks a 4) (hd b)
  exact⟨hσ.sub this,this⟩
 split
 ·have:=Bs4 h1 (x:=σ.X[U7 σ.Ks a 1-1]?.getD .nil) (hd b) (hd c)
  exact⟨hσ.sub this,this⟩
 split
 ·have:=h1.del (1+M9 a σ.X.length)
  exact⟨hσ.sub this,this⟩
 ·exact⟨hσ,h1⟩
end Go.Proofs.YtbjegfpfmnleeaaGreatDoor
namespace Go.Proofs.YtbjegfpfmnleeaaGreatDoor
open Go.RowKit Go.Maps
set_option maxRecDepth 100000
theorem Bs5{w:World}{B:Nat}{s:S3}{X:List Fd}(h:RowN B w s X)(hn:X.length<=100000)(hB:B<=w.heap.size):
  ∃(g c:Nat) (w':World),(∀ty,(Builtin.append_ #[23,23] ty #[.slice s.d s.n s.c,.slice (some ⟨w.heap.size,0,none⟩) 1 1]).run Tryz.prog (w.alloc (.cells zA C7))=.ok (.slice (some ⟨g,0,none⟩) (X.length+1) c) w')/\ARow w' B C7 11 ⟨some ⟨g,0,none⟩,X.length+1,c⟩ (X.length+1) ((X.flatMap fun x=>(x.dt.cs dm0).toList)++zA.toList)/\Moved (fun b=>s.v.ownBlock=some b) w w'/\(s.v.ownBlock=some g\/w.heap.size<g)/\∃cs,Blk w' g C7 cs/\(X.length+1)*11<=cs.size:=by
 obtain⟨s',w',h1,h2,h3,h4⟩:=Bm8 h Zo hB zA rfl Zd 0
 rcases ARow.cases h2 with⟨_,e,_⟩ | ⟨g,cs,e1,e2,e3,e4,e5,e6,e7,e8⟩
 ·omega
 ·obtain⟨d,k,c⟩:=s'
  injection e1 with e1 e9 e10
  subst e1 e9
  refine⟨g,c,w',fun ty=>Am h1 ty,h2,h3, ?_,cs,e4,by rw[e7];exact Nat.mul_le_mul_right 11 e5⟩
  rcases h4 with q | q
  ·exact .inl (q.symm.trans e2)
  ·rw[e2] at q
   injection q with q
   exact .inr Zo
theorem ARow.fill1{w:World}{B n g c:Nat}{xs:List Value}(h:ARow w B C7 11 ⟨some ⟨g,0,none⟩,n+1,c⟩ (n+1) (xs++zA.toList))(hl:xs.length=n*11)(y:Fd):
  ARow (w.setCells g (n*11) (y.dt.cs dm0).toList) B C7 11 ⟨some ⟨g,0,none⟩,n+1,c⟩ (n+1) (xs++(y.dt.cs dm0).toList):=by
 have:=ARow.put (A:=xs) (V:=zA.toList) (Z:=[]) (by rw[List.append_nil];exact h) (vs:=(y.dt.cs dm0).toList) (by simp[Dt.cs,Hd.cells]) hl.symm
 rwa [List.append_nil] at this
theorem Xk(X:List Fd):(X.flatMap fun x=>(x.dt.cs dm0).toList).length=X.length*11:=by
 induction X with
 | nil=>rfl
 | cons x r ih=>
  rw[List.flatMap_cons,List.length_append,ih]
  have:(x.dt.cs dm0).toList.length=11:=by simp[Dt.cs,Hd.cells]
  simp only[List.length_cons]
  omega
theorem ARow.cells{w:World}{B sz n:Nat}{t:TypeId}{s:S3}{xs:List Value}(h:ARow w B t sz s n xs){g:Nat}(hg:s.v.ownBlock=some g): ∃cs,Blk w g t cs:=by
 rcases ARow.cases h with⟨e,_⟩ | ⟨g',cs,_,e2,_,e4,_⟩
 ·rw[e] at hg
  cases hg
 ·rw[e2] at hg
  injection hg with hg
  subst hg
  exact⟨cs,e4⟩
theorem ZRow.app'{w:World}{B:Nat}{s:S3}{l:List Int}(h:ZRow w B s l)(hn:l.length<=1000000000)(hB:B<=w.heap.size)(x:Int):
  ∃(s':S3) (w':World),(∀ty,(Builtin.append_ #[24,24] ty #[.slice s.d s.n s.c,.slice (some ⟨w.heap.size,0,none⟩) 1 1]).run Tryz.prog (w.alloc (.cells #[ii x] 3))=.ok (S3.v s') w')/\ZRow w' B s' (l++[x])/\Moved (fun b=>s.v.ownBlock=some b) w w'/\(s'.v.ownBlock=s.v.ownBlock\/∃g,s'.v.ownBlock=some g/\w.heap.size<=g):=by
 obtain⟨s',w',h1,h2,h3,h4⟩:=ZRow.app h hn hB x 0
 exact⟨s',w',fun ty=>Am h1 ty,h2,h3,h4.imp_right fun e=>⟨_,e,Zo⟩⟩
theorem Al9{w:World}{g:Nat}{k a b c:Int}(h:Blk w g Aq (Ar k a b c)):Lds Tryz.prog Aq (pT g) (.agg (Ar k a b c)) w:=
 Bo7 (cs:=(Ar k a b c).toList) Tryz.underlying59 rfl Zk (fun j v hj=>by
  rw[h.cell,Nat.zero_add,<-Array.getElem?_toList]
  exact hj)
section
variable {B:Nat} {w:World} {wp gh:Nat} {O:Nat->Prop} {σ:St} {sd sk:S3}
def ActR(B:Nat)(w:World)(wp gh:Nat)(σ':St)(w':World):Prop:= ∃O' sd' sk',Wd B w' wp gh O' σ' sd' sk'/\Below B w w'
theorem ActR.hq(h:Wd B w wp gh O σ sd sk){w':World}{T':Tm}(hQ:HQ B w w' gh O σ.last T')(hok:StOk {σ with T:=T'}):ActR B w wp gh {σ with T:=T'} w':=by
 obtain⟨O',h1,h2,h3,h4⟩:=hQ
 have hlim:=fun b (hb:O b)=>h.hs.lim b hb
 have hk: ∀b,b<w.heap.size->¬O b->w'.heap[b]? =w.heap[b]? :=fun b hb ho=>h2.block b hb ho
 have ho': ∀b,b<w.heap.size->¬O b->¬O' b:=fun b hb ho e=>(h4 b e).elim ho fun q=>by omega
 refine⟨O',sd,sk,⟨(hk _ h.blk.lt h.o1).trans h.blk,h1,ARow.keep h.data fun g hg=>hk g (ARow.block h.data hg).2 (h.o2 g hg),ARow.keep h.kinds fun g hg=>hk g (ARow.block h.kinds hg).2 (h.o3 g hg),h.lo,ho' _ h.blk.lt h.o1,fun g hg=>ho' g (ARow.block h.data hg).2 (h.o2 g hg),fun g hg=>ho' g (ARow.block h.kinds hg).2 (h.o3 g hg),hok⟩,F4 h2 (fun b hb=>(hlim b hb).1) (by have:=(h.lim (.inl rfl));omega)⟩
theorem Cz4{z:World}{O1:Nat->Prop}{L':Nat}{T':Tm}{X':List Fd}{k a b c:Int}{g3:Nat}(hwz:Blk z wp Lv #[pT gh,.slice sd.d sd.n sd.c,.slice sk.d sk.n sk.c])(hdz:RowN B z sd X')(hkz:ZRow z B sk σ.Ks)(hAz:Blk z g3 Aq (Ar k a b c))(hsz:HS B z gh O1 L' T')
  (o1: ¬O1 wp) (o2: ∀g,sd.v.ownBlock=some g->¬O1 g) (o3: ∀g,sk.v.ownBlock=some g->¬O1 g) (lo:B<=wp) (hB:B<=z.heap.size) (hK:σ.Ks.length<=1000) (hok:StOk ⟨L',T',X',σ.Ks++[k]⟩)
  {a4:Act} (h4:Sl 183 a4 [(3,pT g3),(0,pT wp)]) (Qn:Exit->Act->World->Prop) (hQn: ∀a' z',a'.defers=[]->(∃O' sd' sk',Wd B z' wp gh O' ⟨L',T',X',σ.Ks++[k]⟩ sd' sk'/\Below B z z')->Qn .ret a' z'):Code.wp Tryz.prog (.seq (M1 4) .ret) Qn a4 z:=by
 have hdz1:Below z.heap.size z (z.drewN 1):=B3 (Below.refl _ _) 1
 have hsz1:(z.drewN 1).heap.size=z.heap.size:=rfl
 obtain⟨t,z2,hr2,hZ2,hM2,ho2⟩:=ZRow.app' (hkz.old hdz1) Zo Zo k
 have hwz1:=hwz.below hdz1 hwz.lt
 have hkw:sk.v.ownBlock≠some wp:=fun e=>by
  have:=ZRow.cells hkz e
  have:=Blk.same_t this.choose_spec hwz
  revert this
  decide
 have hkA:sk.v.ownBlock≠some g3:=fun e=>by
  have:=ZRow.cells hkz e
  have:=Blk.same_t this.choose_spec hAz
  revert this
  decide
 have hwA:wp≠g3:=fun e=>by
  subst e
  have:=Blk.same_t hwz hAz
  revert this
  decide
 have hkd: ∀g,sd.v.ownBlock=some g->sk.v.ownBlock≠some g:=fun g hg e=>by
  have h1:=ZRow.cells hkz e
  have h2:=ARow.cells hdz hg
  have:=Blk.same_t h1.choose_spec h2.choose_spec
  revert this
  decide
 have hdw:sd.v.ownBlock≠some wp:=fun e=>by
  have:=ARow.cells hdz e
  have:=Blk.same_t this.choose_spec hwz
  revert this
  decide
 have hwz2:Blk z2 wp Lv #[pT gh,.slice sd.d sd.n sd.c,.slice sk.d sk.n sk.c]:=(hM2.block _ hwz1.lt hkw).trans hwz1
 have hst:So 24 wp 2 (.slice t.d t.n t.c) z2 [.slice t.d t.n t.c]:=F2 hwz2 Zk (by show 2<3;omega) rfl
 have hAz2:Blk z2 g3 Aq (Ar k a b c):=(hM2.block _ hAz.lt hkA).trans (hAz.below hdz1 hAz.lt)
 refine Zs (En5 (C:=fun z=>Blk z g3 Aq (Ar k a b c)) (k:=k) (kd:=sk.d) (kn:=sk.n) (kc:=sk.c) (C0:=fun _ s' z'=>s'=t/\z'=z2) h4 rfl rfl (hAz.below hdz1 hAz.lt) (fun z hz=>A9 hz Tryz.underlying3 rfl rfl) (A9 hwz1 Tryz.underlying24 rfl rfl) ((hAz.below hdz1 hAz.lt).alloc _) (fun ty=>⟨t,z2,hr2 ty,rfl,rfl⟩) (fun s' z' hh=>by rw[hh.2];exact hAz2) (fun s' z' hh=>by rw[hh.1,hh.2];exact hst) (fun s' z' hh=>by rw[hh.2];exact Blk.farL (Ne.symm hwA) _ _ _ hAz2) (A9 (hwz1.alloc _) Tryz.underlying24 rfl rfl) fun a5 s' z' hh h5=>wp_ret ?_)
 obtain⟨rfl,rfl⟩:=hh
 have hnt: ∀q,s'.v.ownBlock=some q->q≠wp:=fun q hq e=>by
  subst e
  have:=ZRow.cells hZ2 hq
  have:=Blk.same_t this.choose_spec hwz2
  revert this
  decide
 have hMall:Moved (fun b=>b=wp\/sk.v.ownBlock=some b) z (z'.setCells wp 2 [.slice s'.d s'.n s'.c]):=
  ((Moved.of_below hdz1).trans (hM2.more fun b hb=>.inl (.inr hb))).set (.inl (.inl rfl)) _ _
 have hkow: ∀g,sk.v.ownBlock=some g->B<=g/\g<z.heap.size:=fun g hg=>ARow.block hkz hg
 have hdow: ∀g,sd.v.ownBlock=some g->B<=g/\g<z.heap.size:=fun g hg=>ARow.block hdz hg
 refine hQn _ _ h5.defers ⟨O1,sd,s',⟨?_, ?_, ?_, ?_,lo,o1,o2, ?_,hok⟩, ?_⟩
 ·show Blk (z'.setCells wp 2 [.slice s'.d s'.n s'.c]) wp Lv #[pT gh,.slice sd.d sd.n sd.c,.slice s'.d s'.n s'.c]
  exact Blk.set_ hwz2 2 _
 ·exact hsz.keep hMall.size fun b hb=>hMall.block b (hsz.lim b hb).2 fun q=>by
   rcases q with rfl | q
   ·exact o1 hb
   ·exact o3 b q hb
 ·exact ARow.keep hdz fun g hg=>hMall.block g (hdow g hg).2 fun q=>by
   rcases q with rfl | q
   ·exact hdw hg
   ·exact hkd g hg q
 ·exact ARow.keep hZ2 fun q hq=>B5 _ _ _ (hnt q hq)
 ·intro g hg e
  rcases ho2 with o | ⟨g',o,o4⟩
  ·rw[o] at hg
   exact o3 g hg e
  ·rw[o] at hg
   injection hg with hg
   have:=(hsz.lim _ e).2
   omega
 ·exact F4 hMall (fun b hb=>by
   rcases hb with rfl | hb
   ·exact lo
   ·exact(hkow b hb).1) hB
set_option maxHeartbeats 2000000 in
theorem Am0{v2:World}{O1:Nat->Prop}{L':Nat}{T':Tm}{y:Fd}{k a b c:Int}{g3 g4:Nat}(hwp2:Blk v2 wp Lv #[pT gh,.slice sd.d sd.n sd.c,.slice sk.d sk.n sk.c])(hdt2:RowN B v2 sd σ.X)(hkd2:ZRow v2 B sk σ.Ks)(hA2:Blk v2 g3 Aq (Ar k a b c))(hs2:HS B v2 gh O1 L' T')(hD:Blk v2 g4 C7 (y.dt.cs dm0))(nd4:sd.v.ownBlock≠some g4)
  (o1: ¬O1 wp) (o2: ∀g,sd.v.ownBlock=some g->¬O1 g) (o3: ∀g,sk.v.ownBlock=some g->¬O1 g) (lo:B<=wp) (hB:B<=v2.heap.size) (hX:σ.X.length<=1000) (hK:σ.Ks.length<=1000) (hok:StOk ⟨L',T',σ.X++[y],σ.Ks++[k]⟩)
  {a3:Act} (h3:Sl 183 a3 [(4,pT g4),(3,pT g3),(0,pT wp)]) (Qn:Exit->Act->World->Prop) (hQn: ∀a' z',a'.defers=[]->(∃O' sd' sk',Wd B z' wp gh O' ⟨L',T',σ.X++[y],σ.Ks++[k]⟩ sd' sk'/\Below B v2 z')->Qn .ret a' z'):Code.wp Tryz.prog (.seq (M1 3) (.seq (M1 4) .ret)) Qn a3 v2:=by
 have hDl:=hD.lt
 have hsn:sd.n=σ.X.length:=hdt2.1
 have hdr:Below v2.heap.size v2 (v2.drewN 1):=B3 (Below.refl _ _) 1
 have hszd:(v2.drewN 1).heap.size=v2.heap.size:=rfl
 obtain⟨g,cc,w',hrun,hAr,hMv,hgx,cs,hgB,hcz⟩:=Bs5 (hdt2.old hdr) Zo Zo
 have hkow: ∀g,sk.v.ownBlock=some g->B<=g/\g<v2.heap.size:=fun g hg=>ARow.block hkd2 hg
 have hdow: ∀g,sd.v.ownBlock=some g->B<=g/\g<v2.heap.size:=fun g hg=>ARow.block hdt2 hg
 have hdA:sd.v.ownBlock≠some g3:=fun e=>by
  have:=ARow.cells hdt2 e
  have:=Blk.same_t this.choose_spec hA2
  revert this
  decide
 have hdw:sd.v.ownBlock≠some wp:=fun e=>by
  have:=ARow.cells hdt2 e
  have:=Blk.same_t this.choose_spec hwp2
  revert this
  decide
 have hkd: ∀g,sk.v.ownBlock=some g->sd.v.ownBlock≠some g:=fun g hg e=>by
  have h1:=ZRow.cells hkd2 hg
  have h2:=ARow.cells hdt2 e
  have:=Blk.same_t h1.choose_spec h2.choose_spec
  revert this
  decide
 have hkw:sk.v.ownBlock≠some wp:=fun e=>by
  have:=ZRow.cells hkd2 e
  have:=Blk.same_t this.choose_spec hwp2
  revert this
  decide
 have hwA:g3≠wp:=fun e=>by
  subst e
  have:=Blk.same_t hwp2 hA2
  revert this
  decide
 have nw4:g4≠wp:=fun e=>by
  subst e
  have:=Blk.same_t hwp2 hD
  revert this
  decide
 have ng4:g4≠g:=fun e=>by
  subst e
  rcases hgx with q | q
  ·exact nd4 q
  ·omega
 have hwp3:Blk w' wp Lv #[pT gh,.slice sd.d sd.n sd.c,.slice sk.d sk.n sk.c]:=(hMv.block _ (by have:=hwp2.lt;omega) hdw).trans (hwp2.below hdr hwp2.lt)
 have nwp:wp≠g:=fun e=>by
  subst e
  have:=Blk.same_t hgB hwp3
  revert this
  decide
 have hD3:Blk w' g4 C7 (y.dt.cs dm0):=(hMv.block _ Zo nd4).trans (hD.below hdr hDl)
 have hst3: ∀z:World,Blk z wp Lv #[pT gh,.slice sd.d sd.n sd.c,.slice sk.d sk.n sk.c]->So 23 wp 1 (.slice (some ⟨g,0,none⟩) (sd.n+1) cc) z [.slice (some ⟨g,0,none⟩) (sd.n+1) cc]:=fun z hz=>F2 hz Zk (by show 1<3;omega) rfl
 have hstg: ∀(z:World),Blk z g C7 cs->So C7 g (sd.n*11) (.agg (y.dt.cs dm0)) z (y.dt.cs dm0).toList:=fun z hz=>D1 hz (by rw[hsn];omega)
 obtain⟨C,hC⟩: ∃C:World->Prop,C=fun z=>Blk z g4 C7 (y.dt.cs dm0):=⟨_,rfl⟩
 have hCg: ∀(z:World) (o:Nat) (vs:List Value),C z->C (z.setCells g o vs):=fun z o vs hz=>by rw[hC] at hz ⊢;exact Blk.farL ng4 _ _ _ hz
 have hCw: ∀(z:World) (o:Nat) (vs:List Value),C z->C (z.setCells wp o vs):=fun z o vs hz=>by rw[hC] at hz ⊢;exact Blk.farL nw4 _ _ _ hz
 have hC3:C w':=by rw[hC];exact hD3
 have hrow: ∀z:World,ARow z B C7 11 ⟨some ⟨g,0,none⟩,σ.X.length+1,cc⟩ (σ.X.length+1) ((σ.X.flatMap fun x=>(x.dt.cs dm0).toList)++(y.dt.cs dm0).toList)->RowN B z ⟨some ⟨g,0,none⟩,sd.n+1,cc⟩ (σ.X++[y]):=fun z hz=>by
  unfold RowN
  rw[List.length_append,List.flatMap_append,List.flatMap_singleton,hsn]
  exact hz
 have hMd:Moved (fun b=>b=wp\/sd.v.ownBlock=some b) v2 w':=(Moved.of_below hdr).trans (hMv.more fun b hb=>.inl (.inr hb))
 have hgO:(g=wp\/sd.v.ownBlock=some g)\/v2.heap.size<=g:=hgx.elim (fun q=>.inl (.inr q)) (fun q=>.inr Zo)
 have hlX:=Xk σ.X
 have fin: ∀(a4:Act) (z:World),Sl 183 a4 [(3,pT g3),(0,pT wp)]->Blk z wp Lv #[pT gh,.slice (some ⟨g,0,none⟩) (sd.n+1) cc,.slice sk.d sk.n sk.c]->RowN B z ⟨some ⟨g,0,none⟩,sd.n+1,cc⟩ (σ.X++[y])->Moved (fun b=>b=wp\/sd.v.ownBlock=some b) v2 z->Code.wp Tryz.prog (.seq (M1 4) .ret) Qn a4 z:=fun a4 z h4 hwz hdz hMz=>by
  have hzz:=hMz.size
  have hblw:=F4 (B:=B) hMz (fun b hb=>by
   rcases hb with rfl | hb
   ·exact lo
   ·exact(hdow b hb).1) hB
  refine Cz4 (sd:=⟨some ⟨g,0,none⟩,sd.n+1,cc⟩) (O1:=O1) (L':=L') (T':=T') (σ:=σ) hwz hdz (ARow.keep hkd2 fun q hq=>hMz.block q (hkow q hq).2 fun e=> ?_) ((hMz.block _ hA2.lt fun e=> ?_).trans hA2) (hs2.keep hzz fun b hb=>hMz.block b (hs2.lim b hb).2 fun e=> ?_) o1 (fun q hq e=> ?_) o3 lo Zo hK hok h4 Qn fun a' z' hd ⟨O',sd',sk',r1,r2⟩=>hQn a' z' hd ⟨O',sd',sk',r1,hblw.trans r2⟩
  ·rcases e with rfl | e
   ·exact hkw hq
   ·exact hkd q hq e
  ·rcases e with e | e
   ·exact hwA e
   ·exact hdA e
  ·rcases e with rfl | e
   ·exact o1 hb
   ·exact o2 b e hb
  ·injection hq with hq
   have hq:g=q:=hq
   subst hq
   rcases hgx with o | o
   ·exact o2 g o e
   ·have:=(hs2.lim _ e).2
    omega
 refine Zs (En4 (C:=C) (dd:=sd.d) (dn:=sd.n) (dc:=sd.c) (gx:=g) (y:=y.dt) (my:=dm0) (C0:=fun _ c' z'=>c'=cc/\z'=w') h3 rfl rfl ?a0 (fun z hz=>by rw[hC] at hz;exact C6 hz rfl) (A9 (hwp2.below hdr hwp2.lt) Tryz.underlying23 rfl rfl) ?a3 (fun ty=>⟨cc,w',by have:=hrun ty;rw[hsn] at this ⊢;exact this,rfl,rfl⟩) (fun c' z' hh=>by rw[hh.2];exact hC3) (fun c' z' hh w=>by rw[hh.1];exact Q7 Zo w) (fun c' z' hh=>by rw[hh.2];exact hstg _ hgB) (fun c' z' hh=>by rw[hh.2];exact hCg _ _ _ hC3)
  (fun c' z' hh=>by rw[hh.1,hh.2];exact hst3 _ (Blk.farL nwp _ _ _ hwp3)) (fun c' z' hh=>by rw[hh.1,hh.2];exact hCw _ _ _ (hCg _ _ _ hC3)) (fun c' z' hh=>by rw[hh.1,hh.2];exact hst3 _ hwp3) (fun c' z' hh=>by rw[hh.1,hh.2];exact hCw _ _ _ hC3) (fun c' z' hh=>by rw[hh.1,hh.2];exact hstg _ (Blk.farL (Ne.symm nwp) _ _ _ hgB)) (fun c' z' hh=>by rw[hh.1,hh.2];exact hCg _ _ _ (hCw _ _ _ hC3)) (A9 ((hwp2.below hdr hwp2.lt).alloc _) Tryz.underlying23 rfl rfl) ?n0 ?n1)
 case a0=>rw[hC];exact hD.below hdr hDl
 case a3=>rw[hC];exact(hD.below hdr hDl).alloc _
 case n0=>
  rintro a4 c' z' ⟨rfl,rfl⟩ h4
  have hb:Blk ((z'.setCells g (sd.n*11) (y.dt.cs dm0).toList).setCells wp 1 [.slice (some ⟨g,0,none⟩) (sd.n+1) c']) wp Lv #[pT gh,.slice (some ⟨g,0,none⟩) (sd.n+1) c',.slice sk.d sk.n sk.c]:=Blk.set_ (Blk.farL nwp _ _ _ hwp3) 1 _
  refine fin a4 _ (h4.to ⟨rfl,rfl,trivial⟩) hb (hrow _ ?_) ((hMd.set hgO _ _).set (.inl (.inl rfl)) _ _)
  rw[hsn]
  exact ARow.keep (ARow.fill1 hAr hlX y) fun q hq=>B5 _ _ _ (by injection hq with hq;rw[<-hq];exact Ne.symm nwp)
 case n1=>
  rintro a4 c' z' ⟨rfl,rfl⟩ h4
  have hb:Blk ((z'.setCells wp 1 [.slice (some ⟨g,0,none⟩) (sd.n+1) c']).setCells g (sd.n*11) (y.dt.cs dm0).toList) wp Lv #[pT gh,.slice (some ⟨g,0,none⟩) (sd.n+1) c',.slice sk.d sk.n sk.c]:=Blk.farL nwp _ _ _ (Blk.set_ hwp3 1 _)
  refine fin a4 _ (h4.to ⟨rfl,rfl,trivial⟩) hb (hrow _ ?_) ((hMd.set (.inl (.inl rfl)) _ _).set hgO _ _)
  rw[hsn]
  exact ARow.fill1 (ARow.keep hAr fun q hq=>B5 _ _ _ (by injection hq with hq;rw[<-hq];exact Ne.symm nwp)) hlX y
end
section
variable {B:Nat} {w:World} {wp gh:Nat} {O:Nat->Prop} {σ:St} {sd sk:S3}
set_option maxHeartbeats 4000000 in
theorem Bs6(h:Wd B w wp gh O σ sd sk)(hown:OwnAt w)(hB0:0<B){m:Nat}(hm:m<=90)(hq:TQ m σ.T)(hl:σ.X.length<80){k a b c:Int}(ha:F8 a)(hb:F8 b)(hc:F8 c):
  Calls Tryz.prog 26 #[pT wp,.agg (Ar k a b c)] w fun e w'=>e=.returned (.tuple #[])/\ActR B w wp gh (Bh σ k a b c) w':=by
 refine B6 (vs:=[pT wp,.agg (Ar k a b c)]) 183 Tryz.func26 Br2 Zk (by simp) fun a0 h0=> ?_
 unfold Ba9
 obtain⟨hok',_⟩:=Cz3 h.ok hl Zo hq k a b c
 have hdok:=fun c=>Hi h.ok.ok h.ok.far c
 have hBw:=h.lim (.inl rfl)
 have hE: ∀o E,I6 σ.T o=some (.tab E)->E.length<=100:=fun o E hE=>by have:=(hq.get hE).2 E rfl;omega
 have hlk:=h.ok.len
 refine Zs (En2 h0 rfl fun a1 h1=> ?_)
 have hA:=Blk.new w Aq (Ar k a b c)
 have hbu:Below w.heap.size w (w.alloc (.cells (Ar k a b c) Aq)):=B2 (Below.refl _ _) _
 have hzu:(w.alloc (.cells (Ar k a b c) Aq)).heap.size=w.heap.size+1:=by simp
 obtain⟨g3,hg3⟩: ∃g3,g3=w.heap.size:=⟨_,rfl⟩
 rw[<-hg3] at h1 hA
 change Code.wp _ _ _ a1 (w.alloc (.cells (Ar k a b c) Aq))
 generalize w.alloc (.cells (Ar k a b c) Aq)=u at hA hbu hzu ⊢
 have hW:=h.old hbu
 have hownu:=hown.old hbu
 have h1:Sl 183 a1 [(3,pT g3),(0,pT wp)]:=h1.to ⟨rfl,rfl,trivial⟩
 have hBu:Below B w u:=hbu.mono Zo
 have lK: ∀v,Below u.heap.size u v->Lds Tryz.prog 3 (pT g3) (ii k) v:=fun v hv=>A9 (hA.below hv hA.lt) Tryz.underlying3 rfl rfl
 have endS: ∀(σ':St) (a':Act) (v:World),a'.defers=[]->Bh σ k a b c=σ'->(∃O' sd' sk',Wd B v wp gh O' σ' sd' sk'/\Below B u v)->∀(a0:Act),bodyPost Tryz.prog Tryz.f26 (fun e w'=>e=.returned (.tuple #[])/\ActR B w wp gh (Bh σ k a b c) w') .normal a' v/\bodyPost Tryz.prog Tryz.f26 (fun e w'=>e=.returned (.tuple #[])/\ActR B w wp gh (Bh σ k a b c) w') .ret a' v:=fun σ' a' v hd e ⟨O',d',k',r1,r2⟩ _=>by
  rw[e]
  exact⟨bodyPost_end (results_none rfl _ _ _) hd ⟨rfl,O',d',k',r1,hBu.trans r2⟩,bodyPost_ret (results_none rfl _ _ _) hd ⟨rfl,O',d',k',r1,hBu.trans r2⟩⟩
 by_cases hmk:1<=k/\k<=5
 ·have eS:Bh σ k a b c=⟨(K2 σ k a b c).1,(K2 σ k a b c).2.1,σ.X++[(K2 σ k a b c).2.2],σ.Ks++[k]⟩:=by unfold Bh;rw[if_pos hmk]
  obtain⟨L',hL'⟩: ∃L',L'=(K2 σ k a b c).1:=⟨_,rfl⟩
  obtain⟨T',hT'⟩: ∃T',T'=(K2 σ k a b c).2.1:=⟨_,rfl⟩
  obtain⟨y,hy⟩: ∃y,y=(K2 σ k a b c).2.2:=⟨_,rfl⟩
  have hmake:=Xj hW hownu hB0 hE ha hb hc (k:=k)
  rw[<-hL',<-hT',<-hy] at hmake eS
  rw[eS] at hok'
  refine wp_seq (Zs (Xf (k:=k) (b15:=true) h1 rfl (lK u (Below.refl _ _)) (decide_eq_true hmk.1) (decide_eq_true hmk.2) fun a2 h2=>wp_cond_true (h2.look 16 rfl) ?_))
  refine Zs (En3 (y:=y.dt) (my:=dm0) (C0:=fun v=>HQ B u v gh O L' T') h2 rfl rfl (Al9 hA) hmake (fun v hv=>D1 (Blk.new v C7 zA) (by show 0+11<=11;omega)) fun a3 v hv h3=> ?_)
  obtain⟨O1,s1,s2,s3,s4⟩:=hv
  have hX:=Q8 (w:=v) y.dt dm0
  obtain⟨g4,hg4⟩: ∃g4,g4=v.heap.size:=⟨_,rfl⟩
  change Code.wp _ _ _ a3 ((v.alloc (.cells zA C7)).setCells v.heap.size 0 (y.dt.cs dm0).toList)
  have hvz:=s2.size
  rw[<-hg4] at hX h3
  rw[<-hg4]
  generalize (v.alloc (.cells zA C7)).setCells g4 0 (y.dt.cs dm0).toList=v2 at hX ⊢
  obtain⟨hD,hbv⟩:=hX
  rw[hg4] at hbv
  have hz2:=hbv.size
  have keep2: ∀g,g<u.heap.size->¬O g->v2.heap[g]? =u.heap[g]? :=fun g hg ho=>(hbv.block _ Zo).trans (s2.block _ hg ho)
  have ho1: ∀g,g<u.heap.size->¬O g->¬O1 g:=fun g hg ho e=>(s4 _ e).elim ho fun q=>by omega
  have hb2:Below B u v2:=(F4 s2 (fun b hb=>(h.hs.lim b hb).1) Zo).trans (hbv.mono Zo)
  refine Am0 (O1:=O1) (L':=L') (T':=T') (y:=y) (σ:=σ) (g4:=g4) (g3:=g3) (k:=k) (a:=a) (b:=b) (c:=c) ((keep2 _ hW.blk.lt h.o1).trans hW.blk) (ARow.keep hW.data fun g hg=>keep2 g (ARow.block hW.data hg).2 (h.o2 g hg)) (ARow.keep hW.kinds fun g hg=>keep2 g (ARow.block hW.kinds hg).2 (h.o3 g hg)) ((keep2 _ hA.lt fun e=>by have:=(h.hs.lim _ e).2;omega).trans hA) (s1.old hbv) hD (fun e=>by have:=(ARow.block hW.data e).2;omega)
   (ho1 _ hW.blk.lt h.o1) (fun g hg=>ho1 g (ARow.block hW.data hg).2 (h.o2 g hg)) (fun g hg=>ho1 g (ARow.block hW.kinds hg).2 (h.o3 g hg)) h.lo Zo Zo Zo hok' (h3.to ⟨rfl,rfl,rfl,trivial⟩) _ fun a' z' hd ⟨O',d',k',r1,r2⟩=> ?_
  repeat (first | with_reducible refine D2 ?_ | with_reducible refine F1 ?_)
  exact(endS _ a' z' hd eS ⟨O',d',k',r1,hb2.trans r2⟩ a').2
 have r1: ∀Qn:Exit->Act->World->Prop,(∀a2,Sl 183 a2 [(3,pT g3),(0,pT wp),(16,.bool false)]->Qn .normal a2 u)->(M1 1).wp Tryz.prog Qn a1 u:=fun Qn hQn=>by
  by_cases h1k:1<=k
  ·exact Zl (Xf (k:=k) (b15:=false) h1 rfl (lK u (Below.refl _ _)) (decide_eq_true h1k) (decide_eq_false fun e=>hmk ⟨h1k,e⟩) fun a2 h2=>hQn a2 (h2.to ⟨rfl,rfl,rfl,trivial⟩))
  ·exact Zl (Br3 (k:=k) h1 rfl (lK u (Below.refl _ _)) (decide_eq_false h1k) fun a2 h2=>hQn a2 (h2.to ⟨rfl,rfl,rfl,trivial⟩))
 refine wp_seq (wp_seq (r1 _ fun a2 h2=>B9 (h2.look 16 rfl) ?_))
 have lA: ∀v,Below u.heap.size u v->Lds Tryz.prog 3 (.pointer (some ⟨g3,1,none⟩)) (ii a) v:=fun v hv=>A9 (hA.below hv hA.lt) Tryz.underlying3 rfl rfl
 have nm: ∀(q:Int) (v:World),Below u.heap.size u v->Calls Tryz.prog 44 #[pT wp,ii a,ii q] v fun e w'=>e=.returned (ii ((U7 σ.Ks a q:Nat):Int))/\Below u.heap.size u w':=fun q v hv=>(Z3 (hW.old hv) ha).mono fun e w' hh=>⟨hh.1,A7 hv hh.2⟩
 obtain⟨n2,hn2⟩: ∃n,n=U7 σ.Ks a 2:=⟨_,rfl⟩
 obtain⟨n3,hn3⟩: ∃n,n=U7 σ.Ks a 3:=⟨_,rfl⟩
 obtain⟨n4,hn4⟩: ∃n,n=U7 σ.Ks a 4:=⟨_,rfl⟩
 obtain⟨n1,hn1⟩: ∃n,n=U7 σ.Ks a 1:=⟨_,rfl⟩
 have nl: ∀q,U7 σ.Ks a q<=80:=fun q=>by have:=V9 σ.Ks a q;omega
 have nx: ∀q,0<U7 σ.Ks a q->∃x,σ.X[U7 σ.Ks a q-1]? =some x:=fun q h0=>⟨σ.X[U7 σ.Ks a q-1]'(by have:=V9 σ.Ks a q;omega),List.getElem?_eq_getElem _⟩
 refine Zs (En6 (n:=n2) (C0:=fun v=>Below u.heap.size u v) h2 rfl rfl (lA u (Below.refl _ _)) (by rw[hn2];exact nm 2 u (Below.refl _ _)) fun a5 v5 hv5 h5=> ?_)
 refine Zs (En7 (n:=n3) (C0:=fun v=>Below u.heap.size u v) h5 rfl rfl (lA v5 hv5) (by rw[hn3];exact nm 3 v5 hv5) fun a6 v6 hv6 h6=> ?_)
 refine Zs (En8 (n:=n4) (C0:=fun v=>Below u.heap.size u v) h6 rfl rfl (lA v6 hv6) (by rw[hn4];exact nm 4 v6 hv6) fun a7 v7 hv7 h7=> ?_)
 refine Zs (En9 (n:=n1) (C0:=fun v=>Below u.heap.size u v) h7 rfl rfl (lA v7 hv7) (by rw[hn1];exact nm 1 v7 hv7) fun a8 v hv h8=> ?_)
 have h8:Sl 183 a8 [(3,pT g3),(0,pT wp),(5,ii (n2:Int)),(6,ii (n3:Int)),(7,ii (n4:Int)),(8,ii (n1:Int))]:=h8.to ⟨rfl,rfl,rfl,rfl,rfl,rfl,trivial⟩
 have hWv:=hW.old hv
 have hAv:=hA.below hv hA.lt
 have hownv:=hownu.old hv
 have hBv:Below B u v:=hv.mono Zo
 obtain⟨bm,pt,own,hx⟩:=hWv.hs
 have hsn:sd.n=σ.X.length:=h.data.1
 have hzv:=hv.size
 obtain⟨C,hC⟩: ∃C:World->Prop,C=fun z=>Below v.heap.size v z:=⟨_,rfl⟩
 have hCd:C (v.drewN 1):=by rw[hC];exact B3 (Below.refl _ _) 1
 have hCi: ∀z,C z->Below v.heap.size v z:=fun z hz=>by rw[hC] at hz;exact hz
 have hCo: ∀z,Below v.heap.size v z->C z:=fun z hz=>by rw[hC];exact hz
 have ch: ∀z,C z->Lds Tryz.prog 35 (pT wp) (pT gh) z:=fun z hz=>(hWv.old (hCi z hz)).lh
 have cX: ∀{q:Option Addr},sd.d=q->∀z,C z->Lds Tryz.prog 23 (.pointer (some ⟨wp,1,none⟩)) (.slice q sd.n sd.c) z:=fun e z hz=>by rw[<-e];exact(hWv.old (hCi z hz)).ld
 have cB: ∀z,C z->Lds Tryz.prog 3 (.pointer (some ⟨g3,2,none⟩)) (ii b) z:=fun z hz=>A9 (hAv.below (hCi z hz) hAv.lt) Tryz.underlying3 rfl rfl
 have cC: ∀z,C z->Lds Tryz.prog 3 (.pointer (some ⟨g3,3,none⟩)) (ii c) z:=fun z hz=>A9 (hAv.below (hCi z hz) hAv.lt) Tryz.underlying3 rfl rfl
 have cA: ∀z,C z->Lds Tryz.prog 3 (.pointer (some ⟨g3,1,none⟩)) (ii a) z:=fun z hz=>A9 (hAv.below (hCi z hz) hAv.lt) Tryz.underlying3 rfl rfl
 have dt: ∀z,C z->∀{c:Int},F8 c->Calls Tryz.prog 22 #[pT wp,ii c] z fun e w'=>e=.returned (.agg ((I2 σ.X c).dt.cs dm0))/\C w':=fun z hz {c} hc=>(M3 (hWv.old (hCi z hz)) hc).mono fun e w' hh=>⟨hh.1,hCo _ (A7 (hCi z hz) hh.2)⟩
 have el: ∀{j:Nat} {x:Fd},σ.X[j]? =some x->∃q,sd.d=some ⟨q,0,none⟩/\∀z,C z->Lds Tryz.prog C7 (.pointer (some ⟨q,j*11,none⟩)) (.agg (x.dt.cs dm0)) z:=fun{j x} hj=>by
  obtain⟨q,e1,e2,e3,_⟩:=(RowN.row hWv.data).1.load hj
  refine⟨q,e1,fun z hz=> ?_⟩
  obtain⟨q',f1,_,_,f4⟩:=(RowN.row (hWv.old (hCi z hz)).data).1.load hj
  rw[e1] at f1
  injection f1 with f1
  injection f1 with f1 _
  subst f1
  exact f4
 have cp: ∀(T':Tm) (a':Act) (z:World),a'.defers=[]->Bh σ k a b c={σ with T:=T'}->HQ B v z gh O σ.last T'->bodyPost Tryz.prog Tryz.f26 (fun e w'=>e=.returned (.tuple #[])/\ActR B w wp gh (Bh σ k a b c) w') .normal a' z:=fun T' a' z hd e hQ=>by
  rw[e] at hok'
  obtain⟨O',d',k',r1,r2⟩:=ActR.hq hWv hQ hok'
  exact(endS _ a' z hd e ⟨O',d',k',r1,hBv.trans r2⟩ a').1
 have cq: ∀(z:World),C z->∀{n:Nat} {T':Tm} {z2:World},HQ B z z2 gh O n T'->HQ B v z2 gh O n T':=fun z hz {n T' z2} hQ=>HQ.pre (hCi z hz) hQ
 have lKv:Lds Tryz.prog 3 (pT g3) (ii k) v:=lK v hv
 refine wp_block ?_
 by_cases k6:k=6/\0<n2
 ·have eS:Bh σ k a b c={σ with T:=Ad4 σ.T (σ.X[n2-1]?.getD .nil) (I2 σ.X b)}:=by unfold Bh;rw[if_neg hmk,<-hn2,if_pos k6]
  refine Zs (Xg (n5:=n2) (b64:=true) h8 rfl rfl lKv (decide_eq_true k6.1) (decide_eq_true Zo) fun a9 h9=>wp_cond_true (h9.look 58 rfl) ?_)
  obtain⟨x,hxx⟩:=nx 2 Zo
  rw[<-hn2] at hxx
  have hn2l:n2<=σ.X.length:=by rw[hn2];have:=V9 σ.Ks a 2;omega
  obtain⟨q,hq1,hq2⟩:=el hxx
  rw[hxx] at eS
  refine Zl (Cx8 (C:=C) (n5:=n2) (x:=x.dt) (mx:=dm0) (y:=(I2 σ.X b).dt) (my:=dm0) (C0:=C) (C1:=fun _ z=>HQ B v z gh O σ.last (Ad4 σ.T x (I2 σ.X b))) h9 rfl rfl rfl hCd ch (cX hq1) Zo (fun w=>by rw[show((n2:Int)-1)=((n2-1:Nat):Int) by omega];exact Q7 Zo w) hq2 cB (dt _ hCd hb) (fun z hz=>hz) (fun z hz=> ?_) fun a10 z er z2 hz hz2 h10=> ?_)
  ·refine(Ai7 (hx.old (hCi z hz)) (hownv.old (hCi z hz)) (h.ok.ok x (List.mem_of_getElem? hxx)) (hdok b)).mono ?_
   rintro e w' ⟨⟨er,r1⟩,r2⟩
   exact⟨er,r1,cq z hz r2⟩
  ·exact B1 (cp _ a10 z2 h10.defers eS hz2)
 have s9: ∀Qn:Exit->Act->World->Prop,(∀a9,Sl 183 a9 [(3,pT g3),(0,pT wp),(5,ii (n2:Int)),(6,ii (n3:Int)),(7,ii (n4:Int)),(8,ii (n1:Int)),(58,.bool false)]->Qn .normal a9 v)->(M1 9).wp Tryz.prog Qn a8 v:=fun Qn hQn=>by
  by_cases hk:k=6
  ·exact Zl (Xg (n5:=n2) (b64:=false) h8 rfl rfl lKv (decide_eq_true hk) (decide_eq_false fun e=>k6 ⟨hk,Zo⟩) fun a9 h9=>hQn a9 (h9.to ⟨rfl,rfl,rfl,rfl,rfl,rfl,rfl,trivial⟩))
  ·exact Zl (Br4 h8 rfl lKv (decide_eq_false hk) fun a9 h9=>hQn a9 (h9.to ⟨rfl,rfl,rfl,rfl,rfl,rfl,rfl,trivial⟩))
 refine wp_seq (s9 _ fun a9 h9=>wp_cond_false (h9.look 58 rfl) ?_)
 by_cases k7:k=7/\0<n3
 ·have eS:Bh σ k a b c={σ with T:=Sm σ.T (σ.X[n3-1]?.getD .nil) (I2 σ.X c) (I2 σ.X b)}:=by unfold Bh;rw[if_neg hmk,<-hn2,if_neg k6,<-hn3,if_pos k7]
  refine Zs (On (n6:=n3) (b89:=true) h9 rfl rfl lKv (decide_eq_true k7.1) (decide_eq_true Zo) fun a10 h10=>wp_cond_true (h10.look 83 rfl) ?_)
  obtain⟨x,hxx⟩:=nx 3 Zo
  rw[<-hn3] at hxx
  have hn3l:n3<=σ.X.length:=by rw[hn3];have:=V9 σ.Ks a 3;omega
  obtain⟨q,hq1,hq2⟩:=el hxx
  rw[hxx] at eS
  refine Zl (Cx9 (C:=C) (n6:=n3) (x:=x.dt) (mx:=dm0) (y:=(I2 σ.X c).dt) (my:=dm0) (z:=(I2 σ.X b).dt) (mz:=dm0) (C0:=C) (C1:=C) (C2:=fun _ z=>HQ B v z gh O σ.last (Sm σ.T x (I2 σ.X c) (I2 σ.X b))) h10 rfl rfl rfl hCd ch (cX hq1) Zo (fun w=>by rw[show((n3:Int)-1)=((n3-1:Nat):Int) by omega];exact Q7 Zo w) hq2 cC cB (dt _ hCd hc) (fun z hz=>hz) (fun z hz=>dt z hz hb) (fun z hz z2 hz2=>hz2) (fun z hz z2 hz2=> ?_) fun a11 z z2 er z3 hz hz2 hz3 h11=> ?_)
  ·refine(Nv (hx.old (hCi z2 hz2)) hB0 (hownv.old (hCi z2 hz2)) (fun o E ho=>by have:=hE o E ho;omega) (h.ok.ok x (List.mem_of_getElem? hxx)) (hdok c) (hdok b)).mono ?_
   rintro e w' ⟨⟨er,r1⟩,r2⟩
   exact⟨er,r1,cq z2 hz2 r2⟩
  ·exact B1 (cp _ a11 z3 h11.defers eS hz3)
 have s11: ∀Qn:Exit->Act->World->Prop,(∀a9,Sl 183 a9 [(3,pT g3),(0,pT wp),(7,ii (n4:Int)),(8,ii (n1:Int)),(83,.bool false)]->Qn .normal a9 v)->(M1 11).wp Tryz.prog Qn a9 v:=fun Qn hQn=>by
  by_cases hk:k=7
  ·exact Zl (On (n6:=n3) (b89:=false) h9 rfl rfl lKv (decide_eq_true hk) (decide_eq_false fun e=>k7 ⟨hk,Zo⟩) fun a9 h9=>hQn a9 (h9.to ⟨rfl,rfl,rfl,rfl,rfl,trivial⟩))
  ·exact Zl (Al5 h9 rfl lKv (decide_eq_false hk) fun a9 h9=>hQn a9 (h9.to ⟨rfl,rfl,rfl,rfl,rfl,trivial⟩))
 refine wp_seq (s11 _ fun a10 h10=>wp_cond_false (h10.look 83 rfl) ?_)
 by_cases k8:k=8/\0<n4
 ·have eS:Bh σ k a b c={σ with T:=Es σ.T n4 (I2 σ.X b)}:=by unfold Bh;rw[if_neg hmk,<-hn2,if_neg k6,<-hn3,if_neg k7,<-hn4,if_pos k8]
  refine Zs (Oo (n7:=n4) (b118:=true) h10 rfl rfl lKv (decide_eq_true k8.1) (decide_eq_true Zo) fun a11 h11=>wp_cond_true (h11.look 112 rfl) ?_)
  have hn4l:n4<=80:=by rw[hn4];exact nl 4
  refine Zl (Cy0 (C:=C) (n7:=n4) (y:=(I2 σ.X b).dt) (my:=dm0) (C0:=C) (C1:=fun _ z=>HQ B v z gh O σ.last (Es σ.T n4 (I2 σ.X b))) h11 rfl rfl rfl hCd ch cB (dt _ hCd hb) (fun z hz=>hz) (fun z hz=> ?_) fun a12 z er z2 hz hz2 h12=> ?_)
  ·refine(Ai8 (hx.old (hCi z hz)) (hownv.old (hCi z hz)) Zo (hdok b)).mono ?_
   rintro e w' ⟨⟨er,r1⟩,r2⟩
   exact⟨.bool er,r1,cq z hz r2⟩
  ·exact B1 (cp _ a12 z2 h12.defers eS hz2)
 have s13: ∀Qn:Exit->Act->World->Prop,(∀a9,Sl 183 a9 [(3,pT g3),(0,pT wp),(8,ii (n1:Int)),(112,.bool false)]->Qn .normal a9 v)->(M1 13).wp Tryz.prog Qn a10 v:=fun Qn hQn=>by
  by_cases hk:k=8
  ·exact Zl (Oo (n7:=n4) (b118:=false) h10 rfl rfl lKv (decide_eq_true hk) (decide_eq_false fun e=>k8 ⟨hk,Zo⟩) fun a9 h9=>hQn a9 (h9.to ⟨rfl,rfl,rfl,rfl,trivial⟩))
  ·exact Zl (Al6 h10 rfl lKv (decide_eq_false hk) fun a9 h9=>hQn a9 (h9.to ⟨rfl,rfl,rfl,rfl,trivial⟩))
 refine wp_seq (s13 _ fun a11 h11=>wp_cond_false (h11.look 112 rfl) ?_)
 by_cases k9:k=9/\0<n1
 ·have eS:Bh σ k a b c={σ with T:=U8 σ.T (σ.X[n1-1]?.getD .nil) (I2 σ.X b) (I2 σ.X c)}:=by unfold Bh;rw[if_neg hmk,<-hn2,if_neg k6,<-hn3,if_neg k7,<-hn4,if_neg k8,<-hn1,if_pos k9]
  refine Zs (Oq (n8:=n1) (b136:=true) h11 rfl rfl lKv (decide_eq_true k9.1) (decide_eq_true Zo) fun a12 h12=>wp_cond_true (h12.look 130 rfl) ?_)
  obtain⟨x,hxx⟩:=nx 1 Zo
  rw[<-hn1] at hxx
  have hn1l:n1<=σ.X.length:=by rw[hn1];have:=V9 σ.Ks a 1;omega
  obtain⟨q,hq1,hq2⟩:=el hxx
  rw[hxx] at eS
  refine Zl (Cy1 (C:=C) (n8:=n1) (x:=x.dt) (mx:=dm0) (y:=pr (I2 σ.X b) (I2 σ.X c)) (C0:=fun p z=>(∃g,p=⟨none,0,some ⟨g,0,none⟩,2⟩/\RowX z (fun b=>b<z.heap.size) (some ⟨g,0,none⟩) [I2 σ.X b,I2 σ.X c])/\C z) (C1:=fun _ z=>HQ B v z gh O σ.last (U8 σ.T x (I2 σ.X b) (I2 σ.X c))) h12 rfl rfl rfl hCd ch (cX hq1) Zo (fun w=>by rw[show((n1:Int)-1)=((n1-1:Nat):Int) by omega];exact Q7 Zo w) hq2 cB cC ((Dc (hWv.old (hCi _ hCd)) hb hc).mono ?_) (fun p z hz=>hz.2) (fun p z hz=> ?_) fun a13 p z er z2 hz hz2 h13=> ?_)
  ·rintro e w' ⟨p,r1,⟨g,r2,_,r3⟩,r4⟩
   exact⟨p,r1,⟨g,r2,r3⟩,hCo _ (A7 (hCi _ hCd) r4)⟩
  ·obtain⟨⟨g,rfl,hr⟩,hz⟩:=hz
   refine(Qq (hx.old (hCi z hz)) (hownv.old (hCi z hz)) (h.ok.ok x (List.mem_of_getElem? hxx)) (hdok b) (hdok c) hr (Nat.le_refl _) (capOk.some Zo)).mono ?_
   rintro e w' ⟨⟨er,r1⟩,r2⟩
   exact⟨er,r1,cq z hz r2⟩
  ·exact B1 (cp _ a13 z2 h13.defers eS hz2)
 have s15: ∀Qn:Exit->Act->World->Prop,(∀a9,Sl 183 a9 [(3,pT g3),(0,pT wp),(130,.bool false)]->Qn .normal a9 v)->(M1 15).wp Tryz.prog Qn a11 v:=fun Qn hQn=>by
  by_cases hk:k=9
  ·exact Zl (Oq (n8:=n1) (b136:=false) h11 rfl rfl lKv (decide_eq_true hk) (decide_eq_false fun e=>k9 ⟨hk,Zo⟩) fun a9 h9=>hQn a9 (h9.to ⟨rfl,rfl,rfl,trivial⟩))
  ·exact Zl (Al7 h11 rfl lKv (decide_eq_false hk) fun a9 h9=>hQn a9 (h9.to ⟨rfl,rfl,rfl,trivial⟩))
 refine wp_seq (s15 _ fun a12 h12=>wp_cond_false (h12.look 130 rfl) ?_)
 by_cases k10:k=10/\0<σ.X.length
 ·have eS:Bh σ k a b c={σ with T:=Qm σ.T (1+M9 a σ.X.length)}:=by unfold Bh;rw[if_neg hmk,<-hn2,if_neg k6,<-hn3,if_neg k7,<-hn4,if_neg k8,<-hn1,if_neg k9,if_pos k10]
  have hp:M9 a σ.X.length<σ.X.length:=Db k10.2
  refine Zs (Ot (dd:=sd.d) (dn:=sd.n) (dc:=sd.c) (b167:=true) h12 rfl rfl lKv (decide_eq_true k10.1) hWv.ld (decide_eq_true (by rw[hsn];omega)) fun a13 h13=>wp_cond_true (h13.look 157 rfl) ?_)
  refine Zl (Cy2 (C:=C) (p:=M9 a σ.X.length) (dd:=sd.d) (dn:=sd.n) (dc:=sd.c) (C0:=C) (C1:=fun _ z=>HQ B v z gh O σ.last (Qm σ.T (1+M9 a σ.X.length))) h13 rfl rfl hCd ch cA (cX rfl) (by
   rw[hsn]
   exact(N9 ha k10.2 _).mono fun e w' hh=>⟨hh.1,by rw[hh.2];exact hCd⟩) (fun z hz=>hz) Zo (fun z hz=> ?_) fun a14 z er z2 hz hz2 h14=> ?_)
  ·have:=Aw7 (hx.old (hCi z hz)) (n:=1+M9 a σ.X.length) Zo
   rw[show((1+M9 a σ.X.length:Nat):Int)=(1:Int)+(M9 a σ.X.length:Int) by omega] at this
   refine this.mono ?_
   rintro e w' ⟨r1,r2⟩
   exact⟨_,r1,cq z hz r2⟩
  ·exact B1 (cp _ a14 z2 h14.defers eS hz2)
 have eS:Bh σ k a b c=σ:=by unfold Bh;rw[if_neg hmk,<-hn2,if_neg k6,<-hn3,if_neg k7,<-hn4,if_neg k8,<-hn1,if_neg k9,if_neg k10]
 have s17: ∀Qn:Exit->Act->World->Prop,(∀a9,Sl 183 a9 [(157,.bool false)]->Qn .normal a9 v)->(M1 17).wp Tryz.prog Qn a12 v:=fun Qn hQn=>by
  by_cases hk:k=10
  ·exact Zl (Ot (dd:=sd.d) (dn:=sd.n) (dc:=sd.c) (b167:=false) h12 rfl rfl lKv (decide_eq_true hk) hWv.ld (decide_eq_false fun e=>k10 ⟨hk,by rw[hsn] at e;omega⟩) fun a9 h9=>hQn a9 (h9.to ⟨rfl,trivial⟩))
  ·exact Zl (Al8 h12 rfl lKv (decide_eq_false hk) fun a9 h9=>hQn a9 (h9.to ⟨rfl,trivial⟩))
 refine wp_seq (s17 _ fun a13 h13=>B9 (h13.look 157 rfl) (B1 ?_))
 exact(endS _ a13 v h13.defers eS ⟨O,sd,sk,hWv,hBv⟩ a13).1
end
end Go.Proofs.YtbjegfpfmnleeaaGreatDoor
