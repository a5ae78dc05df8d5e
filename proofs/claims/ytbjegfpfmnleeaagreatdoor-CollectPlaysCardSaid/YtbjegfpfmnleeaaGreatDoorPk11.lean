/-
   Written by an AI agent.
-/
import Derived.Test.YtbjegfpfmnleeaaGreatDoorPk10
namespace Go.Proofs.YtbjegfpfmnleeaaGreatDoor
open Go.RowKit Go.Sort
def Cel(w:World)(g:Nat):Prop:= ∃t cs,Blk w g t cs
theorem Cel.lt{w:World}{g:Nat}(h:Cel w g):g<w.heap.size:=by obtain⟨t,cs,h⟩:=h;exact h.lt
theorem Cel.keep{w w':World}{g:Nat}(h:Cel w g)(hk:w'.heap[g]? =w.heap[g]?):Cel w' g:=by obtain⟨t,cs,h⟩:=h;exact⟨t,cs,hk.trans h⟩
def SepF(w:World):Nat->Nat->Nat->Nat->Fo->Prop
  | _,_,_,_,.nil=>True
  | lo, hi, b, o, .cons h k r => ∃ m pa pc ia ic, m ≤ hi ∧ CellsAt w b o (h.cells pa pc ia k.len ic) ∧
      (∃q1 q2,lo<=q1/\q1<=q2/\q2<=m/\PathAt w (fun x=>lo<=x/\x<m/\(x<q1\/q2<=x)/\Cel w x) pa h.path/\
        (k.len=0\/∃b' o',ia=some ⟨b',o',none⟩/\q1<=b'/\b'<q2/\Cel w b'/\SepF w (b'+1) q2 b' o' k))/\SepF w m hi b (o+11) r
def SepD(w:World)(lo hi:Nat)(h:Hd)(k:Fo)(pa ia:Option Addr):Prop:=
  ∃ q1 q2, lo ≤ q1 ∧ q1 ≤ q2 ∧ q2 ≤ hi ∧ PathAt w (fun x => lo ≤ x ∧ x < hi ∧ (x < q1 ∨ q2 ≤ x) ∧ Cel w x) pa h.path ∧
    (k.len=0\/∃b o,ia=some ⟨b,o,none⟩/\q1<=b/\b<q2/\Cel w b/\SepF w (b+1) q2 b o k)
theorem Aa5{w:World}{lo hi b o:Nat}{h:Hd}{k r:Fo}:SepF w lo hi b o (.cons h k r)↔∃m pa pc ia ic,m<=hi/\CellsAt w b o (h.cells pa pc ia k.len ic)/\SepD w lo m h k pa ia/\SepF w m hi b (o+11) r:=Iff.rfl
theorem SepD.le{w:World}{lo hi:Nat}{h:Hd}{k:Fo}{pa ia:Option Addr}(d:SepD w lo hi h k pa ia):lo<=hi:=by
 obtain⟨q1,q2,h1,h2,h3,_⟩:=d
 omega
theorem SepF.keep{w w':World}: ∀(f:Fo) (lo hi b o:Nat),SepF w lo hi b o f->(∀x,lo<=x->x<hi->x<w.heap.size->w'.heap[x]? =w.heap[x]?)->
  (∀n v,o<=n->w.cell? ⟨b,n,none⟩=some v->w'.cell? ⟨b,n,none⟩=some v)->SepF w' lo hi b o f
 | .nil,_,_,_,_,_,_,_=>trivial
 | .cons h k r,lo,hi,b,o,⟨m,pa,pc,ia,ic,hm,hc,⟨q1,q2,h1,h2,h3,h4,h5⟩,h6⟩,hk,hb=>by
  refine⟨m,pa,pc,ia,ic,hm,fun j v hv=>hb _ _ Zo (hc j v hv),⟨q1,q2,h1,h2,h3,h4.keep (fun x hx hlt=>hk x hx.1 Zo hlt) (fun x hx hlt=>⟨hx.1,hx.2.1,hx.2.2.1,hx.2.2.2.keep (hk x hx.1 Zo hlt)⟩), ?_⟩,
   SepF.keep r m hi b (o+11) h6 (fun x hx hy=>hk x Zo hy) (fun n v hn=>hb n v Zo)⟩
  rcases h5 with h5 | ⟨b',o',e,g1,g2,g3,g4⟩
  ·exact .inl h5
  ·have hkb:=hk b' Zo Zo g3.lt
   exact .inr ⟨b',o',e,g1,g2,g3.keep hkb,SepF.keep k (b'+1) q2 b' o' g4 (fun x hx hy=>hk x Zo Zo) (fun n v _ hn=>(World.cell?_of_block (w:=w) hkb).trans hn)⟩
theorem SepD.keep{w w':World}{lo hi:Nat}{h:Hd}{k:Fo}{pa ia:Option Addr}(d:SepD w lo hi h k pa ia)(hk: ∀x,lo<=x->x<hi->x<w.heap.size->w'.heap[x]? =w.heap[x]?):SepD w' lo hi h k pa ia:=by
 obtain⟨q1,q2,h1,h2,h3,h4,h5⟩:=d
 refine⟨q1,q2,h1,h2,h3,h4.keep (fun x hx hlt=>hk x hx.1 hx.2.1 hlt) (fun x hx hlt=>⟨hx.1,hx.2.1,hx.2.2.1,hx.2.2.2.keep (hk x hx.1 hx.2.1 hlt)⟩), ?_⟩
 rcases h5 with h5 | ⟨b',o',e,g1,g2,g3,g4⟩
 ·exact .inl h5
 ·have hkb:=hk b' Zo Zo g3.lt
  exact .inr ⟨b',o',e,g1,g2,g3.keep hkb,SepF.keep k (b'+1) q2 b' o' g4 (fun x hx hy=>hk x Zo Zo) (fun n v _ hn=>(World.cell?_of_block (w:=w) hkb).trans hn)⟩
structure Spo (lo hi:Nat) (w w':World):Prop where
 os:w'.os=w.os
 tape:w'.tape=w.tape
 output:w'.output=w.output
 size:w.heap.size<=w'.heap.size
 block: ∀x,x<w.heap.size->x<lo\/hi<=x->w'.heap[x]? =w.heap[x]?
theorem Spo.of_below{lo hi:Nat}{w w':World}(h:Below w.heap.size w w'):Spo lo hi w w':=⟨h.os,h.tape,h.output,h.size,fun x hx _=>h.block x hx⟩
theorem Spo.trans{lo hi:Nat}{w w1 w2:World}(h:Spo lo hi w w1)(g:Spo lo hi w1 w2):Spo lo hi w w2:=
 ⟨g.os.trans h.os,g.tape.trans h.tape,g.output.trans h.output,Nat.le_trans h.size g.size,fun x hx hy=>(g.block x (Nat.lt_of_lt_of_le hx h.size) hy).trans (h.block x hx hy)⟩
theorem Spo.mono{lo hi lo' hi':Nat}{w w':World}(h:Spo lo hi w w')(h1:lo'<=lo)(h2:hi<=hi'):Spo lo' hi' w w':=⟨h.os,h.tape,h.output,h.size,fun x hx hy=>h.block x hx Zo⟩
theorem Spo.setCell{lo hi b o:Nat}(w:World)(v:Value)(h1:lo<=b)(h2:b<hi):Spo lo hi w (w.setCell ⟨b,o,none⟩ v):=
 ⟨rfl,rfl,rfl,by simp[World.setCell],fun x _ hy=>Below.heap_setCell _ _ _ _ (by show x≠b;omega)⟩
theorem Z6(b:Nat): ∀(vs:List Value) (o:Nat) (w:World),(w.setCells b o vs).os=w.os/\(w.setCells b o vs).tape=w.tape/\(w.setCells b o vs).output=w.output
 | [],_,_=>⟨rfl,rfl,rfl⟩
 | _::r,o,_=>Z6 b r (o+1) _
theorem Spo.setCells{lo hi b o:Nat}(w:World)(vs:List Value)(h1:lo<=b)(h2:b<hi):Spo lo hi w (w.setCells b o vs):=by
 obtain⟨e1,e2,e3⟩:=Z6 b vs o w
 exact⟨e1,e2,e3,Nat.le_of_eq (Q5 b vs o w).symm,fun x _ hy=>D9 b vs o w x Zo⟩
theorem Spo.blk{lo hi:Nat}{w w':World}{g:Nat}{t:TypeId}{cs:Array Value}(h:Spo lo hi w w')(hb:Blk w g t cs)(hg:g<lo\/hi<=g):Blk w' g t cs:=(h.block g hb.lt hg).trans hb
theorem Aa6{w:World}{B n:Nat}{v:Value}{l:List Int}(h:w.ownsRow B 3 1 v n (l.map (Value.int .i64))): ∃pa pc,v=.slice pa l.length pc/\PathAt w (fun b=>B<=b/\Cel w b) pa l/\l.length<=pc/\capOk pa pc:=by
 have hn:n=l.length:=by have:=h.1;simpa using this.symm
 subst hn
 rcases h.2 with⟨rfl,h0⟩ | ⟨g,cap,cur,rfl,hg,hh,hc,hm,hs,ht⟩
 ·exact⟨none,0,by rw[h0],.inl (List.eq_nil_of_length_eq_zero h0),Zo,capOk.nil⟩
 ·refine⟨_,cap,rfl,.inr ⟨g,0,rfl,⟨hg,_,_,hh⟩,fun j x hx=> ?_⟩,hc,capOk.some (by unfold maxLen at hm;exact hm)⟩
  rw[cell_of_row w g _ cur _ _ hh,Nat.zero_add]
  have h1:(cur.toList.take (l.length*1))[j]? =some (.int .i64 x):=by rw[ht];simp[hx]
  rw[List.getElem?_take] at h1
  split at h1
  ·simpa using h1
  ·cases h1
theorem PathAt.wider{w:World}{S S':Nat->Prop}{pa:Option Addr}{l:List Int}(h:PathAt w S pa l)(hS: ∀b,S b->S' b):PathAt w S' pa l:=h.keep (fun _ _ _=>rfl) (fun b hb _=>hS b hb)
theorem SepD.mono{w:World}{lo hi lo' hi':Nat}{h:Hd}{k:Fo}{pa ia:Option Addr}(d:SepD w lo hi h k pa ia)(h1:lo'<=lo)(h2:hi<=hi'):SepD w lo' hi' h k pa ia:=by
 obtain⟨q1,q2,g1,g2,g3,g4,g5⟩:=d
 exact⟨q1,q2,Zo,g2,Zo,g4.wider (fun b hb=>⟨Zo,Zo,hb.2.2.1,hb.2.2.2⟩),g5⟩
theorem SepF.of_get{w:World}: ∀(f:Fo) (b o hi:Nat) (ms:Nat->Nat),(∀i a d,f.get i=some (a,d)->ms (i+1)<=hi/\∃pa pc ia ic,CellsAt w b (o+i*11) (a.cells pa pc ia d.len ic)/\SepD w (ms i) (ms (i+1)) a d pa ia)->SepF w (ms 0) hi b o f
 | .nil,_,_,_,_,_=>trivial
 | .cons h k r,b,o,hi,ms,hg=>by
  obtain⟨h0,pa,pc,ia,ic,h1,h2⟩:=hg 0 h k rfl
  rw[Aa5]
  refine⟨ms 1,pa,pc,ia,ic,h0,by simpa using h1,h2,SepF.of_get r b (o+11) hi (fun i=>ms (i+1)) fun i a d e=> ?_⟩
  have:=hg (i+1) a d e
  rwa [show o+(i+1)*11=o+11+i*11 by omega] at this
def HalfS(w:World)(k:Fo)(g j:Nat):Prop:= ∃ms:Nat->Nat,ms 0=g+1/\(∀i,i<=j->g<ms i/\ms i<=w.heap.size)/\
 ∀i a b,i<j->k.get i=some (a,b)->∃pa pc ia ic,CellsAt w g (i*11) (a.cells pa pc ia b.len ic)/\SepD w (ms i) (ms (i+1)) a b pa ia
theorem HalfS.step{wr w6:World}{k:Fo}{g j:Nat}{a:Hd}{b:Fo}{cu:Array Value}{t:TypeId}{qa:Option Addr}{qc:Nat}{ja:Option Addr}{jc:Nat}(gH:HalfS wr k g j)(hlt:g<wr.heap.size)
  (hb6:Below wr.heap.size wr w6) (hget:k.get j=some (a,b)) (hB:Blk w6 g t cu) (hsz:j*11+11<=cu.size) (hs:SepD w6 wr.heap.size w6.heap.size a b qa ja):
  HalfS (w6.setCells g (j*11) (a.cells qa qc ja b.len jc).toList) k g (j+1):=by
 obtain⟨ms,m0,m1,m2⟩:=gH
 have hz:=hb6.size
 have hlen:(a.cells qa qc ja b.len jc).toList.length=11:=by simp[Hd.cells]
 refine⟨fun i=>if i<=j then ms i else w6.heap.size,by simpa using m0,fun i hi=> ?_,fun i c d hi e=> ?_⟩
 ·rw[Q5]
  show g<(if i<=j then ms i else w6.heap.size)/\(if i<=j then ms i else w6.heap.size)<=w6.heap.size
  by_cases hij:i<=j
  ·rw[if_pos hij];have:=m1 i hij;omega
  ·rw[if_neg hij];omega
 ·show ∃pa pc ia ic,_/\SepD _ (if i<=j then ms i else w6.heap.size) (if i+1<=j then ms (i+1) else w6.heap.size) c d pa ia
  by_cases hij:i=j
  ·subst hij
   rw[hget] at e
   injection e with e
   injection e with e1 e2
   subst e1 e2
   have hj:=m1 i (Nat.le_refl _)
   refine⟨qa,qc,ja,jc,fun n v hv=>World.rangeAt_setCells_same w6 g (i*11) _ (O3 hB (by rw[hlen];exact hsz)) n v (by simpa using hv), ?_⟩
   rw[if_pos (Nat.le_refl _),if_neg Zo]
   exact(hs.mono hj.2 (Nat.le_refl _)).keep (fun x h1 _ _=>D9 g _ _ _ x Zo)
  ·obtain⟨pa,pc,ia,ic,h1,h2⟩:=m2 i c d Zo e
   have hi1:=m1 i Zo
   refine⟨pa,pc,ia,ic,fun n v hv=> ?_, ?_⟩
   ·have hn:n<11:=by
     have:n<(c.cells pa pc ia d.len ic).size:=by
      rcases Nat.lt_or_ge n (c.cells pa pc ia d.len ic).size with h | h
      ·exact h
      ·rw[Array.getElem?_eq_none h] at hv;cases hv
     simpa[Hd.cells] using this
    rw[World.cell?_setCells_out g _ (j*11) w6 ⟨g,i*11+n,none⟩ (fun _ _=>by rw[hlen];show i*11+n<j*11\/j*11+11<=i*11+n;omega)]
    exact(hb6.cell (p:=⟨g,i*11+n,none⟩) hlt).trans (h1 n v hv)
   ·rw[if_pos Zo,if_pos Zo]
    exact h2.keep (fun x h1 _ h3=>(D9 g _ _ _ x Zo).trans (hb6.block x h3))
end Go.Proofs.YtbjegfpfmnleeaaGreatDoor
namespace Go.Proofs.YtbjegfpfmnleeaaGreatDoor
open Go.RowKit Go.Sort
set_option maxRecDepth 100000
def PRow(w:World)(S:Nat->Prop)(pa:Option Addr)(n pc:Nat):Prop:=(pa=none/\pc=0/\n=0)\/(0<n/\n<=pc/\pc<=maxLen/\∃g cs,pa=some ⟨g,0,none⟩/\S g/\Blk w g 3 cs/\cs.size=pc)
def IRow(w:World)(S:Nat->Prop)(ia:Option Addr)(n ic:Nat):Prop:=ic=n/\(n=0\/(n<=maxLen/\∃g cs,ia=some ⟨g,0,none⟩/\S g/\Blk w g 53 cs/\cs.size=n*11))
def RowsF(w:World)(S:Nat->Prop):Nat->Nat->Fo->Prop
 | _,_,.nil=>True
 | b,o,.cons h k r=>(∃pa pc ia ic,CellsAt w b o (h.cells pa pc ia k.len ic)/\PRow w S pa h.path.length pc/\IRow w S ia k.len ic/\(k.len=0\/∃b',ia=some ⟨b',0,none⟩/\S b'/\RowsF w S b' 0 k))/\RowsF w S b (o+11) r
def RowsD(w:World)(S:Nat->Prop)(h:Hd)(k:Fo)(m:Dm):Prop:=PRow w S m.pa h.path.length m.pc/\IRow w S m.ia k.len m.ic/\(k.len=0\/∃b',m.ia=some ⟨b',0,none⟩/\S b'/\RowsF w S b' 0 k)
theorem PRow.keep{w w':World}{S T:Nat->Prop}{pa:Option Addr}{n pc:Nat}(h:PRow w S pa n pc)(hk: ∀b,S b->b<w.heap.size->w'.heap[b]? =w.heap[b]?)(hT: ∀b,S b->b<w.heap.size->T b):PRow w' T pa n pc:=by
 rcases h with h | ⟨h1,h2,h3,g,cs,h4,h5,h6,h7⟩
 ·exact .inl h
 ·exact .inr ⟨h1,h2,h3,g,cs,h4,hT g h5 h6.lt,(hk g h5 h6.lt).trans h6,h7⟩
theorem IRow.keep{w w':World}{S T:Nat->Prop}{ia:Option Addr}{n ic:Nat}(h:IRow w S ia n ic)(hk: ∀b,S b->b<w.heap.size->w'.heap[b]? =w.heap[b]?)(hT: ∀b,S b->b<w.heap.size->T b):IRow w' T ia n ic:=by
 rcases h with⟨h0,h | ⟨h3,g,cs,h4,h5,h6,h7⟩⟩
 ·exact⟨h0,.inl h⟩
 ·exact⟨h0,.inr ⟨h3,g,cs,h4,hT g h5 h6.lt,(hk g h5 h6.lt).trans h6,h7⟩⟩
theorem RowsF.keep{w w':World}{S T:Nat->Prop}(hk: ∀b,S b->b<w.heap.size->w'.heap[b]? =w.heap[b]?)(hT: ∀b,S b->b<w.heap.size->T b): ∀(f:Fo) (b o:Nat),(∀n v,o<=n->w.cell? ⟨b,n,none⟩=some v->w'.cell? ⟨b,n,none⟩=some v)->RowsF w S b o f->RowsF w' T b o f
 | .nil,_,_,_,_=>trivial
 | .cons h k r,b,o,hb,⟨⟨pa,pc,ia,ic,h1,h2,h3,h4⟩,h5⟩=>by
  refine⟨⟨pa,pc,ia,ic,fun j v hv=>hb _ _ Zo (h1 j v hv),h2.keep hk hT,h3.keep hk hT, ?_⟩,RowsF.keep hk hT r b (o+11) (fun n v hn=>hb n v Zo) h5⟩
  rcases h4 with h4 | ⟨b',e,hs,h4⟩
  ·exact .inl h4
  ·rcases k with _ | ⟨h',k',r'⟩
   ·exact .inl rfl
   ·have hlt:b'<w.heap.size:=by
     obtain⟨⟨_,_,_,_,q,_⟩,_⟩:=id h4
     exact H0 (q 0 _ rfl)
    exact .inr ⟨b',e,hT b' hs hlt,RowsF.keep hk hT _ b' 0 (fun n v _ hn=>(World.cell?_of_block (w:=w) (hk b' hs hlt)).trans hn) h4⟩
theorem RowsD.keep{w w':World}{S T:Nat->Prop}{h:Hd}{k:Fo}{m:Dm}(d:RowsD w S h k m)(hk: ∀b,S b->b<w.heap.size->w'.heap[b]? =w.heap[b]?)(hT: ∀b,S b->b<w.heap.size->T b):RowsD w' T h k m:=by
 refine⟨d.1.keep hk hT,d.2.1.keep hk hT, ?_⟩
 rcases d.2.2 with h4 | ⟨b',e,hs,h4⟩
 ·exact .inl h4
 ·rcases k with _ | ⟨h',k',r'⟩
  ·exact .inl rfl
  ·have hlt:b'<w.heap.size:=by
    obtain⟨⟨_,_,_,_,q,_⟩,_⟩:=id h4
    exact H0 (q 0 _ rfl)
   exact .inr ⟨b',e,hT b' hs hlt,RowsF.keep hk hT _ b' 0 (fun n v _ hn=>(World.cell?_of_block (w:=w) (hk b' hs hlt)).trans hn) h4⟩
theorem RowsF.of_get{w:World}{S:Nat->Prop}: ∀(f:Fo) (b o:Nat),(∀i a d,f.get i=some (a,d)->∃x:Dm,CellsAt w b (o+i*11) (a.cells x.pa x.pc x.ia d.len x.ic)/\RowsD w S a d x)->RowsF w S b o f
 | .nil,_,_,_=>trivial
 | .cons h k r,b,o,hg=>by
  obtain⟨x,h1,h2,h3,h4⟩:=hg 0 h k rfl
  refine⟨⟨x.pa,x.pc,x.ia,x.ic,by simpa using h1,h2,h3,h4⟩,RowsF.of_get r b (o+11) fun i a d e=> ?_⟩
  have:=hg (i+1) a d e
  rwa [show o+(i+1)*11=o+11+i*11 by omega] at this
structure Dt.sep (d:Dt) (w:World) (lo hi:Nat) (m:Dm):Prop where
 dat:d.at w (fun b=>lo<=b/\b<hi) m
 sp:SepD w lo hi d.h d.k m.pa m.ia
 rows:RowsD w (fun b=>lo<=b/\b<hi) d.h d.k m
theorem Dt.sep.keep{d:Dt}{w w':World}{lo hi:Nat}{m:Dm}(h:d.sep w lo hi m)(hk: ∀x,lo<=x->x<hi->x<w.heap.size->w'.heap[x]? =w.heap[x]?):d.sep w' lo hi m:=
 ⟨h.dat.keep (fun b hb hl=>hk b hb.1 hb.2 hl) (fun _ h _=>h),h.sp.keep hk,h.rows.keep (fun b hb hl=>hk b hb.1 hb.2 hl) (fun _ h _=>h)⟩
theorem Dt.sep.old{d:Dt}{w w':World}{lo hi:Nat}{m:Dm}(h:d.sep w lo hi m)(hb:Below w.heap.size w w'):d.sep w' lo hi m:=h.keep fun x _ _ hl=>hb.block x hl
theorem Dt.sep.mono{d:Dt}{w:World}{lo hi lo' hi':Nat}{m:Dm}(h:d.sep w lo hi m)(h1:lo'<=lo)(h2:hi<=hi'):d.sep w lo' hi' m:=
 ⟨h.dat.keep (fun _ _ _=>rfl) (fun b hb _=>⟨Nat.le_trans h1 hb.1,Nat.lt_of_lt_of_le hb.2 h2⟩),h.sp.mono h1 h2,h.rows.keep (fun _ _ _=>rfl) (fun b hb _=>⟨Nat.le_trans h1 hb.1,Nat.lt_of_lt_of_le hb.2 h2⟩)⟩
def KidS(w:World)(lo hi:Nat)(ia:Option Addr)(k:Fo):Prop:=k.len=0\/∃b o,ia=some ⟨b,o,none⟩/\lo<=b/\b<hi/\Cel w b/\SepF w (b+1) hi b o k
theorem KidS.keep{w w':World}{lo hi:Nat}{ia:Option Addr}{k:Fo}(h:KidS w lo hi ia k)(hk: ∀x,lo<=x->x<hi->x<w.heap.size->w'.heap[x]? =w.heap[x]?):KidS w' lo hi ia k:=by
 rcases h with h | ⟨b,o,e,g1,g2,g3,g4⟩
 ·exact .inl h
 ·have hkb:=hk b g1 g2 g3.lt
  exact .inr ⟨b,o,e,g1,g2,g3.keep hkb,SepF.keep k (b+1) hi b o g4 (fun x hx hy=>hk x Zo hy) (fun n v _ hn=>(World.cell?_of_block (w:=w) hkb).trans hn)⟩
def KidR(w:World)(S:Nat->Prop)(ia:Option Addr)(k:Fo)(ic:Nat):Prop:=IRow w S ia k.len ic/\(k.len=0\/∃b',ia=some ⟨b',0,none⟩/\S b'/\RowsF w S b' 0 k)
theorem KidR.keep{w w':World}{S T:Nat->Prop}{ia:Option Addr}{k:Fo}{ic:Nat}(d:KidR w S ia k ic)(hk: ∀b,S b->b<w.heap.size->w'.heap[b]? =w.heap[b]?)(hT: ∀b,S b->b<w.heap.size->T b):KidR w' T ia k ic:=
 (show RowsD w' T ⟨0,⟨#[]⟩,0,0,⟨#[]⟩,0,0,0,0,[]⟩ k ⟨none,0,ia,ic⟩ from RowsD.keep (m:=⟨none,0,ia,ic⟩) ⟨.inl ⟨rfl,rfl,rfl⟩,d⟩ hk hT).2
theorem Cv9{h:Hd}{k:Fo}{w:World}{lo mid:Nat}{m:Dm}(hd:Dt.at ⟨h,k⟩ w (fun b=>lo<=b) m)(hk:KidS w lo mid m.ia k)(hp:PathAt w (fun b=>mid<=b/\Cel w b) m.pa h.path)(hr:RowsD w (fun b=>lo<=b) h k m)(h1:lo<=mid)(h2:mid<=w.heap.size):Dt.sep ⟨h,k⟩ w lo w.heap.size m:=by
 refine⟨hd.keep (fun _ _ _=>rfl) (fun b hb hl=>⟨hb,hl⟩),⟨lo,mid,Nat.le_refl _,h1,h2,hp.wider (fun b hb=>⟨Nat.le_trans h1 hb.1,hb.2.lt,.inr hb.1,hb.2⟩), ?_⟩,hr.keep (fun _ _ _=>rfl) (fun b hb hl=>⟨hb,hl⟩)⟩
 rcases hk with hk | ⟨b,o,e,g1,g2,g3,g4⟩
 ·exact .inl hk
 ·exact .inr ⟨b,o,e,g1,g2,g3,g4⟩
def We(h:Hd)(k:Fo):Prop:= ∀(w:World) (S:Nat->Prop) (m:Dm),Dt.at ⟨h,k⟩ w S m->
 Calls Tryz.prog 97 #[.agg (Dt.cs ⟨h,k⟩ m)] w fun e w'=> ∃m':Dm,e=.returned (.agg (Dt.cs ⟨h,k⟩ m'))/\(Dt.sep ⟨h,k⟩ w' w.heap.size w'.heap.size m'/\Below w.heap.size w w')
theorem Ak1:(Tryz.prog.info? 53).map (fun i=>decide (i.bytes<=200))=some true:=by kernel_rfl
theorem Ak2(n:Nat)(hn:n<=1034834473170)(w:World): ∃w',(Instr.makeSlice 23 (ii (n:Int)) (ii (n:Int))).run Tryz.prog w=.ok (.slice (some ⟨w.heap.size,0,none⟩) n n) w'/\(∃cur,Blk w' w.heap.size 53 cur/\cur.size=n*11)/\Below w.heap.size w w':=by
 obtain⟨i,hi,hz⟩:=Option.map_eq_some_iff.1 Pz
 obtain⟨i',hi',hby⟩:=Option.map_eq_some_iff.1 Ak1
 rw[hi] at hi'
 injection hi' with hi'
 subst hi'
 injection hz with hz0 hz
 injection hz with hz1 hz2
 have hb:i.bytes<=200:=by simpa using hby
 obtain⟨w',h1,h2,h3⟩:=run_make_full (P:=Tryz.prog) w w.heap.size 23 53 i _ 11 Tryz.underlying23 hi hz0 hz1 .i64 .i64 n (by
  have:i.bytes*n<=200*n:=Nat.mul_le_mul_right _ hb
  omega) (by unfold maxLen;omega) (Nat.le_refl _)
 exact⟨w',h1,Af0 h2,J7 h3⟩
def RowsU(w:World)(k:Fo)(b j:Nat):Prop:= ∀i a d,i<j->k.get i=some (a,d)->∃x:Dm,CellsAt w b (i*11) (a.cells x.pa x.pc x.ia d.len x.ic)/\RowsD w (fun c=>b<c) a d x
theorem RowsU.step{w w6:World}{k:Fo}{b j:Nat}{a:Hd}{d:Fo}{x:Dm}{cu:Array Value}{t:TypeId}(gH:RowsU w k b j)(hlt:b<w.heap.size)(hb6:Below w.heap.size w w6)(hget:k.get j=some (a,d))(hB:Blk w6 b t cu)(hsz:j*11+11<=cu.size)(hd:RowsD w6 (fun c=>b<c) a d x):
  RowsU (w6.setCells b (j*11) (a.cells x.pa x.pc x.ia d.len x.ic).toList) k b (j+1):=by
 intro i c e hi hg
 have hlen:(a.cells x.pa x.pc x.ia d.len x.ic).toList.length=11:=by simp[Hd.cells]
 by_cases hij:i=j
 ·subst hij
  rw[hget] at hg
  injection hg with hg
  injection hg with e1 e2
  subst e1 e2
  exact⟨x,fun n v hv=>World.rangeAt_setCells_same w6 b (i*11) _ (O3 hB (by rw[hlen];exact hsz)) n v (by simpa using hv),hd.keep (fun y h1 _=>B5 _ _ _ (Nat.ne_of_gt h1)) (fun _ h _=>h)⟩
 ·obtain⟨y,h1,h2⟩:=gH i c e Zo hg
  refine⟨y,fun n v hv=> ?_,h2.keep (fun z z1 z2=>(B5 _ _ _ (Nat.ne_of_gt z1)).trans (hb6.block z z2)) (fun _ h _=>h)⟩
  have hn:n<11:=by
   have:n<(c.cells y.pa y.pc y.ia e.len y.ic).size:=(Array.getElem?_eq_some_iff.1 hv).1
   simpa[Hd.cells] using this
  rw[World.cell?_setCells_out b _ (j*11) w6 ⟨b,i*11+n,none⟩ (fun _ _=>by rw[hlen];show i*11+n<j*11\/j*11+11<=i*11+n;omega)]
  exact(hb6.cell (p:=⟨b,i*11+n,none⟩) hlt).trans (h1 n v hv)
theorem Ak3{w:World}{B:Nat}{v:Value}{l:List Int}(h:w.ownsRow B 3 1 v l.length (l.map (Value.int .i64)))(h0:l.length=0->v=.slice none 0 0){pa:Option Addr}{pc:Nat}(e:v=.slice pa l.length pc):PRow w (fun b=>B<=b) pa l.length pc:=by
 rcases h.2 with⟨h1,h2⟩ | ⟨g,cap,cur,h1,hg,hh,hc,hm,hs,ht⟩
 ·rw[h1] at e
  injection e with q1 q2 q3
  exact .inl ⟨q1.symm,q3.symm,q2.symm⟩
 ·rw[h1] at e
  injection e with q1 q2 q3
  subst q1 q3
  rcases Nat.eq_zero_or_pos l.length with hl | hl
  ·rw[h1] at h0
   cases h0 hl
  ·exact .inr ⟨hl,hc,hm,g,cur,rfl,hg,hh,by rw[hs,Nat.mul_one]⟩
set_option maxHeartbeats 2000000 in
theorem Cq(h:Hd)(k:Fo)(ho:h.ok)(hkl:k.len<=1034834473170)(ih: ∀i a b,k.get i=some (a,b)->We a b):We h k:=by
 intro w S m hd
 obtain⟨pa,pc,ia,ic⟩:=m
 refine B6 (vs:=[.agg (Dt.cs ⟨h,k⟩ ⟨pa,pc,ia,ic⟩)]) 40 Tryz.func97 Bn3 Zk (by simp) fun a0 h0=> ?_
 unfold Ax6
 refine Zs (Ee7 h0 rfl fun a1 h1=> ?_)
 have hA1:=(Blk.new w 53 (Dt.cs ⟨h,k⟩ ⟨pa,pc,ia,ic⟩)).alloc (.cells Q1 53)
 have hZ1:=Blk.new1 w (.cells (Dt.cs ⟨h,k⟩ ⟨pa,pc,ia,ic⟩) 53) 53 Q1
 have hb1:=B2 (B2 (Below.refl w.heap.size w) (.cells (Dt.cs ⟨h,k⟩ ⟨pa,pc,ia,ic⟩) 53)) (.cells Q1 53)
 have hs1:(w.alloc (.cells (Dt.cs ⟨h,k⟩ ⟨pa,pc,ia,ic⟩) 53)).heap.size=w.heap.size+1:=by simp
 rw[hs1] at h1
 have hsz:((w.alloc (.cells (Dt.cs ⟨h,k⟩ ⟨pa,pc,ia,ic⟩) 53)).alloc (.cells Q1 53)).heap.size=w.heap.size+2:=by simp
 show Code.wp _ _ _ a1 ((w.alloc (.cells (Dt.cs ⟨h,k⟩ ⟨pa,pc,ia,ic⟩) 53)).alloc (.cells Q1 53))
 generalize (w.alloc (.cells (Dt.cs ⟨h,k⟩ ⟨pa,pc,ia,ic⟩) 53)).alloc (.cells Q1 53)=w1 at hA1 hZ1 hb1 hsz ⊢
 have kids: ∀Q:Exit->Act->World->Prop,(∀a2 w2 l2 ja jc,Sl 40 a2 l2->AllL l2 [(1,pT w.heap.size),(2,.pointer (some ⟨w.heap.size+1,0,none⟩))]->Blk w2 w.heap.size 53 (Dt.cs ⟨h,k⟩ ⟨pa,pc,ja,jc⟩)->Blk w2 (w.heap.size+1) 53 Q1->
   SlAt w2 (fun b=>w.heap.size+1<b) ja k->KidS w2 (w.heap.size+2) w2.heap.size ja k->k.len<=jc->capOk ja jc->KidR w2 (fun b=>w.heap.size+2<=b) ja k jc->Below w.heap.size w w2->Q .normal a2 w2)->
   (Code.seq (V3 1) (.cond (.tmp 8) (.seq (V3 2) (.seq (.seq (V3 3) (.block 0 (.loop Ee6))) (V3 8))) .skip)).wp Tryz.prog Q a1 w1:=fun Q hQ=>by
  cases ia with
  | none=>
   have hk0:k.len=0:=by
    rcases hd.kids with e | ⟨b,o,e,_⟩
    ·exact e
    ·cases e
   refine Zs (Cr8 h1 rfl (A9 hA1 Tryz.underlying23 rfl rfl) (fun w=>run_neq_slice_nil w 23 53 none k.len ic Tryz.underlying23) fun a2 h2=>B9 (h2.look 8 rfl) ?_)
   exact hQ a2 w1 _ none ic h2 ⟨rfl,rfl,trivial⟩ hA1 hZ1 (.inl hk0) (.inl hk0) hd.icLe hd.icMax ⟨⟨(hd.icMax.2 rfl).trans hk0.symm,.inl hk0⟩,.inl hk0⟩ hb1
  | some ad=>
   refine Zs (Cr8 h1 rfl (A9 hA1 Tryz.underlying23 rfl rfl) (fun w=>run_neq_slice_nil w 23 53 (some ad) k.len ic Tryz.underlying23) fun a2 h2=>wp_cond_true (h2.look 8 rfl) ?_)
   obtain⟨w2,hmk,⟨cur,hcur,hcz⟩,hb2⟩:=Ak2 k.len hkl w1
   refine Zs (Ee8 h2 rfl (A9 hA1 Tryz.underlying23 rfl rfl) hmk fun a3 h3=> ?_)
   have hA2:=hA1.below hb2 hA1.lt
   have hZ2:=hZ1.below hb2 hZ1.lt
   have hb02:=A7 hb1 hb2
   have z2:=hb2.size
   have hg3:w1.heap.size<w2.heap.size:=hcur.lt
   refine wp_seq (Zs (Ee9 h3 rfl (A9 hA2 Tryz.underlying23 rfl rfl) fun a4 h4=> ?_))
   refine wp_block ?_
   refine wp_loop (fun a' wr=> ∃j:Nat,j<=k.len/\Sl 40 a' [(16,ii (j:Int)),(15,ii (k.len:Int)),(14,.slice (some ad) k.len ic),(3,.slice (some ⟨w1.heap.size,0,none⟩) k.len k.len),(1,pT w.heap.size),(2,.pointer (some ⟨w.heap.size+1,0,none⟩))]/\
     Blk wr w.heap.size 53 (Dt.cs ⟨h,k⟩ ⟨pa,pc,some ad,ic⟩)/\Blk wr (w.heap.size+1) 53 Q1/\(∃cu,Blk wr w1.heap.size 53 cu/\cu.size=k.len*11)/\Dt8 wr k w1.heap.size j/\HalfS wr k w1.heap.size j/\RowsU wr k w1.heap.size j/\Below w.heap.size w wr) (fun a' _=>G1 k.len (F9 a' 16))
    ⟨0,Zo,h4.to ⟨rfl,rfl,rfl,rfl,rfl,rfl,trivial⟩,hA2,hZ2,⟨cur,hcur,hcz⟩,fun i a b hi=>absurd hi Zo,⟨fun _=>w1.heap.size+1,rfl,fun i _=>⟨by show w1.heap.size<w1.heap.size+1;omega,by show w1.heap.size+1<=w2.heap.size;omega⟩,fun i a b hi=>absurd hi Zo⟩,fun i a b hi=>absurd hi Zo,hb02⟩ ?_
   rintro a5 w5 ⟨j,hj,h5,hA5,hZ5,⟨cu,hcu,hcuz⟩,hU5,hH5,hR5,hb5⟩
   rw[h5.look 16 rfl,B4]
   unfold Ee6
   by_cases hlt:j<k.len
   ·refine Zs (Cr9 h5 rfl rfl (decide_eq_true Zo) fun a6 h6=> ?_)
    refine wp_seq (wpn (h6.look 17 rfl) ?_)
    obtain⟨x,y,hxy⟩:=Fo.get_lt k j hlt
    have hd5:=hd.old hb5
    obtain⟨b,o,had,hbS,qa,qc,ja,jc,hcs,hda⟩:=hd5.kids.get hxy
    have had':(⟨b,o,none⟩:Addr)=ad:=by injection had with e;exact e.symm
    subst had'
    have hz:=Blk.new w5 53 Q1
    have hblt:b<w5.heap.size:=H0 (hcs 0 _ rfl)
    refine wp_seq (wp_block ?_)
    refine Zs (Ef0 (d20:=⟨x,y⟩) (m20:=⟨qa,qc,ja,jc⟩) h6 rfl rfl (fun w=>J2 j Tryz.underlying23 K4 hlt w) (Bo7 (cs:=(Dt.cs ⟨x,y⟩ ⟨qa,qc,ja,jc⟩).toList) Tryz.underlying53 rfl K4 (fun n v hv=>hcs n v (by rw[Array.getElem?_toList] at hv;exact hv))) (D1 hz Zd) fun a7 h7=> ?_)
    have hB7:=Gx hz rfl ⟨x,y⟩ ⟨qa,qc,ja,jc⟩
    have hb7:=C8 (Dt.cs ⟨x,y⟩ ⟨qa,qc,ja,jc⟩).toList 0 _ (B2 (Below.refl w5.heap.size w5) (.cells Q1 53)) (Nat.le_refl _)
    show Code.wp _ _ _ a7 (World.setCells (w5.alloc (.cells Q1 53)) w5.heap.size 0 (Dt.cs ⟨x,y⟩ ⟨qa,qc,ja,jc⟩).toList)
    generalize World.setCells (w5.alloc (.cells Q1 53)) w5.heap.size 0 (Dt.cs ⟨x,y⟩ ⟨qa,qc,ja,jc⟩).toList=w7 at hB7 hb7 ⊢
    have hda7:Dt.at ⟨x,y⟩ w7 S ⟨qa,qc,ja,jc⟩:=Dt.at.old (d:=⟨x,y⟩) (m:=⟨qa,qc,ja,jc⟩) hda hb7
    have hcu7:=hcu.below hb7 hcu.lt
    refine Zl (Ef1 h7 rfl rfl rfl (G8 hB7) (ih j x y hxy w7 S ⟨qa,qc,ja,jc⟩ hda7) (fun w=>Aj9 (o:=j*11) (sz:=11) j rfl Tryz.underlying23 K4 hlt rfl w)
     (fun m8 w8 h8=>D1 (hcu7.below h8.2 hcu7.lt) (by rw[hcuz];omega)) fun a8 m8 w8 hx8 h8=>B1 ?_)
    obtain⟨hda8,hb8⟩:=hx8
    show Code.wp _ (V3 7) _ a8 _
    have hb58:=A7 hb7 hb8
    have hcu8:=hcu7.below hb8 hcu7.lt
    have hlt5:w1.heap.size<w5.heap.size:=hcu.lt
    have hU8:=Tg (qa:=m8.pa) (qc:=m8.pc) (ja:=m8.ia) (jc:=m8.ic) hU5 hlt5 hb58 hxy hcu8 (by rw[hcuz];omega) (hda8.dat.keep (fun _ _ _=>rfl) (fun c hc _=>Nat.le_trans hb7.size hc.1))
    have hH8:=HalfS.step (qa:=m8.pa) (qc:=m8.pc) (ja:=m8.ia) (jc:=m8.ic) hH5 hlt5 hb58 hxy hcu8 (by rw[hcuz];omega) (hda8.sp.mono hb7.size (Nat.le_refl _))
    have hR8:=RowsU.step (x:=m8) hR5 hlt5 hb58 hxy hcu8 (by rw[hcuz];omega) (hda8.rows.keep (fun _ _ _=>rfl) (fun c hc _=>by have:=hb7.size;have:=hc.1;omega))
    have z5:=hA5.lt
    have z5':=hZ5.lt
    have hne1:w.heap.size≠w1.heap.size:=by omega
    have hne2:w.heap.size+1≠w1.heap.size:=by omega
    have hA8:=Blk.farL (b:=w1.heap.size) hne1 (Dt.cs ⟨x,y⟩ m8).toList (j*11) _ ((hA5.below hb58 z5))
    have hZ8:=Blk.farL (b:=w1.heap.size) hne2 (Dt.cs ⟨x,y⟩ m8).toList (j*11) _ ((hZ5.below hb58 z5'))
    have hcu9: ∃cu,Blk (w8.setCells w1.heap.size (j*11) (Dt.cs ⟨x,y⟩ m8).toList) w1.heap.size 53 cu/\cu.size=k.len*11:=⟨_,Blk.setL _ _ _ _ hcu8,by rw[K5,hcuz]⟩
    have hb9:Below w.heap.size w (w8.setCells w1.heap.size (j*11) (Dt.cs ⟨x,y⟩ m8).toList):=C8 _ _ _ (A7 hb5 hb58) Zo
    refine Zl (Ef2 h8 rfl Zo fun a9 h9=>⟨⟨j+1,Zo,h9.to ⟨rfl,rfl,rfl,rfl,rfl,rfl,trivial⟩,hA8,hZ8,hcu9,hU8,hH8,hR8,hb9⟩, ?_⟩)
    rw[h9.look 16 rfl]
    show G1 k.len (ii ((j+1:Nat):Int))<_
    rw[B4]
    omega
   ·have hje:j=k.len:=by omega
    subst hje
    refine Zs (Cr9 h5 rfl rfl (decide_eq_false Zo) fun a6 h6=> ?_)
    refine wp_seq (C9 (h6.look 17 rfl) ?_)
    refine A8 (A8 (B8 ?_))
    show Code.wp _ (V3 8) _ a6 w5
    refine Zl (Ef3 h6 rfl rfl (F2 hA5 Zk (by rw[Dt.cs_size];omega) rfl) fun a7 h7=> ?_)
    have hA6:=hA5.set_ 10 (.slice (some ⟨w1.heap.size,0,none⟩) k.len k.len)
    have z5:=hcu.lt
    have hne: ∀b,w.heap.size+1<b->b≠w.heap.size:=fun b hb=>by omega
    have hfo:FoAt w5 (fun b=>w.heap.size+1<b) w1.heap.size 0 k:=FoAt.of_get k _ _ fun i a b hg=>by
     obtain⟨qa,qc,ja,jc,q1,q2⟩:=hU5 i a b (Fo.get_len _ _ _ hg) hg
     exact⟨qa,qc,ja,jc,by rw[Nat.zero_add];exact q1,q2.keep (fun _ _ _=>rfl) (fun c hc _=>by omega)⟩
    have hsl:SlAt w5 (fun b=>w.heap.size+1<b) (some ⟨w1.heap.size,0,none⟩) k:=.inr ⟨_,_,rfl,Zo,hfo⟩
    have hks:KidS w5 (w.heap.size+2) w5.heap.size (some ⟨w1.heap.size,0,none⟩) k:=by
     obtain⟨ms,e0,e1,e2⟩:=hH5
     refine .inr ⟨w1.heap.size,0,rfl,Zo,z5,⟨_,_,hcu⟩, ?_⟩
     rw[<-e0]
     exact SepF.of_get k _ 0 _ ms fun i a d hg=>by
      have hi:=Fo.get_len _ _ _ hg
      obtain⟨pa,pc,ia,ic,f1,f2⟩:=e2 i a d hi hg
      exact⟨(e1 (i+1) Zo).2,pa,pc,ia,ic,by rw[Nat.zero_add];exact f1,f2⟩
    have hrf:RowsF w5 (fun c=>w1.heap.size<c) w1.heap.size 0 k:=RowsF.of_get k _ 0 fun i a d hg=>by
     obtain⟨x,f1,f2⟩:=hR5 i a d (Fo.get_len _ _ _ hg) hg
     exact⟨x,by rw[Nat.zero_add];exact f1,f2⟩
    have hkr:KidR w5 (fun b=>w.heap.size+2<=b) (some ⟨w1.heap.size,0,none⟩) k k.len:=by
     refine⟨⟨rfl,.inr ⟨by unfold maxLen;omega,w1.heap.size,cu,rfl,Zo,hcu,hcuz⟩⟩,.inr ⟨w1.heap.size,rfl,Zo, ?_⟩⟩
     exact RowsF.keep (fun _ _ _=>rfl) (fun b hb _=>by omega) k _ 0 (fun _ _ _ h=>h) hrf
    refine hQ a7 _ _ (some ⟨w1.heap.size,0,none⟩) k.len h7 ⟨rfl,rfl,trivial⟩ hA6 (hZ5.far (p:=⟨w.heap.size,10,none⟩) (by show _≠w.heap.size;omega) _) ?_ ?_ (Nat.le_refl _) (capOk.some Zo) (hkr.keep (fun b hb _=>B5 [_] 10 w5 Zo) (fun _ h _=>h)) (C8 [_] 10 _ hb5 (Nat.le_refl _))
    ·exact hsl.keep (fun b hb _=>B5 [_] 10 w5 (hne b hb)) (fun _ h _=>h)
    ·rw[show(w5.setCells w.heap.size 10 [.slice (some ⟨w1.heap.size,0,none⟩) k.len k.len]).heap.size=w5.heap.size from B7 _ _ _ _]
     exact hks.keep (fun x hx _ _=>B5 [_] 10 w5 Zo)
 refine wp_seq (kids _ fun a2 w2 l2 ja jc h2 hl2 hA2 hZ2 hk2 hs2 hjc1 hjc2 hkr2 hb2=> ?_)
 clear kids
 have h2:=h2.to hl2
 have done: ∀(a3:Act) (w3:World) (l3:List (Nat×Value)) (qa:Option Addr) (qc:Nat),Sl 40 a3 l3->AllL l3 [(1,pT w.heap.size),(2,.pointer (some ⟨w.heap.size+1,0,none⟩))]->Blk w3 w.heap.size 53 (Dt.cs ⟨h,k⟩ ⟨qa,qc,ja,jc⟩)->Blk w3 (w.heap.size+1) 53 Q1->
   PathAt w3 (fun b=>w2.heap.size<=b/\Cel w3 b) qa h.path->KidS w3 (w.heap.size+2) w2.heap.size ja k->w2.heap.size<=w3.heap.size->h.path.length<=qc->capOk qa qc->PRow w3 (fun b=>w2.heap.size<=b) qa h.path.length qc->KidR w3 (fun b=>w.heap.size+2<=b) ja k jc->SlAt w3 (fun b=>w.heap.size+1<b) ja k->Below w.heap.size w w3->
   (Code.seq (V3 11) .ret).wp Tryz.prog (bodyPost Tryz.prog Tryz.f97 fun e w'=> ∃m':Dm,e=.returned (.agg (Dt.cs ⟨h,k⟩ m'))/\(Dt.sep ⟨h,k⟩ w' w.heap.size w'.heap.size m'/\Below w.heap.size w w')) a3 w3:=fun a3 w3 l3 qa qc h3 hl3 hA3 hZ3 hp hks hsz3 hpc hpm hpr hkr hk hb3=>by
  refine Zs (Cs2 (d39:=⟨h,k⟩) (m39:=⟨qa,qc,ja,jc⟩) (h3.to hl3) rfl rfl (G8 hA3) (D1 hZ3 Zd) fun a4 h4=>wp_ret ?_)
  have hB:=Gx hZ3 rfl ⟨h,k⟩ ⟨qa,qc,ja,jc⟩
  have hne: ∀b,w.heap.size+1<b->b≠w.heap.size+1:=fun b hb=>by omega
  have z2:=hZ2.lt
  have hs4:(w3.setCells (w.heap.size+1) 0 (Dt.cs ⟨h,k⟩ ⟨qa,qc,ja,jc⟩).toList).heap.size=w3.heap.size:=B7 _ _ _ _
  have hsep:Dt.sep ⟨h,k⟩ w3 (w.heap.size+2) w3.heap.size ⟨qa,qc,ja,jc⟩:=Cv9 ⟨hp.wider (fun b hb=>by have:=hb.1;show w.heap.size+2<=b;omega),hpc,hpm,hk.keep (fun _ _ _=>rfl) (fun b hb _=>by show w.heap.size+2<=b;omega),hjc1,hjc2⟩ hks hp ⟨hpr.keep (fun _ _ _=>rfl) (fun b hb _=>by show w.heap.size+2<=b;omega),hkr⟩ Zo hsz3
  refine Gy rfl h4 rfl (G8 hB) ⟨⟨qa,qc,ja,jc⟩,rfl, ?_,C8 _ _ _ hb3 Zo⟩
  exact(hsep.keep (fun x hx _ _=>B5 _ 0 w3 Zo)).mono Zo (Nat.le_of_eq hs4.symm)
 cases pa with
 | none=>
  have hp0:h.path=[]:=by
   rcases hd.path with e | ⟨b,o,e,_⟩
   ·exact e
   ·cases e
  refine wp_seq (Zs (Cs0 h2 rfl (A9 hA2 Tryz.underlying24 rfl rfl) (fun w=>run_neq_slice_nil w 24 3 none h.path.length pc Tryz.underlying24) fun a3 h3=>B9 (h3.look 32 rfl) ?_))
  exact done a3 w2 _ none pc h3 ⟨rfl,rfl,trivial⟩ hA2 hZ2 (.inl hp0) hs2 (Nat.le_refl _) hd.pcLe hd.pcMax (.inl ⟨rfl,hd.pcMax.2 rfl,by rw[hp0];rfl⟩) hkr2 hk2 hb2
 | some ad=>
  refine wp_seq (Zs (Cs0 h2 rfl (A9 hA2 Tryz.underlying24 rfl rfl) (fun w=>run_neq_slice_nil w 24 3 (some ad) h.path.length pc Tryz.underlying24) fun a3 h3=>wp_cond_true (h3.look 32 rfl) ?_))
  obtain⟨i0,hi,hz0,hz1,hz2⟩:=info_parts Py
  have hp1:=Lq ((hd.old hb2).path)
  have happ: ∀ty,∃(v:S3) (w':World),(Builtin.append_ #[24,24] ty #[.slice none 0 0,.slice (some ad) h.path.length pc]).run Tryz.prog w2=.ok v.v w'/\(v.n=h.path.length/\PathAt w' (fun b=>w2.heap.size<=b/\Cel w' b) v.d h.path/\h.path.length<=v.c/\(capOk v.d v.c/\PRow w' (fun b=>w2.heap.size<=b) v.d h.path.length v.c)/\Below w2.heap.size w2 w'):=fun ty=>by
   have hpl:=ho.path
   obtain⟨v',w',hr,hown,hg,hnl⟩:=run_append_own (P:=Tryz.prog) (w:=w2) w2.heap.size 24 ty 3 i0 _ 1 8 Tryz.underlying24 hi hz0 hz1 hz2 rfl Zo (.slice none 0 0) 0 [] ⟨rfl,.inl ⟨rfl,rfl⟩⟩ ad h.path.length pc (h.path.map (Value.int .i64)) (by simp) hp1 (fun u hu=>by
    obtain⟨c,_,rfl⟩:=List.mem_map.1 hu
    rfl) (by unfold maxLen;omega) Zo (Nat.le_refl _)
   obtain⟨qa,qc,hv,h1,h2,h3⟩:=Aa6 (by simpa using hown)
   have hpr:=Ak3 (l:=h.path) (by simpa using hown) (fun e=>hnl.2 ⟨rfl,e⟩) hv
   subst hv
   exact⟨⟨qa,h.path.length,qc⟩,w',hr,rfl,h1,h2,⟨h3,hpr⟩,J7 hg⟩
  refine Zl (Cs1 h3 rfl (A9 hA2 Tryz.underlying24 rfl rfl) happ (fun x w' hx=>F2 (hA2.below hx.2.2.2.2 hA2.lt) Zk (by rw[Dt.cs_size];omega) rfl) fun a4 x w4 hx h4=> ?_)
  obtain⟨hxn,hxp,hxc,hxm,hb4⟩:=hx
  have hA4:=(hA2.below hb4 hA2.lt).set_ (5+4) (.slice x.d x.n x.c)
  rw[hxn] at hA4 ⊢
  have z2:=hZ2.lt
  have hne: ∀b,w2.heap.size<=b->b≠w.heap.size:=fun b hb=>by omega
  have hne2: ∀b,w.heap.size+1<b->b≠w.heap.size:=fun b hb=>by omega
  exact done a4 _ _ x.d x.c h4 ⟨rfl,rfl,trivial⟩ hA4 ((hZ2.below hb4 hZ2.lt).far (p:=⟨w.heap.size,5+4,none⟩) (by show _≠w.heap.size;omega) _)
   (hxp.keep (fun b hb _=>B5 [_] (5+4) w4 (hne b hb.1)) (fun b hb _=>⟨hb.1,hb.2.keep (B5 [_] (5+4) w4 (hne b hb.1))⟩)) (hs2.keep (fun b hb _ hlt=>(B5 [_] (5+4) w4 Zo).trans (hb4.block b hlt))) (by have q1:=B7 w.heap.size [.slice x.d h.path.length x.c] (5+4) w4;have q2:=hb4.size;omega) hxc hxm.1 (hxm.2.keep (fun b hb _=>B5 [_] (5+4) w4 (hne b hb)) (fun _ h _=>h)) (hkr2.keep (fun b hb hlt=>(B5 [_] (5+4) w4 Zo).trans (hb4.block b hlt)) (fun _ h _=>h))
   (hk2.keep (fun b hb hlt=>(B5 [_] (5+4) w4 (hne2 b hb)).trans (hb4.block b hlt)) (fun _ h _=>h)) (C8 [_] (5+4) _ (A7 hb2 hb4) (Nat.le_refl _))
theorem V5: ∀(f:Fo),f.ok->∀i a b,f.get i=some (a,b)->We a b
 | .nil,_,i,a,b,e=>by cases e
 | .cons h k r,o,0,a,b,e=>by
  simp only[Fo.get,Option.some.injEq,Prod.mk.injEq] at e
  obtain⟨rfl,rfl⟩:=e
  exact Cq h k o.1 o.2.2.2 (V5 k o.2.1)
 | .cons h k r,o,i+1,a,b,e=>V5 r o.2.2.1 i a b e
theorem V6{d:Dt}(ho:d.ok){w:World}{S:Nat->Prop}{m:Dm}(hd:d.at w S m):
  Calls Tryz.prog 97 #[.agg (d.cs m)] w fun e w'=> ∃m':Dm,e=.returned (.agg (d.cs m'))/\(d.sep w' w.heap.size w'.heap.size m'/\Below w.heap.size w w'):=
 Cq d.h d.k ho.h ho.len (V5 d.k ho.k) w S m hd
theorem V7{d:Dt}(ho:d.ok){w:World}{S:Nat->Prop}{m:Dm}(hd:d.at w S m):
  Calls Tryz.prog 97 #[.agg (d.cs m)] w fun e w'=> ∃m':Dm,e=.returned (.agg (d.cs m'))/\(d.at w' (fun b=>w.heap.size<=b) m'/\Below w.heap.size w w'):=
 (V6 ho hd).mono fun _ _ ⟨m',h1,h2,h3⟩=>⟨m',h1,h2.dat.keep (fun _ _ _=>rfl) (fun _ hb _=>hb.1),h3⟩
end Go.Proofs.YtbjegfpfmnleeaaGreatDoor
