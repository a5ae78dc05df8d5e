/-
   Written by an AI agent.
-/
import Derived.WalkKit
import Derived.Below
import Derived.Deep.Draws
import Derived.Test.YtbjegfpfmnleeaaGreatDoorChecked
import Derived.ProofKit
import Derived.Deep.Slices
import Derived.ChangeSlices
import Derived.Test.YtbjegfpfmnleeaaGreatDoorProg
import Derived.WalkLawsBesides
import Derived.WalkSpells
import Derived.Deep.LoopGhost
import Derived.Lib.Hide
import Derived.Outline
import Derived.Lib.Strings
import Derived.Lib.ConvBytes
import Derived.Deep.Cut
import Derived.Deep.DeepCutAuto
import Derived.Test.YtbjegfpfmnleeaaGreatDoorRows
import Derived.LaidMore
import Derived.LaidLaws
import Derived.LaidHandle
import Derived.OpenShut
import Derived.Stop.Joined
namespace Go.Proofs.YtbjegfpfmnleeaaGreatDoor
open Go.RowKit
theorem Zo{P:Prop}(h:P:=by omega):P:=h
theorem Zk{P:Prop}(h:P:=by kernel_rfl):P:=h
theorem Zd{P:Prop}(h:P:=by decide):P:=h
structure Hd where
 kind:Int
 type:ByteArray
 n:Int
 f:Int
 s:ByteArray
 obj:Int
 frm:Int
 len:Int
 cap:Int
 path:List Int
inductive Fo where
 | nil
 | cons (h:Hd) (kids rest:Fo)
namespace Fo
def len:Fo->Nat
 | .nil=>0
 | .cons _ _ r=>r.len+1
def get:Fo->Nat->Option (Hd×Fo)
 | .nil,_=>none
 | .cons h k _,0=>some (h,k)
 | .cons _ _ r,i+1=>r.get i
def drop:Fo->Nat->Fo
 | f,0=>f
 | .nil,_+1=>.nil
 | .cons _ _ r,i+1=>r.drop i
@[simp] theorem drop_zero (f:Fo):f.drop 0=f:=by cases f<;>rfl
@[simp] theorem drop_nil (i:Nat):Fo.nil.drop i=.nil:=by cases i<;>rfl
theorem len_cons(h:Hd)(k r:Fo):(Fo.cons h k r).len=r.len+1:=rfl
theorem get_lt: ∀(f:Fo) (i:Nat),i<f.len->∃h k,f.get i=some (h,k)
 | .nil,i,hi=>absurd hi (by simp[len])
 | .cons h k r,0,_=>⟨h,k,rfl⟩
 | .cons _ _ r,i+1,hi=>get_lt r i (by simp[len] at hi;omega)
theorem drop_get: ∀(f:Fo) (i:Nat) (h:Hd) (k:Fo),f.get i=some (h,k)->f.drop i=.cons h k (f.drop (i+1))
 | .cons h k r,0,h',k',e=>by
  simp only[get,Option.some.injEq,Prod.mk.injEq] at e
  obtain⟨rfl,rfl⟩:=e
  simp[drop]
 | .cons h k r,i+1,h',k',e=>by
  have:=drop_get r i h' k' e
  simpa[drop] using this
theorem drop_len: ∀(f:Fo) (i:Nat),f.len<=i->f.drop i=.nil
 | .nil,i,_=>by simp
 | .cons h k r,0,hi=>absurd hi (by simp[len])
 | .cons h k r,i+1,hi=>by simp only[drop];exact drop_len r i (by simp[len] at hi;omega)
theorem len_eq_zero: ∀(f:Fo),f.len=0->f=.nil
 | .nil,_=>rfl
 | .cons _ _ _,h=>by simp[len] at h
theorem get_len: ∀(f:Fo) (i:Nat) (x:Hd×Fo),f.get i=some x->i<f.len
 | .nil,_,_,h=>by simp[get] at h
 | .cons _ _ r,0,_,_=>by simp[len]
 | .cons _ _ r,i+1,x,h=>by have:=get_len r i x h;simp only[len];omega
end Fo
def F8(n:Int):Prop:= -9223372036854775808<=n/\n<=9223372036854775807
structure Hd.ok (h:Hd):Prop where
 kind:F8 h.kind
 n:F8 h.n
 f0:0<=h.f
 f1:h.f<=18446744073709551615
 obj:F8 h.obj
 frm:F8 h.frm
 len:F8 h.len
 cap:F8 h.cap
 type:h.type.size<=140737488351232
 s:h.s.size<=140737488351232
 path:h.path.length<=17592186043904
 each: ∀(j:Nat) (x:Int),h.path[j]? =some x->F8 x
def Fo.ok:Fo->Prop
 | .nil=>True
 | .cons h k r=>h.ok/\k.ok/\r.ok/\k.len<=1034834473170
theorem Fo.ok_get: ∀(f:Fo) (i:Nat) (h:Hd) (k:Fo),f.ok->f.get i=some (h,k)->h.ok/\k.ok/\k.len<=1034834473170
 | .cons h k r,0,h',k',o,e=>by
  simp only[get,Option.some.injEq,Prod.mk.injEq] at e
  obtain⟨rfl,rfl⟩:=e
  exact⟨o.1,o.2.1,o.2.2.2⟩
 | .cons h k r,i+1,h',k',o,e=>ok_get r i h' k' o.2.2.1 e
def Hd.cells(h:Hd)(pa:Option Addr)(pc:Nat)(ia:Option Addr)(il ic:Nat):Array Value:=
 #[.int .i64 h.kind,.string h.type,.int .i64 h.n,.int .u64 h.f,.string h.s,.int .i64 h.obj,.int .i64 h.frm,.int .i64 h.len,.int .i64 h.cap,.slice pa h.path.length pc,.slice ia il ic]
def PathAt(w:World)(S:Nat->Prop)(pa:Option Addr)(l:List Int):Prop:=
 l=[]\/∃b o,pa=some ⟨b,o,none⟩/\S b/\∀(j:Nat) (x:Int),l[j]? =some x->w.cell? ⟨b,o+j,none⟩=some (.int .i64 x)
def CellsAt(w:World)(b o:Nat)(vs:Array Value):Prop:= ∀(j:Nat) (v:Value),vs[j]? =some v->w.cell? ⟨b,o+j,none⟩=some v
def capOk(a:Option Addr)(c:Nat):Prop:=c<=9223372036854775807/\(a=none->c=0)
theorem capOk.some{a:Addr}{c:Nat}(h:c<=9223372036854775807):capOk (some a) c:=⟨h,fun e=>by cases e⟩
theorem capOk.nil:capOk none 0:=⟨Nat.zero_le _,fun _=>rfl⟩
def FoAt(w:World)(S:Nat->Prop):Nat->Nat->Fo->Prop
 | _,_,.nil=>True
 | b,o,.cons h k r=>(∃pa pc ia ic,CellsAt w b o (h.cells pa pc ia k.len ic)/\PathAt w S pa h.path/\h.path.length<=pc/\capOk pa pc/\k.len<=ic/\capOk ia ic/\
   (k.len=0\/∃b' o',ia=some ⟨b',o',none⟩/\S b'/\FoAt w S b' o' k))/\FoAt w S b (o+11) r
def SlAt(w:World)(S:Nat->Prop)(ia:Option Addr)(k:Fo):Prop:=k.len=0\/∃b o,ia=some ⟨b,o,none⟩/\S b/\FoAt w S b o k
structure DatAt (w:World) (S:Nat->Prop) (h:Hd) (k:Fo) (pa:Option Addr) (pc:Nat) (ia:Option Addr) (ic:Nat):Prop where
 path:PathAt w S pa h.path
 pcLe:h.path.length<=pc
 pcMax:capOk pa pc
 kids:SlAt w S ia k
 icLe:k.len<=ic
 icMax:capOk ia ic
theorem H0{w:World}{b o:Nat}{v:Value}(h:w.cell? ⟨b,o,none⟩=some v):b<w.heap.size:=by
 rcases Nat.lt_or_ge b w.heap.size with h1 | h1
 ·exact h1
 ·simp[World.cell?,Array.getElem?_eq_none h1] at h
theorem PathAt.keep{w w':World}{S S':Nat->Prop}{pa:Option Addr}{l:List Int}(h:PathAt w S pa l)
  (hk: ∀b,S b->b<w.heap.size->w'.heap[b]? =w.heap[b]?) (hS: ∀b,S b->b<w.heap.size->S' b):PathAt w' S' pa l:=by
 rcases h with h | ⟨b,o,h1,h2,h3⟩
 ·exact .inl h
 ·rcases l with _ | ⟨x,l⟩
  ·exact .inl rfl
  ·have hlt:b<w.heap.size:=H0 (h3 0 x rfl)
   exact .inr ⟨b,o,h1,hS b h2 hlt,fun j y hy=>(World.cell?_of_block (w:=w) (hk b h2 hlt)).trans (h3 j y hy)⟩
theorem FoAt.keep{w w':World}{S S':Nat->Prop}(hk: ∀b,S b->b<w.heap.size->w'.heap[b]? =w.heap[b]?)(hS: ∀b,S b->b<w.heap.size->S' b):
  ∀(f:Fo) (b o:Nat),S b->FoAt w S b o f->FoAt w' S' b o f
 | .nil,_,_,_,_=>trivial
 | .cons h k r,b,o,hb,⟨⟨pa,pc,ia,ic,h1,h2,h3,h3',h4,h4',h5⟩,h6⟩=>by
  have hlt:b<w.heap.size:=H0 (h1 0 _ rfl)
  refine⟨⟨pa,pc,ia,ic,fun j v hv=>(World.cell?_of_block (w:=w) (hk b hb hlt)).trans (h1 j v hv),h2.keep hk hS,h3,h3',h4,h4', ?_⟩,FoAt.keep hk hS r b (o+11) hb h6⟩
  rcases h5 with h5 | ⟨b',o',e,hb',h5⟩
  ·exact .inl h5
  ·rcases k with _ | ⟨h',k',r'⟩
   ·exact .inl rfl
   ·obtain⟨⟨_,_,_,_,h7,_⟩,_⟩:=id h5
    exact .inr ⟨b',o',e,hS b' hb' (H0 (h7 0 _ rfl)),FoAt.keep hk hS _ b' o' hb' h5⟩
theorem SlAt.keep{w w':World}{S S':Nat->Prop}{ia:Option Addr}{k:Fo}(h:SlAt w S ia k)
  (hk: ∀b,S b->b<w.heap.size->w'.heap[b]? =w.heap[b]?) (hS: ∀b,S b->b<w.heap.size->S' b):SlAt w' S' ia k:=by
 rcases h with h | ⟨b,o,e,hb,h⟩
 ·exact .inl h
 ·rcases k with _ | ⟨h',k',r'⟩
  ·exact .inl rfl
  ·obtain⟨⟨_,_,_,_,h7,_⟩,_⟩:=id h
   exact .inr ⟨b,o,e,hS b hb (H0 (h7 0 _ rfl)),FoAt.keep hk hS _ b o hb h⟩
theorem DatAt.keep{w w':World}{S S':Nat->Prop}{h:Hd}{k:Fo}{pa:Option Addr}{pc:Nat}{ia:Option Addr}{ic:Nat}(d:DatAt w S h k pa pc ia ic)
  (hk: ∀b,S b->b<w.heap.size->w'.heap[b]? =w.heap[b]?) (hS: ∀b,S b->b<w.heap.size->S' b):DatAt w' S' h k pa pc ia ic:=
 ⟨d.path.keep hk hS,d.pcLe,d.pcMax,d.kids.keep hk hS,d.icLe,d.icMax⟩
theorem DatAt.below{w w':World}{S:Nat->Prop}{h:Hd}{k:Fo}{pa:Option Addr}{pc:Nat}{ia:Option Addr}{ic:Nat}(d:DatAt w S h k pa pc ia ic)
  {B:Nat} (hb:Below B w w') (hB: ∀b,S b->b<w.heap.size->b<B):DatAt w' S h k pa pc ia ic:=d.keep (fun b h1 h2=>hb.block b (hB b h1 h2)) (fun _ h _=>h)
theorem DatAt.any{w:World}{S:Nat->Prop}{h:Hd}{k:Fo}{pa:Option Addr}{pc:Nat}{ia:Option Addr}{ic:Nat}(d:DatAt w S h k pa pc ia ic):
  DatAt w (fun _=>True) h k pa pc ia ic:=d.keep (fun _ _ _=>rfl) (fun _ _ _=>trivial)
theorem FoAt.get{w:World}{S:Nat->Prop}: ∀(f:Fo) (b o i:Nat) (h:Hd) (k:Fo),FoAt w S b o f->f.get i=some (h,k)->
  ∃pa pc ia ic,CellsAt w b (o+i*11) (h.cells pa pc ia k.len ic)/\DatAt w S h k pa pc ia ic
 | .cons h k r,b,o,0,h',k',⟨⟨pa,pc,ia,ic,h1,h2,h3,h3',h4,h4',h5⟩,h6⟩,e=>by
  simp only[Fo.get,Option.some.injEq,Prod.mk.injEq] at e
  obtain⟨rfl,rfl⟩:=e
  exact⟨pa,pc,ia,ic,by simpa using h1,h2,h3,h3',h5,h4,h4'⟩
 | .cons h k r,b,o,i+1,h',k',⟨_,h6⟩,e=>by
  have:=FoAt.get r b (o+11) i h' k' h6 e
  rwa [show o+11+i*11=o+(i+1)*11 from by omega] at this
theorem SlAt.get{w:World}{S:Nat->Prop}{ia:Option Addr}{f:Fo}(hs:SlAt w S ia f){i:Nat}{h:Hd}{k:Fo}(e:f.get i=some (h,k)):
  ∃b o,ia=some ⟨b,o,none⟩/\S b/\∃pa pc ja jc,CellsAt w b (o+i*11) (h.cells pa pc ja k.len jc)/\DatAt w S h k pa pc ja jc:=by
 rcases hs with hs | ⟨b,o,h1,h2,h3⟩
 ·have:=Fo.get_len _ _ _ e;omega
 ·exact⟨b,o,h1,h2,FoAt.get f b o i h k h3 e⟩
theorem CellsAt.eleven{w:World}{b o:Nat}{h:Hd}{pa:Option Addr}{pc:Nat}{ia:Option Addr}{il ic:Nat}(c:CellsAt w b o (h.cells pa pc ia il ic)):
  w.cell? ⟨b,o,none⟩=some (.int .i64 h.kind)/\w.cell? ⟨b,o+1,none⟩=some (.string h.type)/\w.cell? ⟨b,o+2,none⟩=some (.int .i64 h.n)/\
  w.cell? ⟨b,o+3,none⟩=some (.int .u64 h.f)/\w.cell? ⟨b,o+4,none⟩=some (.string h.s)/\w.cell? ⟨b,o+5,none⟩=some (.int .i64 h.obj)/\
  w.cell? ⟨b,o+6,none⟩=some (.int .i64 h.frm)/\w.cell? ⟨b,o+7,none⟩=some (.int .i64 h.len)/\w.cell? ⟨b,o+8,none⟩=some (.int .i64 h.cap)/\
  w.cell? ⟨b,o+9,none⟩=some (.slice pa h.path.length pc)/\w.cell? ⟨b,o+10,none⟩=some (.slice ia il ic):=
 ⟨c 0 _ rfl,c 1 _ rfl,c 2 _ rfl,c 3 _ rfl,c 4 _ rfl,c 5 _ rfl,c 6 _ rfl,c 7 _ rfl,c 8 _ rfl,c 9 _ rfl,c 10 _ rfl⟩
theorem PathAt.get{w:World}{S:Nat->Prop}{pa:Option Addr}{l:List Int}(h:PathAt w S pa l){j:Nat}{x:Int}(e:l[j]? =some x):
  ∃b o,pa=some ⟨b,o,none⟩/\S b/\w.cell? ⟨b,o+j,none⟩=some (.int .i64 x):=by
 rcases h with rfl | ⟨b,o,h1,h2,h3⟩
 ·simp at e
 ·exact⟨b,o,h1,h2,h3 j x e⟩
theorem Do1{W w1:World}(hb:Below W.heap.size W w1):(∀b o,b<W.heap.size->w1.cell? ⟨b,o,none⟩=W.cell? ⟨b,o,none⟩)/\(∀b o,b<W.heap.size->w1.frozen? ⟨b,o,none⟩=W.frozen? ⟨b,o,none⟩):=
 ⟨fun b o h=>hb.cell (p:=⟨b,o,none⟩) h,fun b o h=>hb.frozen (p:=⟨b,o,none⟩) h⟩
theorem B3{B:Nat}{a w:World}(h:Below B a w)(n:Nat):Below B a (w.drewN n):=⟨h.os,h.tape,h.output,h.size,h.block⟩
end Go.Proofs.YtbjegfpfmnleeaaGreatDoor
namespace Go.Proofs.YtbjegfpfmnleeaaGreatDoor
open Go.RowKit Go.ChangeShapes Go.WideShapes
section
variable {H:Type} {enc:TypeId×Value->H} {w:World}
theorem Ko:Tryz.prog.cellsOf 53=11:=by kernel_rfl
theorem Cz9:Tryz.prog.cellsOf 51=5:=by kernel_rfl
theorem As:Tryz.prog.cellsOf 3=1:=by kernel_rfl
theorem Xs:Tryz.prog.cellsOf 9=1:=by kernel_rfl
theorem Da0:Tryz.prog.cellsOf 49=1:=by kernel_rfl
theorem Da1:Tryz.prog.cellsOf 24=1:=by kernel_rfl
theorem Da2:Tryz.prog.cellsOf 23=1:=by kernel_rfl
theorem Bc0:Tryz.prog.bytesOf 53=136:=by kernel_rfl
theorem Da3:Tryz.prog.bytesOf 3=8:=by kernel_rfl
theorem J9{n:Int}(h:(Lit.int .i64 n).wf=true):F8 n:=by
 simp only[Lit.wf,Bool.and_eq_true,decide_eq_true_iff,IntKind.min,IntKind.max,IntKind.bits,IntKind.signed] at h
 simp at h
 exact h
theorem Ox{n:Int}(h:(Lit.int .u64 n).wf=true):0<=n/\n<=18446744073709551615:=by
 simp only[Lit.wf,Bool.and_eq_true,IntKind.min,IntKind.max,IntKind.bits,IntKind.signed] at h
 simp at h
 exact h
def Da4(w:World)(cs:List Value):Prop:= ∃h k pa pc ia ic,cs=(Hd.cells h pa pc ia k.len ic).toList/\h.ok/\k.ok/\k.len<=1034834473170/\DatAt w (fun _=>True) h k pa pc ia ic
def Di(t:TypeId)(d:DataW H):Prop:= ∀n∈d.weights Tryz.prog t,n<=reachBytes
theorem Oy{b o n:Nat}{cs:List Value}(h:w.cells? 0 ⟨b,o,none⟩ n=some cs):CellsAt w b o cs.toArray:=by
 obtain⟨_,hl,hc⟩:=World.cells?_some h
 intro j v hv
 have hv':cs[j]? =some v:=by simpa using hv
 have hj:j<n:=by
  rcases Nat.lt_or_ge j cs.length with h1 | h1
  ·omega
  ·rw[List.getElem?_eq_none h1] at hv';cases hv'
 have:=hc j hj
 rw[hv'] at this
 rw[<-this]
 congr 1
 unfold Addr.add
 split
 ·rename_i h;subst h;rfl
 ·rfl
theorem Ah{a:Addr}{n:Nat}{cs:List Value}(h:w.cells? 0 a n=some cs)(hn:0<n): ∃b o,a=⟨b,o,none⟩:=by
 obtain⟨_,hl,hc⟩:=World.cells?_some h
 have h0:=hc 0 hn
 rw[List.getElem?_eq_getElem Zo] at h0
 obtain⟨b,o,s⟩:=a
 have:s=none:=by simpa[Addr.add] using World.cell?_spot h0
 subst this
 exact⟨b,o,rfl⟩
theorem Oz(b o j:Nat):(Addr.mk b o none).add j=⟨b,o+j,none⟩:=by
 unfold Addr.add
 split
 ·rename_i h;subst h;rfl
 ·rfl
theorem Bs7{n:Nat}(ih: ∀cs (x:DataW H×List MemPlace),DataW.trod enc Tryz.prog w 0 (fun _=>true) true n 53 cs=some x->Di 53 x.1->Da4 w cs):
    ∀ (els : List (DataW H × List MemPlace)) (b o : Nat), (∀ i, i < els.length → (w.cells? 0 ⟨b, o + i * 11, none⟩ 11).bind (DataW.trod enc Tryz.prog w 0 (fun _ => true) true n 53) = els[i]?) →
      (∀x∈els,Di 53 x.1)->∃f:Fo,f.len=els.length/\f.ok/\FoAt w (fun _=>True) b o f
  | [],b,o,_,_=>⟨.nil,rfl,trivial,trivial⟩
  | x::els,b,o,hg,hw=>by
    obtain⟨r,r1,r2,r3⟩:=Bs7 ih els b (o+11) (fun i hi=>by
      have:=hg (i+1) (by simpa using hi)
      rw[show o+11+i*11=o+(i+1)*11 by omega]
      simpa using this) (fun y hy=>hw y (List.mem_cons_of_mem _ hy))
    have h0:=hg 0 (by simp)
    simp only[Nat.zero_mul,Nat.add_zero,List.getElem?_cons_zero] at h0
    obtain⟨cs,hc,ht⟩:=Option.bind_eq_some_iff.1 h0
    obtain⟨h,k,pa,pc,ia,ic,e,ho,hk,hkl,hd⟩:=ih cs x ht (hw x List.mem_cons_self)
    have hcell:=Oy hc
    subst e
    refine⟨.cons h k r,by simp[Fo.len,r1],⟨ho,hk,r2,hkl⟩,⟨pa,pc,ia,ic,by simpa using hcell,hd.path,hd.pcLe,hd.pcMax,hd.icLe,hd.icMax,hd.kids⟩,r3⟩
theorem O6{P:Program}{n:Nat}: ∀(ts:List TypeId) (ds:List (DataW H)),n∈DataW.weightsEach P ts ds↔∃(i:Nat) (t:TypeId) (d:DataW H),ts[i]? =some t/\ds[i]? =some d/\n∈d.weights P t
 | [],ds=>by simp[DataW.weightsEach]
 | t::ts,[]=>by simp[DataW.weightsEach]
 | t::ts,d::ds=>by
  rw[DataW.weightsEach,List.mem_append,O6 ts ds]
  constructor
  ·rintro(h | ⟨i,t',d',h1,h2,h3⟩)
   ·exact⟨0,t,d,rfl,rfl,h⟩
   ·exact⟨i+1,t',d',by simpa using h1,by simpa using h2,h3⟩
  ·rintro⟨i,t',d',h1,h2,h3⟩
   cases i with
   | zero=>
    simp only[List.getElem?_cons_zero,Option.some.injEq] at h1 h2
    subst h1 h2
    exact .inl h3
   | succ i=>exact .inr ⟨i,t',d',by simpa using h1,by simpa using h2,h3⟩
theorem W0{P:Program}{e:TypeId}{n:Nat}: ∀(ds:List (DataW H)),n∈DataW.weightsAll P e ds↔∃d∈ds,n∈d.weights P e
 | []=>by simp[DataW.weightsAll]
 | d::ds=>by rw[DataW.weightsAll,List.mem_append,W0 ds];simp
theorem Xt{fuel:Nat}{cs:List Value}{x:DataW H×List MemPlace}(h:DataW.trod enc Tryz.prog w 0 (fun _=>true) true fuel 24 cs=some x)(hw:Di 24 x.1):
  ∃(l:List Int) (pa:Option Addr) (pc:Nat),cs=[.slice pa l.length pc]/\PathAt w (fun _=>True) pa l/\l.length<=pc/\capOk pa pc/\l.length<=17592186043904/\(∀(j:Nat) (x:Int),l[j]? =some x->F8 x):=by
 rcases open_ints Tryz.underlying24 Tryz.underlying3 As h with⟨rfl,rfl⟩ | ⟨a,len,cap,zs,rfl,_,hl,hm,hz,rfl,hc,hwf⟩
 ·exact⟨[],none,0,rfl,.inl rfl,by simp,capOk.nil,by simp,fun j x h=>by simp at h⟩
 ·simp only[if_true] at hz
  have hlen:(zs.take len).length=len:=by simp;omega
  refine⟨zs.take len,some a,cap,by rw[hlen], ?_,Zo,capOk.some (by unfold maxLen at hm;exact hm), ?_,fun j x hx=> ?_⟩
  ·cases hzs:zs.take len with
   | nil=>exact .inl rfl
   | cons z r=>
    have hp:0<zs.length:=by
     rcases Nat.eq_zero_or_pos zs.length with h0 | h0
     ·rw[List.eq_nil_of_length_eq_zero h0] at hzs;simp at hzs
     ·exact h0
    have h0:=hc 0 hp
    obtain⟨b,o,s⟩:=a
    have:s=none:=by simpa[Addr.add] using World.cell?_spot h0
    subst this
    refine .inr ⟨b,o,rfl,trivial,fun j x hx=> ?_⟩
    rw[<-hzs,List.getElem?_take] at hx
    split at hx
    ·have hj:j<zs.length:=by
      rcases Nat.lt_or_ge j zs.length with h1 | h1
      ·exact h1
      ·rw[List.getElem?_eq_none h1] at hx;cases hx
     have:=hc j hj
     rw[Oz] at this
     rw[this,List.getD,hx];rfl
    ·cases hx
  ·have:=hw ((zs.length)*8) (by
    simp only[DataW.weights,Tryz.underlying24,Da3,lits,List.length_map,List.length_take,List.length_drop]
    refine List.mem_cons.2 (.inl ?_)
    congr 1
    omega)
   unfold reachBytes at this
   omega
  ·have hm:x∈zs:=List.mem_of_mem_take (List.mem_of_getElem? hx)
   exact J9 (hwf x hm)
set_option maxRecDepth 100000 in
set_option maxHeartbeats 2000000 in
theorem Da5: ∀(fuel:Nat) (cs:List Value) (x:DataW H×List MemPlace),DataW.trod enc Tryz.prog w 0 (fun _=>true) true fuel 53 cs=some x->Di 53 x.1->Da4 w cs:=by
 intro fuel
 induction fuel using Nat.strongRecOn with
 | _ fuel IH=>
 intro cs x h hw
 obtain⟨xs,n,rfl,rfl,hl,hlen,hg⟩:=DataW.trod_struct Tryz.underlying53 h
 rw[Ko] at hl
 match cs,hl with
 | [c0,c1,c2,c3,c4,c5,c6,c7,c8,c9,c10],_=>
 match xs,hlen with
 | [x0,x1,x2,x3,x4,x5,x6],_=>
 have hwe: ∀(i:Nat) (t:TypeId) (d:DataW H),[3,9,3,49,9,51,23][i]? =some t->[x0.1,x1.1,x2.1,x3.1,x4.1,x5.1,x6.1][i]? =some d->Di t d:=fun i t d h1 h2 m hm=>hw m (by
  simp only[DataW.weights,Tryz.underlying53]
  exact(O6 _ _).2 ⟨i,t,d,h1,h2,hm⟩)
 have g0:DataW.trod enc Tryz.prog w 0 (fun _=>true) true n 3 (List.take (Tryz.prog.cellsOf 3) [c0,c1,c2,c3,c4,c5,c6,c7,c8,c9,c10])=some x0:=hg 0 _ rfl
 have g1:DataW.trod enc Tryz.prog w 0 (fun _=>true) true n 9 (List.take (Tryz.prog.cellsOf 9) [c1,c2,c3,c4,c5,c6,c7,c8,c9,c10])=some x1:=hg 1 _ rfl
 have g2:DataW.trod enc Tryz.prog w 0 (fun _=>true) true n 3 (List.take (Tryz.prog.cellsOf 3) [c2,c3,c4,c5,c6,c7,c8,c9,c10])=some x2:=hg 2 _ rfl
 have g3:DataW.trod enc Tryz.prog w 0 (fun _=>true) true n 49 (List.take (Tryz.prog.cellsOf 49) [c3,c4,c5,c6,c7,c8,c9,c10])=some x3:=hg 3 _ rfl
 have g4:DataW.trod enc Tryz.prog w 0 (fun _=>true) true n 9 (List.take (Tryz.prog.cellsOf 9) [c4,c5,c6,c7,c8,c9,c10])=some x4:=hg 4 _ rfl
 have g5:DataW.trod enc Tryz.prog w 0 (fun _=>true) true n 51 (List.take (Tryz.prog.cellsOf 51) [c5,c6,c7,c8,c9,c10])=some x5:=hg 5 _ rfl
 have g6:DataW.trod enc Tryz.prog w 0 (fun _=>true) true n 23 (List.take (Tryz.prog.cellsOf 23) [c10])=some x6:=hg 6 _ rfl
 clear hg
 rw[As] at g0
 rw[Xs] at g1
 rw[As] at g2
 rw[Da0] at g3
 rw[Xs] at g4
 rw[Cz9] at g5
 rw[Da2] at g6
 simp only[List.take] at g0 g1 g2 g3 g4 g5 g6
 obtain⟨kind,e0,_,w0⟩:=DataW.trod_int Tryz.underlying3 g0
 obtain⟨type,e1,f1,s1⟩:=DataW.trod_string Tryz.underlying9 g1
 obtain⟨nn,e2,_,w2⟩:=DataW.trod_int Tryz.underlying3 g2
 obtain⟨ff,e3,_,w3⟩:=DataW.trod_int Tryz.underlying49 g3
 obtain⟨ss,e4,f4,s4⟩:=DataW.trod_string Tryz.underlying9 g4
 have hl1:=hwe 1 _ _ rfl rfl type.size (by rw[f1];simp[DataW.weights])
 have hl4:=hwe 4 _ _ rfl rfl ss.size (by rw[f4];simp[DataW.weights])
 have hw5:=hwe 5 _ _ rfl rfl
 have hw6:=hwe 6 _ _ rfl rfl
 clear hwe hw g0 g1 g2 g3 g4
 obtain⟨ys,m,rfl,rfl,hl',hlen',hg'⟩:=DataW.trod_struct Tryz.underlying51 g5
 match ys,hlen' with
 | [y0,y1,y2,y3,y4],_=>
 have p0:DataW.trod enc Tryz.prog w 0 (fun _=>true) true m 3 (List.take (Tryz.prog.cellsOf 3) [c5,c6,c7,c8,c9])=some y0:=hg' 0 _ rfl
 have p1:DataW.trod enc Tryz.prog w 0 (fun _=>true) true m 3 (List.take (Tryz.prog.cellsOf 3) [c6,c7,c8,c9])=some y1:=hg' 1 _ rfl
 have p2:DataW.trod enc Tryz.prog w 0 (fun _=>true) true m 3 (List.take (Tryz.prog.cellsOf 3) [c7,c8,c9])=some y2:=hg' 2 _ rfl
 have p3:DataW.trod enc Tryz.prog w 0 (fun _=>true) true m 3 (List.take (Tryz.prog.cellsOf 3) [c8,c9])=some y3:=hg' 3 _ rfl
 have p4:DataW.trod enc Tryz.prog w 0 (fun _=>true) true m 24 (List.take (Tryz.prog.cellsOf 24) [c9])=some y4:=hg' 4 _ rfl
 clear hg'
 rw[As] at p0
 rw[As] at p1
 rw[As] at p2
 rw[As] at p3
 rw[Da1] at p4
 simp only[List.take] at p0 p1 p2 p3 p4
 obtain⟨obj,q0,_,v0⟩:=DataW.trod_int Tryz.underlying3 p0
 obtain⟨frm,q1,_,v1⟩:=DataW.trod_int Tryz.underlying3 p1
 obtain⟨len,q2,_,v2⟩:=DataW.trod_int Tryz.underlying3 p2
 obtain⟨cap,q3,_,v3⟩:=DataW.trod_int Tryz.underlying3 p3
 have hwp:Di 24 y4.1:=fun m hm=>hw5 m (by
  simp only[DataW.weights,Tryz.underlying51]
  exact(O6 _ _).2 ⟨4,_,_,rfl,rfl,hm⟩)
 obtain⟨path,pa,pc,q4,hpa,hpc,hpm,hpl,hpe⟩:=Xt p4 hwp
 simp only[List.cons.injEq,and_true] at e0 e1 e2 e3 e4 q0 q1 q2 q3 q4
 subst e0 e1 e2 e3 e4 q0 q1 q2 q3 q4
 unfold reachBytes at hl1 hl4
 have hok:Hd.ok ⟨kind,type,nn,ff,ss,obj,frm,len,cap,path⟩:=
  ⟨J9 w0,J9 w2,(Ox w3).1,(Ox w3).2,J9 v0,J9 v1,J9 v2,J9 v3,hl1,hl4,hpl,hpe⟩
 rcases DataW.trod_slice Tryz.underlying23 g6 with⟨e6,rfl⟩ | ⟨a,il,ic,elems,rest,n',en,e6,rfl,_,hle,hm,hel,hget,hsp,_⟩
 ·simp only[List.cons.injEq,and_true] at e6
  subst e6
  exact⟨_,.nil,pa,pc,none,0,rfl,hok,trivial,by simp[Fo.len],⟨hpa,hpc,hpm,.inl rfl,by simp[Fo.len],capOk.nil⟩⟩
 ·simp only[List.cons.injEq,and_true] at e6
  subst e6
  have hr:=(hsp rfl).1
  have hcap:=hw6 (ic*136) (by
   simp only[DataW.weights,Tryz.underlying23,Bc0,List.length_map]
   refine List.mem_cons.2 (.inl ?_)
   congr 1
   omega)
  unfold reachBytes at hcap
  have hwl: ∀y∈elems,Di 53 y.1:=fun y hy m hm=>hw6 m (by
   simp only[DataW.weights,Tryz.underlying23]
   refine List.mem_cons.2 (.inr (List.mem_append.2 (.inl ((W0 _).2 ⟨y.1,List.mem_map.2 ⟨y,hy,rfl⟩,hm⟩)))))
  unfold maxLen at hm
  rcases Nat.eq_zero_or_pos il with h0 | h0
  ·exact⟨_,.nil,pa,pc,some a,ic,by subst h0;rfl,hok,trivial,by simp[Fo.len],⟨hpa,hpc,hpm,.inl rfl,by simp[Fo.len],capOk.some Zo⟩⟩
  ·have hg0:=hget 0 h0
   rw[List.getElem?_eq_getElem Zo,Ko] at hg0
   obtain⟨cs0,hc0,_⟩:=Option.bind_eq_some_iff.1 hg0
   obtain⟨b,o,ea⟩:=Ah hc0 Zd
   have ea':a=⟨b,o,none⟩:=by
    simp only[Nat.zero_mul] at ea
    simpa[Addr.add] using ea
   subst ea'
   obtain⟨f,r1,r2,r3⟩:=Bs7 (n:=n') (fun cs' x' h' hw'=>IH n' Zo cs' x' h' hw') elems b o (fun i hi=>by
    have:=hget i Zo
    rw[Ko,Oz] at this
    exact this) hwl
   have hfl:f.len=il:=by omega
   exact⟨_,f,pa,pc,some ⟨b,o,none⟩,ic,by rw[hfl];rfl,hok,r2,Zo,⟨hpa,hpc,hpm,.inr ⟨b,o,rfl,trivial,r3⟩,Zo,capOk.some Zo⟩⟩
end
end Go.Proofs.YtbjegfpfmnleeaaGreatDoor
namespace Go.Proofs.YtbjegfpfmnleeaaGreatDoor
open Go.RowKit
theorem nz(n:Nat):((n:Int)==0)=decide (n=0):=by rw[Bool.eq_iff_iff];simp
theorem Aj{k:IntKind}{a b:Int}(h:a=b):Ending.returned (.int k a)=.returned (.int k b):=by rw[h]
theorem K0{a b:Bool}(h:a=b):Ending.returned (.bool a)=.returned (.bool b):=by rw[h]
def Lf(o f l c:Int)(pl:Nat):Bool:=decide (o=0/\f=0/\l=0/\c=0/\pl=0)
set_option maxHeartbeats 400000 in
theorem Ab2(o f l c:Int)(pa:Option Addr)(pl pc:Nat)(w:World):
  Calls Tryz.prog 123 #[.agg #[.int .i64 o,.int .i64 f,.int .i64 l,.int .i64 c,.slice pa pl pc]] w
   fun e w'=>e=.returned (.bool (Lf o f l c pl))/\Below w.heap.size w w':=by
 have hB:Below w.heap.size w (w.alloc (.cells #[.int .i64 o,.int .i64 f,.int .i64 l,.int .i64 c,.slice pa pl pc] 51)):=(Below.refl _ _).alloc (Nat.le_refl _) _
 go_enter Tryz.func123,Tryz.ntmps123
 go_wp2
 all_goals
  go_ret
  refine⟨?_,(Below.refl _ _).alloc (Nat.le_refl _) _⟩
  simp[Lf, *,nz]
def Sc(x:Int):Bool:=decide (x<0\/30<=x)
set_option maxHeartbeats 400000 in
theorem Cc1(x:Int)(w:World):Calls Tryz.prog 125 #[.int .i64 x] w fun e w'=>e=.returned (.bool (Sc x))/\w=w':=by
 go_enter Tryz.func125,Tryz.ntmps125
 go_wp2
 all_goals
  go_ret
  refine⟨?_,rfl⟩
  simp[Sc, *]
def Cc2(l:List Int):Int:=match l.findIdx? Sc with | some i=>i | none=> -1
theorem Cc3(l:List Int)(k:Nat)(x:Int)(hk:l[k]? =some x)(hx:Sc x=true)(hn: ∀j y,j<k->l[j]? =some y->Sc y=false):Cc2 l=k:=by
 have h:l.findIdx? Sc=some k:=by
  rw[List.findIdx?_eq_some_iff_getElem]
  have hl:k<l.length:=by
   rcases Nat.lt_or_ge k l.length with h | h
   ·exact h
   ·rw[List.getElem?_eq_none h] at hk;cases hk
  refine⟨hl,by rw[List.getElem?_eq_getElem hl] at hk;injection hk with hk;rw[hk];exact hx,fun j hj=> ?_⟩
  have:=hn j (l[j]'Zo) hj (List.getElem?_eq_getElem Zo)
  simp[this]
 unfold Cc2;rw[h]
theorem Ap7(l:List Int)(hn: ∀j y,j<l.length->l[j]? =some y->Sc y=false):Cc2 l= -1:=by
 have h:l.findIdx? Sc=none:=by
  rw[List.findIdx?_eq_none_iff]
  intro x hx
  obtain⟨j,hj,e⟩:=List.mem_iff_getElem.1 hx
  exact hn j x hj (by rw[List.getElem?_eq_getElem hj,e])
 unfold Cc2;rw[h]
set_option maxHeartbeats 400000 in
theorem Hw(l:List Int)(pa:Option Addr)(pc:Nat)(w:World)(hl:l.length<=9223372036854775807)(hp:PathAt w (fun _=>True) pa l):
  Calls Tryz.prog 137 #[.slice pa l.length pc,.func (.func 125) #[] #[]] w fun e w'=>e=.returned (.int .i64 (Cc2 l))/\w=w':=by
 go_enter Tryz.func137,Tryz.ntmps137
 go_wp2
 go_loopg [8] l.length (fun g i wr=> ∃k:Nat,k<=l.length/\i=.int .i64 k/\g=l.length-k/\w=wr/\∀j y,j<k->l[j]? =some y->Sc y=false)
 case atStart=>exact⟨0,Zo,rfl,Zo,rfl,Zo⟩
 case round=>
  obtain⟨k,hk,rfl,rfl,rfl,hn⟩:=hrel
  have HN:=Lib.hid hn
  clear hn
  by_cases hlt:k<l.length
  ·obtain⟨x,hx⟩: ∃x,l[k]? =some x:=⟨_,List.getElem?_eq_getElem hlt⟩
   obtain⟨b,o,rfl,_,hc⟩:=hp.get hx
   have HX:=Lib.hid hx
   clear hx
   go_wp2_with (go_at_call 125;refine(Cc1 _ _).mono ?_;rintro e w' ⟨rfl,rfl⟩)
   ·go_ret
    exact⟨Aj (Cc3 l k x HX.out (by assumption) HN.out).symm,rfl⟩
   ·go_roundg (l.length-(k+1))
    case measure=>omega
    case rel=>
     refine⟨k+1,Zo,by go_num,rfl,rfl,fun j y hj hy=> ?_⟩
     by_cases hjk:j=k
     ·subst hjk
      rw[HX.out] at hy
      injection hy with hy
      subst hy
      assumption
     ·exact HN.out j y Zo hy
  ·have hkl:k=l.length:=by omega
   subst hkl
   go_wp2
   go_ret
   exact⟨Aj (Ap7 l HN.out).symm,rfl⟩
def Lg(l:List Int):Bool:=l.any Sc
theorem Cc4(l:List Int):decide (0<=Cc2 l)=Lg l:=by
 unfold Cc2 Lg
 cases h:l.findIdx? Sc with
 | none=>
  rw[List.findIdx?_eq_none_iff] at h
  have:l.any Sc=false:=by rw[List.any_eq_false];intro x hx;simp[h x hx]
  simp[this]
 | some i=>
  have:l.any Sc=true:=by
   rw[List.findIdx?_eq_some_iff_getElem] at h
   obtain⟨hl,hx,_⟩:=h
   exact List.any_eq_true.2 ⟨_,List.getElem_mem hl,hx⟩
  simp[this]
set_option maxHeartbeats 400000 in
theorem Bk(l:List Int)(pa:Option Addr)(pc:Nat)(w:World)(hl:l.length<=9223372036854775807)(hp:PathAt w (fun _=>True) pa l):
  Calls Tryz.prog 124 #[.slice pa l.length pc,.func (.func 125) #[] #[]] w fun e w'=>e=.returned (.bool (Lg l))/\w=w':=by
 go_enter Tryz.func124,Tryz.ntmps124
 go_wp2_with (go_at_call 137;refine(Hw _ _ _ _ hl hp).mono ?_;rintro e w' ⟨rfl,rfl⟩)
 go_ret
 exact⟨K0 (Cc4 l),rfl⟩
def M6(kind o f l c:Int)(p:List Int):Bool:=
 if o<0\/2147483647<o then false
 else if kind=5 then decide (p.length=0)&&(Lf o f l c p.length||decide (0<o/\0<=f/\0<=l/\l<=c/\f<=1048576/\c<=1048576-f))
 else if kind=6\/kind=7\/kind=9 then
  if f≠0\/l≠0\/c≠0\/(0<p.length/\(kind≠9\/o=0))\/100<p.length then false else !(Lg p)
 else Lf o f l c p.length
set_option maxHeartbeats 400000 in
theorem Ab3(kind o f l c:Int)(p:List Int)(pa:Option Addr)(pc:Nat)(w:World)(hl:p.length<=9223372036854775807)(hp:PathAt w (fun _=>True) pa p):
  Calls Tryz.prog 111 #[.int .i64 kind,.agg #[.int .i64 o,.int .i64 f,.int .i64 l,.int .i64 c,.slice pa p.length pc]] w
   fun e w'=>e=.returned (.bool (M6 kind o f l c p))/\Below w.heap.size w w':=by
 go_enter Tryz.func111,Tryz.ntmps111
 go_wp2_with (first
  | (go_at_call 123;refine(Ab2 _ _ _ _ _ _ _ _).mono ?_;rintro e w1 ⟨rfl,hb1⟩;obtain⟨hc1,hf1⟩:=Do1 hb1)
  | (go_at_call 124;refine(Bk p pa pc _ hl (by exact hp.keep (fun b _ hb=>Below.heap_alloc _ _ _ hb) (fun _ _ _=>trivial))).mono ?_;rintro e w' ⟨rfl,rfl⟩))
 all_goals
  go_ret
  refine⟨K0 ?_,by first | exact(Below.refl _ _).alloc (Nat.le_refl _) _ | exact((Below.refl _ _).alloc (Nat.le_refl _) _).trans (hb1.mono (by simp))⟩
  simp_all [M6]<;>first | omega | grind
theorem Ni(a b:ByteArray):(a.toList==b.toList)=decide (a=b):=by
 rw[Lib.toList_data,Lib.toList_data,Bool.eq_iff_iff,beq_iff_eq,decide_eq_true_iff]
 exact⟨fun h=>by cases a;cases b;simp only[ByteArray.mk.injEq];exact Array.ext' h,fun h=>by rw[h]⟩
theorem Ab9{a b:ByteArray}(h:(a.toList==b.toList)=true):a=b:=by rw[Ni] at h;exact of_decide_eq_true h
theorem Be9{a b:ByteArray}(h:(a.toList==b.toList)=false):a≠b:=by rw[Ni] at h;exact of_decide_eq_false h
def Ap9(v:ByteArray)(l:List ByteArray):Bool:=l.any fun x=>decide (x=v)
theorem Aq0(v:ByteArray)(l:List ByteArray):Ap9 v l=true↔v∈l:=by simp[Ap9,List.any_eq_true]
def StrsAt(w:World)(pa:Option Addr)(l:List ByteArray):Prop:=
 l=[]\/∃b o,pa=some ⟨b,o,none⟩/\∀(j:Nat) (x:ByteArray),l[j]? =some x->w.cell? ⟨b,o+j,none⟩=some (.string x)
theorem StrsAt.get{w:World}{pa:Option Addr}{l:List ByteArray}(h:StrsAt w pa l){j:Nat}{x:ByteArray}(e:l[j]? =some x):
  ∃b o,pa=some ⟨b,o,none⟩/\w.cell? ⟨b,o+j,none⟩=some (.string x):=by
 rcases h with rfl | ⟨b,o,h1,h3⟩
 ·simp at e
 ·exact⟨b,o,h1,h3 j x e⟩
set_option maxHeartbeats 400000 in
theorem Sh(l:List ByteArray)(v:ByteArray)(pa:Option Addr)(pc:Nat)(w:World)(hl:l.length<=9223372036854775807)(hp:StrsAt w pa l):
  Calls Tryz.prog 138 #[.slice pa l.length pc,.string v] w fun e w'=>(∃i:Int,e=.returned (.int .i64 i)/\(0<=i↔v∈l))/\w=w':=by
 go_enter Tryz.func138,Tryz.ntmps138
 go_wp2
 go_loopg [8] l.length (fun g i wr=> ∃k:Nat,k<=l.length/\i=.int .i64 k/\g=l.length-k/\w=wr/\∀j y,j<k->l[j]? =some y->v≠y)
 case atStart=>exact⟨0,Zo,rfl,Zo,rfl,Zo⟩
 case round=>
  obtain⟨k,hk,rfl,rfl,rfl,hn⟩:=hrel
  have HN:=Lib.hid hn
  clear hn
  by_cases hlt:k<l.length
  ·obtain⟨x,hx⟩: ∃x,l[k]? =some x:=⟨_,List.getElem?_eq_getElem hlt⟩
   obtain⟨b,o,rfl,hc⟩:=hp.get hx
   have HX:=Lib.hid hx
   clear hx
   go_wp2
   ·go_ret
    have e:=Ab9 (by assumption)
    exact⟨⟨k,rfl,fun _=>by rw[e];exact List.mem_of_getElem? HX.out,fun _=>by omega⟩,rfl⟩
   ·go_roundg (l.length-(k+1))
    case measure=>omega
    case rel=>
     have e:=Be9 (by assumption)
     refine⟨k+1,Zo,by go_num,rfl,rfl,fun j y hj hy=> ?_⟩
     by_cases hjk:j=k
     ·subst hjk
      rw[HX.out] at hy
      injection hy with hy
      subst hy
      exact e
     ·exact HN.out j y Zo hy
  ·have hkl:k=l.length:=by omega
   subst hkl
   go_wp2
   go_ret
   refine⟨⟨-1,rfl,fun h=>by omega,fun h=> ?_⟩,rfl⟩
   obtain⟨j,hj,e⟩:=List.mem_iff_getElem.1 h
   exact absurd e.symm (HN.out j _ hj (List.getElem?_eq_getElem hj))
set_option maxHeartbeats 400000 in
theorem M7(l:List ByteArray)(v:ByteArray)(pa:Option Addr)(pc:Nat)(w:World)(hl:l.length<=9223372036854775807)(hp:StrsAt w pa l):
  Calls Tryz.prog 126 #[.slice pa l.length pc,.string v] w fun e w'=>e=.returned (.bool (Ap9 v l))/\w=w':=by
 go_enter Tryz.func126,Tryz.ntmps126
 go_wp2_with (go_at_call 138;refine(Sh _ _ _ _ _ hl hp).mono ?_;rintro e w' ⟨⟨i,rfl,hi⟩,rfl⟩)
 go_ret
 exact⟨K0 (Bool.eq_iff_iff.2 (by rw[decide_eq_true_iff,Aq0];exact hi)),rfl⟩
def ownL:List ByteArray:=[⟨#[110,105,108]⟩,⟨#[98,111,111,108]⟩,⟨#[105,110,116]⟩,⟨#[102,108,111,97,116]⟩,⟨#[116,101,120,116]⟩,⟨#[108,105,115,116]⟩,⟨#[109,97,112]⟩,⟨#[102,117,110,99]⟩]
def OwnAt(w:World):Prop:= ∀(j:Nat) (s:ByteArray),ownL[j]? =some s->w.cell? ⟨0,j,none⟩=some (.string s)
theorem OwnAt.below{w w':World}{B:Nat}(h:OwnAt w)(hb:Below B w w')(hB:w.heap.size<=B):OwnAt w':=fun j s e=>by
 have:=h j s e
 rw[<-this]
 exact hb.cell (p:=⟨0,j,none⟩) (Nat.lt_of_lt_of_le (H0 this) hB)
theorem OwnAt.eight{w:World}(h:OwnAt w):w.cell? ⟨0,0,none⟩=some (.string ⟨#[110,105,108]⟩)/\w.cell? ⟨0,1,none⟩=some (.string ⟨#[98,111,111,108]⟩)/\w.cell? ⟨0,2,none⟩=some (.string ⟨#[105,110,116]⟩)/\
  w.cell? ⟨0,3,none⟩=some (.string ⟨#[102,108,111,97,116]⟩)/\w.cell? ⟨0,4,none⟩=some (.string ⟨#[116,101,120,116]⟩)/\w.cell? ⟨0,5,none⟩=some (.string ⟨#[108,105,115,116]⟩)/\
  w.cell? ⟨0,6,none⟩=some (.string ⟨#[109,97,112]⟩)/\w.cell? ⟨0,7,none⟩=some (.string ⟨#[102,117,110,99]⟩):=
 ⟨h 0 _ rfl,h 1 _ rfl,h 2 _ rfl,h 3 _ rfl,h 4 _ rfl,h 5 _ rfl,h 6 _ rfl,h 7 _ rfl⟩
theorem Ps(W:World)(s:ByteArray)(n:Nat)(hn:W.heap.size=n): ∃C wb,(convert 9 208 (.string s)).run Tryz.prog W=.ok (.slice (some ⟨n,0,none⟩) s.size C) wb/\Below n W wb/\
  ∀j b,s.data.toList[j]? =some b->wb.cell? ⟨n,j,none⟩=some (.int .u8 (b.toNat:Int)):=by
 subst hn
 refine⟨_,_,Lib.run_convert_string_bytes W 9 208 5 s (u:=.string) Tryz.underlying9 Tryz.underlying208 Tryz.underlying5,⟨?_, ?_, ?_, ?_, ?_⟩, ?_⟩
 ·simp[Lib.bytesWorld,World.freeze,World.alloc,World.drew,-World.alloc_eq,-World.drew_eq]
 ·simp[Lib.bytesWorld,World.freeze,World.alloc,World.drew,-World.alloc_eq,-World.drew_eq]
 ·simp[Lib.bytesWorld,World.freeze,World.alloc,World.drew,-World.alloc_eq,-World.drew_eq]
 ·rw[Lib.bytesWorld_size];omega
 ·exact fun k hk=>Lib.bytesWorld_at_old W _ s k hk
 ·intro j b hj
  have hl:j<s.size:=by
   have:=(List.getElem?_eq_some_iff.1 hj).1
   simpa using this
  rw[Lib.bytesWorld_cell W _ s j hl]
  simp[List.getD,hj]
theorem P8{w:World}{b:Nat}{cs:Array Value}{t:TypeId}{fr:Nat×Nat}(h:w.heap[b]? =some (.cells cs t fr))(l:List ByteArray)(e:cs=(l.map Value.string).toArray):StrsAt w (some ⟨b,0,none⟩) l:=by
 refine .inr ⟨b,0,rfl,fun j x hx=> ?_⟩
 rw[cell_of_row w b _ cs t fr h,e]
 simp[hx]
def Er7(c:Int):Bool:=decide (48<=c/\c<=57)
def Ev8(c:Int):Bool:=decide (97<=bits .or .u8 c 32/\bits .or .u8 c 32<=122/\65<=c)
def Ce1(i:Nat)(c:Int):Bool:=(!Er7 c&& !Ev8 c&&decide (c≠95))||(Er7 c&&decide (i=0))
def Nj:Nat->List UInt8->Bool
 | _,[]=>true
 | i,b::r=> !Ce1 i (b.toNat:Int)&&Nj (i+1) r
theorem Si(l:List UInt8)(k:Nat)(b:UInt8)(h:l[k]? =some b):Nj k (l.drop k)=(!Ce1 k (b.toNat:Int)&&Nj (k+1) (l.drop (k+1))):=by
 have hl:k<l.length:=(List.getElem?_eq_some_iff.1 h).1
 rw[List.drop_eq_getElem_cons hl]
 have:l[k]=b:=(List.getElem?_eq_some_iff.1 h).2
 rw[this];rfl
def T5(s:ByteArray):Bool:=decide (s.size≠0/\s.size<=40)&& !Ap9 s ownL&& !Ap9 s [⟨#[97,110,121]⟩,⟨#[115,116,114,117,99,116]⟩]&&Nj 0 s.data.toList
theorem Ea(s:ByteArray)(h:s.toList=[]):s.size=0:=by
 rw[Lib.toList_data] at h
 simp only[ByteArray.size]
 rw[<-Array.length_toList,h];rfl
theorem Ia(s:ByteArray)(h: ¬s.toList=[]):s.size≠0:=fun e=>h (by
 rw[Lib.toList_data]
 exact List.eq_nil_of_length_eq_zero (by simpa using e))
theorem Pt(i:Nat)(c:Int):Ce1 i c=true↔(((c<48\/57<c)/\¬(97<=bits .or .u8 c 32/\bits .or .u8 c 32<=122/\65<=c)/\c≠95)\/(48<=c/\c<=57/\i=0)):=by
 simp only[Ce1,Er7,Ev8,Bool.or_eq_true,Bool.and_eq_true,decide_eq_true_iff,Bool.not_eq_true',decide_eq_false_iff_not]
 omega
theorem Cc6{i:Nat}{c:Int}(h:((c<48\/57<c)/\¬(97<=bits .or .u8 c 32/\bits .or .u8 c 32<=122/\65<=c)/\c≠95)\/(48<=c/\c<=57/\i=0)):Ce1 i c=true:=(Pt i c).2 h
theorem Dl8{i:Nat}{c:Int}(h: ¬(((c<48\/57<c)/\¬(97<=bits .or .u8 c 32/\bits .or .u8 c 32<=122/\65<=c)/\c≠95)\/(48<=c/\c<=57/\i=0))):Ce1 i c=false:=
 Bool.eq_false_iff.2 fun hb=>h ((Pt i c).1 hb)
theorem Ev9(w:World)(o o':Obj):((w.alloc o).alloc o').heap[w.heap.size+1]? =some o':=by simpa using heap_alloc_new (w.alloc o) o'
theorem Cc7{a b:Bool}(h:a=true):(!a&&b)=false:=by simp[h]
theorem Dl9{a b:Bool}(h:a=false):(!a&&b)=b:=by simp[h]
def Bf0:List ByteArray:=[⟨#[97,110,121]⟩,⟨#[115,116,114,117,99,116]⟩]
set_option maxRecDepth 100000 in
set_option maxHeartbeats 2000000 in
theorem Li(s:ByteArray)(w:World)(ho:OwnAt w):
    Calls Tryz.prog 112 #[.string s] w fun e w'=>e=.returned (.bool (T5 s))/\Below w.heap.size w w':=by
  obtain⟨o0,o1,o2,o3,o4,o5,o6,o7⟩:=ho.eight
  have hz:0<w.heap.size:=H0 o0
  by_cases he:s.toList=[]
  · have hd:T5 s=false:=by simp[T5,Ea s he]
    have HD:=Lib.hid hd
    clear hd
    go_enter Tryz.func112,Tryz.ntmps112
    go_wp2_with fail
    go_ret
    exact⟨K0 HD.out.symm,((Below.refl _ _).alloc (Nat.le_refl _) _)⟩
  have he':s.toList.isEmpty=false:=by simpa using he
  have hnz:=Ia s he
  by_cases h40:s.size<=40
  rotate_left
  · have hd:T5 s=false:=by simp[T5,h40]
    have HD:=Lib.hid hd
    clear hd
    have h41:(40:Int)<(s.size:Int):=by omega
    go_enter Tryz.func112,Tryz.ntmps112
    go_wp2_with fail
    go_ret
    exact⟨K0 HD.out.symm,((Below.refl _ _).alloc (Nat.le_refl _) _)⟩
  have h41:(s.size:Int)<=40:=by omega
  by_cases hm1:Ap9 s ownL=true
  · have hd:T5 s=false:=by simp[T5,hm1]
    have HD:=Lib.hid hd
    clear hd
    go_enter Tryz.func112,Tryz.ntmps112
    go_wp2_with (go_at_call 126;refine(M7 ownL _ _ _ _ Zd (by exact P8 (heap_alloc_new w _) ownL rfl)).mono ?_;rintro e w1 ⟨rfl,rfl⟩)
    go_ret
    exact⟨K0 HD.out.symm,((Below.refl _ _).alloc (Nat.le_refl _) _)⟩
  have hm1':Ap9 s ownL=false:=by simpa using hm1
  by_cases hm2:Ap9 s Bf0=true
  · have hd:T5 s=false:=by unfold Bf0 at hm2;simp[T5,hm2]
    have HD:=Lib.hid hd
    clear hd
    go_enter Tryz.func112,Tryz.ntmps112
    go_wp2_with fail
    refine(M7 ownL _ _ _ _ Zd (by exact P8 (heap_alloc_new w _) ownL rfl)).mono ?_
    rintro e w1 ⟨rfl,rfl⟩
    go_wp2_with fail
    refine(M7 Bf0 _ _ _ _ Zd (by exact P8 (Ev9 _ _ _) Bf0 rfl)).mono ?_
    rintro e w1 ⟨rfl,rfl⟩
    go_wp2_with fail
    go_ret
    exact⟨K0 HD.out.symm,((Below.refl _ _).alloc (Nat.le_refl _) _).alloc (by simp) _⟩
  have hm2':Ap9 s Bf0=false:=by simpa using hm2
  have hd:T5 s=Nj 0 s.data.toList:=by unfold Bf0 at hm2';simp only[T5,hm1',hm2'];simp[hnz,h40]
  have HD:=Lib.hid hd
  clear hd
  obtain⟨C,wb,hcv,hbb,hcell⟩:=Ps ((w.alloc (.cells #[.string ⟨#[110,105,108]⟩,.string ⟨#[98,111,111,108]⟩,.string ⟨#[105,110,116]⟩,.string ⟨#[102,108,111,97,116]⟩,.string ⟨#[116,101,120,116]⟩,.string ⟨#[108,105,115,116]⟩,.string ⟨#[109,97,112]⟩,.string ⟨#[102,117,110,99]⟩] 186)).alloc (.cells #[.string ⟨#[97,110,121]⟩,.string ⟨#[115,116,114,117,99,116]⟩] 9)) s (w.heap.size+1+1) (by simp)
  have hbw:Below w.heap.size w wb:=(((Below.refl _ _).alloc (Nat.le_refl _) _).alloc (by simp) _).trans (hbb.mono Zo)
  clear hbb
  go_enter Tryz.func112,Tryz.ntmps112
  go_wp2_with fail
  refine(M7 ownL _ _ _ _ Zd (by exact P8 (heap_alloc_new w _) ownL rfl)).mono ?_
  rintro e w1 ⟨rfl,rfl⟩
  go_wp2_with fail
  refine(M7 Bf0 _ _ _ _ Zd (by exact P8 (Ev9 _ _ _) Bf0 rfl)).mono ?_
  rintro e w1 ⟨rfl,rfl⟩
  go_wp2_with fail
  go_loopg [28] s.size (fun g i wr=> ∃k:Nat,k<=s.size/\i=.int .i64 k/\g=s.size-k/\wb=wr/\Nj 0 s.data.toList=Nj k (s.data.toList.drop k))
  case atStart=>exact⟨0,Zo,rfl,Zo,rfl,by simp⟩
  case round=>
    obtain⟨k,hk,rfl,rfl,rfl,hn⟩:=hrel
    have HN:=Lib.hid hn
    have HB:=Lib.hid hbw
    clear hn hcv hbw hm1 hm1' hm2 hm2' he he'
    by_cases hlt:k<s.size
    · obtain⟨x,hx⟩: ∃x,s.data.toList[k]? =some x:=⟨_,List.getElem?_eq_getElem (by simpa using hlt)⟩
      have hc:=hcell k x hx
      have HX:=Lib.hid hx
      clear hx hcell
      have hx0:(0:Int)<=(x.toNat:Int):=by omega
      have hx1:(x.toNat:Int)<=255:=by have:=x.toNat_lt;omega
      have hs0:=Si s.data.toList k x HX.out
      have HS:=Lib.hid hs0
      clear hs0
      obtain⟨q,hkb,HK⟩: ∃q:Bool,((k:Int)==0)=q/\Hid (q=decide (k=0)):=⟨_,rfl,nz k⟩
      rcases q with _ | _
      all_goals
        have HK2:Hid ((k=0/\decide (k=0)=true)\/(0<k/\decide (k=0)=false)):=by
          rcases Nat.eq_zero_or_pos k with h | h
          · exact .inl ⟨h,decide_eq_true h⟩
          · exact .inr ⟨h,decide_eq_false Zo⟩
        go_wp2
        all_goals first
          | (go_ret
             exact⟨K0 ((HD.out.trans HN.out).trans (HS.out.trans (Cc7 (Cc6 (by have h1:=HK.out;rcases HK2.out with⟨h2,h3⟩ | ⟨h2,h3⟩<;>rw[h3] at h1<;>first | omega | cases h1))))).symm,HB.out⟩)
          | (go_roundg (s.size - (k + 1))
             case measure=>omega
             case rel=>exact⟨k+1,Zo,by go_num,rfl,rfl,HN.out.trans (HS.out.trans (Dl9 (Dl8 (by have h1:=HK.out;rcases HK2.out with⟨h2,h3⟩ | ⟨h2,h3⟩<;>rw[h3] at h1<;>first | omega | cases h1))))⟩)
    · have hkl:k=s.size:=by omega
      subst hkl
      clear hcell
      go_wp2
      go_ret
      refine⟨K0 ?_,HB.out⟩
      rw[HD.out,HN.out,List.drop_of_length_le (by simp)]
      rfl
end Go.Proofs.YtbjegfpfmnleeaaGreatDoor
namespace Go.Proofs.YtbjegfpfmnleeaaGreatDoor
open Go.RowKit Go.ChangeShapes Go.WideShapes Go.ChangeAt
theorem Er4:ownKnob Tryz.prog.godebug=none:=by kernel_rfl
theorem Ew9:laidOutB Tryz.prog=true:=by kernel_rfl
set_option maxRecDepth 100000
section
variable {H:Type} {enc:TypeId×Value->H}
theorem Z5{P:Program}(hl:laidOutB P=true){W W':World}(hb:Below W.heap.size W W'): ∀(ts:List TypeId) (vs:List Value) (ds:List (DataW H)) (ps:List MemPlace),
  (ts.all fun t=>P.readableRec t&&decide (t<P.types.size))=true->DataW.TrodAll enc P W 0 (fun _=>true) true ts vs ds ps->(∀x∈ps,x.block<W.heap.size)->
  ∀sp:Nat->Bool,(∀p∈ps,sp p.block=true)->DataW.TrodAll enc P W' 0 sp true ts vs ds ps
 | [],[],[],ps,_,h,_,_,_=>h
 | t::ts,v::vs,d::ds,ps,ht,⟨p,q,h1,h2,e⟩,hlt,sp,hsp=>by
  subst e
  simp only[List.all_cons,Bool.and_eq_true,decide_eq_true_iff] at ht
  exact⟨p,q,WideElems.Trod_stays hl ht.1.1 ht.1.2 h1 (fun x hx=>hb.same (hlt x (List.mem_append_left _ hx))) (fun x hx=>hsp x (List.mem_append_left _ hx)),
   Z5 hl hb ts vs ds q ht.2 h2 (fun x hx=>hlt x (List.mem_append_right _ hx)) sp (fun x hx=>hsp x (List.mem_append_right _ hx)),rfl⟩
 | [],_::_,_,_,_,h,_,_,_=>h.elim
 | [],[],_::_,_,_,h,_,_,_=>h.elim
 | _::_,[],_,_,_,h,_,_,_=>h.elim
 | _::_,_::_,[],_,_,h,_,_,_=>h.elim
theorem Hv{P:Program}{f:Func}{s:ChangeSpec}{apart fresh handsOn again:Bool}{W W':World}{args:Array Value}{v:Value}{ds gs:List (DataW H)}{before pa pv:List MemPlace}
  (hW:DataW.Whole enc P f.params.toList s.vars apart W args.toList ds gs before)
  (hres: ∀(b:Nat) (sp:Nat->Bool) (hd:Bool),DataW.TrodAll enc P W' b sp hd f.resultTypes.toList (v.resultList f.resultTypes.size) (s.fn H (ds++gs)).results [])
  (hargs: ∀sp:Nat->Bool,(∀p∈before,sp p.block=true)->DataW.TrodAll enc P W' 0 sp true f.params.toList args.toList (s.fn H (ds++gs)).args pa)
  (hvars: ∀sp:Nat->Bool,(∀p∈before,sp p.block=true)->DataW.TrodVars enc P W' sp s.vars (s.fn H (ds++gs)).vars pv)
  (hps:before=pa++pv) (hb:Below W.heap.size W W')
  (hok: ∀(j:Nat) (t:TypeId) (r:Value),f.resultTypes[j]? =some t->(v.resultList f.resultTypes.size)[j]? =some r->Value.okWide P W' .any 0 t r):
  s.post enc P f apart fresh handsOn again W args v W':=by
 have hlt: ∀p∈before,p.block<W.heap.size:=fun p hp=>hW.lt p hp
 have hold: ∀p∈before,(fun b=>decide (b<W.heap.size)) p.block=true:=fun p hp=>by simpa using hlt p hp
 refine⟨ds,gs,before,[],pa,pv,hW,hres _ _ _,hargs _ hold,hvars _ hold,World.keptBut_mono (fun p hp=>⟨hp, ?_⟩) (hb.frame (· ∈before)),fun _=> ?_⟩
 ·rw[hps,List.mem_append] at hp
  exact Or.inr hp
 ·obtain⟨_,_,_,_,_,hz,hn⟩:=hW
  refine⟨hok,_,_,([]++pa)++pv,⟨[]++pa,pv,trodAll_append (hargs _ (fun _ _=>rfl)) (hres _ _ _),hvars _ (fun _ _=>rfl),rfl, ?_, ?_⟩, ?_⟩
  ·intro b off hp
   have hin:MemPlace.cell b off∈before:=by rw[hps];simpa using hp
   rw[hb.frozen (hlt _ hin)]
   exact hz b off hin
  ·intro ha
   have:=hn ha
   rw[hps] at this
   simpa using this
  ·intro p hp _
   rw[hps]
   simpa using hp
theorem Ap2{f:Func}{s:ChangeSpec}{apart:Bool}{W W':World}{args:Array Value}{ds:List (DataW H)}{before:List MemPlace}(hs:s.vars=[])
  (hW:DataW.Whole enc Tryz.prog f.params.toList s.vars apart W args.toList ds [] before)
  (hf:s.fn H (ds++[])={results:=[.lit (.bool true)],args:=ds}) (hr:f.resultTypes=#[4])
  (hts:(f.params.toList.all fun t=>Tryz.prog.readableRec t&&decide (t<Tryz.prog.types.size))=true) (hb:Below W.heap.size W W'):
  s.post enc Tryz.prog f apart true false false W args (.bool true) W':=by
 have hlt: ∀p∈before,p.block<W.heap.size:=fun p hp=>hW.lt p hp
 have hold: ∀p∈before,(fun b=>decide (b<W.heap.size)) p.block=true:=fun p hp=>by simpa using hlt p hp
 obtain⟨p,q,hA,hV,e,hz,hn⟩:=id hW
 rw[hs] at hV
 obtain⟨_,rfl⟩:=trodVars_none hV
 rw[List.append_nil] at e
 subst e
 have hT:=Z5 Ew9 hb _ _ _ _ hts hA hlt
 have hres: ∀(b:Nat) (sp:Nat->Bool) (hd:Bool),DataW.TrodAll enc Tryz.prog W' b sp hd f.resultTypes.toList ((Value.bool true).resultList f.resultTypes.size) [.lit (.bool true)] []:=fun b sp hd=>by
  rw[hr]
  exact trodAll_mk1 (shut_bool Tryz.underlying4 true)
 have hv0: ∀sp:Nat->Bool,DataW.TrodVars enc Tryz.prog W' sp s.vars (s.fn H (ds++[])).vars []:=fun sp=>by rw[hs,hf];rfl
 refine Hv (pa:=before) (pv:=[]) hW ?_ ?_ (fun sp _=>hv0 sp) (by simp) hb (ok_one hr rfl (okWide_bool_mk Tryz.underlying4 _))
 ·rw[hf];exact hres
 ·rw[hf];exact hT
end
end Go.Proofs.YtbjegfpfmnleeaaGreatDoor
