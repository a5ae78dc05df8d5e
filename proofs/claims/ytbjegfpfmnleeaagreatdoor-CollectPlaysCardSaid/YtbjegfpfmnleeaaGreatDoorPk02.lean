/-
   Written by an AI agent.
-/
import Derived.Test.YtbjegfpfmnleeaaGreatDoorPk01
import Derived.Lib.QuietBelow
namespace Go.Proofs.YtbjegfpfmnleeaaGreatDoor
open Go.RowKit Go.ChangeShapes Go.WideShapes
set_option maxRecDepth 100000
theorem Ap4{H:Type}{enc:TypeId×Value->H}{W:World}{base:Nat}{v:Value}{d:DataW H}{p:List MemPlace}(hv:Value.okWide Tryz.prog W .any base 24 v)
  (h:DataW.Trod enc Tryz.prog W 0 (fun _=>true) true 24 v d p) (hw:Di 24 d):
  ∃(l:List Int) (pa:Option Addr) (pc:Nat),v=.slice pa l.length pc/\PathAt W (fun _=>True) pa l/\l.length<=17592186043904/\(∀(j:Nat) (x:Int),l[j]? =some x->F8 x):=by
 obtain⟨a,len,cap,rfl⟩:=okWide_slice Tryz.underlying24 hv
 obtain⟨fuel,hf⟩:=h
 obtain⟨l,pa,pc,e,h1,_,_,h2,h3⟩:=Xt hf hw
 simp[Value.cells] at e
 obtain⟨rfl,rfl,rfl⟩:=e
 exact⟨l,_,_,rfl,h1,h2,h3⟩
end Go.Proofs.YtbjegfpfmnleeaaGreatDoor
namespace Go.Proofs.YtbjegfpfmnleeaaGreatDoor
open Go.RowKit Go.Sort
theorem J0{P:Program}{id:Nat}{Q:Exit->Act->World->Prop}{a:Act}{w:World}{l:List Oper}(hm:P.follows .mixedOrders=true)(hB:Region.lexB .any l.toArray=true)
  (h:wpQuiet P l.toArray (fun w'=> ∃p:Regrown,w'=grow (redrawn w p.d) p.os) (fun a'=> ∀w',Below w.heap.size w w'->Q .normal a' w') l a):(Code.region id l.toArray true).wp P Q a w:=by
 refine wp_region_quiet_below hm hB ?_
 have hmono: ∀(l':List Oper) (a:Act),wpQuiet P l.toArray (fun w'=> ∃p:Regrown,w'=grow (redrawn w p.d) p.os) (fun a'=> ∀w',Below w.heap.size w w'->Q .normal a' w') l' a->
   wpQuiet P l.toArray (fun w'=> ∃p:Regrown,w'=grow (redrawn w p.d) p.os) (fun a'=> ∀w',(∃p:Regrown,w'=grow (redrawn w p.d) p.os)->Q .normal a' w') l' a:=by
  intro l'
  induction l' with
  | nil=>intro a h w' ⟨p,hp⟩;subst hp;exact h _ (below_regrown w p.d p.os)
  | cons o r ih=>
   intro a h
   unfold wpQuiet at h ⊢
   split
   ·rename_i hw
    rw[if_pos hw] at h
    exact Oper.quiet_mono (fun a ha=>ih a ha) h
   ·rename_i hw
    rw[if_neg hw] at h
    exact ih _ h
 exact hmono l a h
theorem A7{a b c:World}(h:Below a.heap.size a b)(k:Below b.heap.size b c):Below a.heap.size a c:=h.trans (k.mono h.size)
theorem B2{a b:World}(h:Below a.heap.size a b)(o:Obj):Below a.heap.size a (b.alloc o):=h.alloc h.size o
theorem bz{P:Prop}(h:P:=by((repeat' (first | exact Below.refl _ _ | assumption | (refine B2 ?_ _) | (refine Below.drew ?_) | (refine B3 ?_ _) | (refine Below.setCell ?_ ?_ _) | (refine A7 ?_ (by assumption))))<;>first | omega | (simp;done) | (simp;omega))):P:=h
def Blk(w:World)(g:Nat)(t:TypeId)(cs:Array Value):Prop:=w.heap[g]? =some (.cells cs t (0,0))
section
variable {w w':World} {g:Nat} {t:TypeId} {cs:Array Value}
theorem Blk.lt(h:Blk w g t cs):g<w.heap.size:=by
 rcases Nat.lt_or_ge g w.heap.size with hlt | hge
 ·exact hlt
 ·unfold Blk at h;rw[Array.getElem?_eq_none hge] at h;cases h
theorem Blk.cell(h:Blk w g t cs)(i:Nat):w.cell? ⟨g,i,none⟩=cs[i]? :=cell_of_row w g i cs t (0,0) h
theorem Blk.frozen(h:Blk w g t cs)(i:Nat):w.frozen? ⟨g,i,none⟩=false:=by
 unfold Blk at h
 simp[World.frozen?,h]
theorem Blk.new(w:World)(t:TypeId)(cs:Array Value):Blk (w.alloc (.cells cs t)) w.heap.size t cs:=heap_alloc_new w _
theorem Blk.alloc(h:Blk w g t cs)(o:Obj):Blk (w.alloc o) g t cs:=(Below.heap_alloc w o g h.lt).trans h
theorem Blk.set_(h:Blk w g t cs)(i:Nat)(u:Value):Blk (w.setCell ⟨g,i,none⟩ u) g t (cs.setIfInBounds i u):=by
 unfold Blk at h ⊢
 simp[World.setCell,Array.getElem?_modify,h]
theorem Blk.far(h:Blk w g t cs){p:Addr}(hp:g≠p.block)(u:Value):Blk (w.setCell p u) g t cs:=(Below.heap_setCell w p u g hp).trans h
theorem Blk.below{B:Nat}(h:Blk w g t cs)(hb:Below B w w')(hg:g<B):Blk w' g t cs:=(hb.block g hg).trans h
theorem Blk.grown{row:Option Nat}(h:Blk w g t cs)(hb:w.grownBy w' row)(hg:some g≠row):Blk w' g t cs:=(hb.block g h.lt hg).trans h
theorem Blk.drewN(h:Blk w g t cs)(n:Nat):Blk (w.drewN n) g t cs:=h
theorem Blk.new1(w:World)(o:Obj)(t:TypeId)(cs:Array Value):Blk ((w.alloc o).alloc (.cells cs t)) (w.heap.size+1) t cs:=by
 have:=Blk.new (w.alloc o) t cs
 simpa using this
end
theorem CellsAt.below{w w':World}{b o B:Nat}{vs:Array Value}(h:CellsAt w b o vs)(hb:Below B w w')(hB:b<B):CellsAt w' b o vs:=
 fun j v hv=>(hb.cell (p:=⟨b,o+j,none⟩) hB).trans (h j v hv)
theorem CellsAt.of_blk{w:World}{b:Nat}{t:TypeId}{vs:Array Value}(h:Blk w b t vs):CellsAt w b 0 vs:=fun j v hv=>by rw[Nat.zero_add,h.cell,hv]
theorem CellsAt.box{w:World}{b:Nat}{h:Hd}{pa:Option Addr}{pc:Nat}{ia:Option Addr}{il ic:Nat}(c:CellsAt w b 0 (h.cells pa pc ia il ic)):
  w.cell? ⟨b,0,none⟩=some (.int .i64 h.kind)/\w.cell? ⟨b,1,none⟩=some (.string h.type)/\w.cell? ⟨b,2,none⟩=some (.int .i64 h.n)/\
  w.cell? ⟨b,3,none⟩=some (.int .u64 h.f)/\w.cell? ⟨b,4,none⟩=some (.string h.s)/\w.cell? ⟨b,5,none⟩=some (.int .i64 h.obj)/\
  w.cell? ⟨b,6,none⟩=some (.int .i64 h.frm)/\w.cell? ⟨b,7,none⟩=some (.int .i64 h.len)/\w.cell? ⟨b,8,none⟩=some (.int .i64 h.cap)/\
  w.cell? ⟨b,9,none⟩=some (.slice pa h.path.length pc)/\w.cell? ⟨b,10,none⟩=some (.slice ia il ic):=by
 have:=c.eleven
 simpa using this
theorem CellsAt.rg{w:World}{b o:Nat}{h:Hd}{pa:Option Addr}{pc:Nat}{ia:Option Addr}{il ic:Nat}(c:CellsAt w b o (h.cells pa pc ia il ic)):
  (∀d os,(grow (redrawn w d) os).cell? ⟨b,o,none⟩=some (.int .i64 h.kind))/\(∀d os,(grow (redrawn w d) os).cell? ⟨b,o+1,none⟩=some (.string h.type))/\(∀d os,(grow (redrawn w d) os).cell? ⟨b,o+2,none⟩=some (.int .i64 h.n))/\
  (∀d os,(grow (redrawn w d) os).cell? ⟨b,o+3,none⟩=some (.int .u64 h.f))/\(∀d os,(grow (redrawn w d) os).cell? ⟨b,o+4,none⟩=some (.string h.s))/\(∀d os,(grow (redrawn w d) os).cell? ⟨b,o+5,none⟩=some (.int .i64 h.obj))/\
  (∀d os,(grow (redrawn w d) os).cell? ⟨b,o+6,none⟩=some (.int .i64 h.frm))/\(∀d os,(grow (redrawn w d) os).cell? ⟨b,o+7,none⟩=some (.int .i64 h.len))/\(∀d os,(grow (redrawn w d) os).cell? ⟨b,o+8,none⟩=some (.int .i64 h.cap))/\
  (∀d os,(grow (redrawn w d) os).cell? ⟨b,o+9,none⟩=some (.slice pa h.path.length pc))/\(∀d os,(grow (redrawn w d) os).cell? ⟨b,o+10,none⟩=some (.slice ia il ic)):=by
 obtain⟨c0,c1,c2,c3,c4,c5,c6,c7,c8,c9,c10⟩:=c.eleven
 exact⟨cell_regrown c0,cell_regrown c1,cell_regrown c2,cell_regrown c3,cell_regrown c4,cell_regrown c5,cell_regrown c6,cell_regrown c7,cell_regrown c8,cell_regrown c9,cell_regrown c10⟩
theorem CellsAt.boxrg{w:World}{b:Nat}{h:Hd}{pa:Option Addr}{pc:Nat}{ia:Option Addr}{il ic:Nat}(c:CellsAt w b 0 (h.cells pa pc ia il ic)):
  (∀d os,(grow (redrawn w d) os).cell? ⟨b,0,none⟩=some (.int .i64 h.kind))/\(∀d os,(grow (redrawn w d) os).cell? ⟨b,1,none⟩=some (.string h.type))/\(∀d os,(grow (redrawn w d) os).cell? ⟨b,2,none⟩=some (.int .i64 h.n))/\
  (∀d os,(grow (redrawn w d) os).cell? ⟨b,3,none⟩=some (.int .u64 h.f))/\(∀d os,(grow (redrawn w d) os).cell? ⟨b,4,none⟩=some (.string h.s))/\(∀d os,(grow (redrawn w d) os).cell? ⟨b,5,none⟩=some (.int .i64 h.obj))/\
  (∀d os,(grow (redrawn w d) os).cell? ⟨b,6,none⟩=some (.int .i64 h.frm))/\(∀d os,(grow (redrawn w d) os).cell? ⟨b,7,none⟩=some (.int .i64 h.len))/\(∀d os,(grow (redrawn w d) os).cell? ⟨b,8,none⟩=some (.int .i64 h.cap))/\
  (∀d os,(grow (redrawn w d) os).cell? ⟨b,9,none⟩=some (.slice pa h.path.length pc))/\(∀d os,(grow (redrawn w d) os).cell? ⟨b,10,none⟩=some (.slice ia il ic)):=by
 have:=c.rg
 simpa using this
theorem Mx{w w1 w2:World}{row:Option Nat}(h:w.grownBy w1 row)(hb:Below w1.heap.size w1 w2):w.grownBy w2 row:=
 ⟨hb.os.trans h.os,hb.tape.trans h.tape,hb.output.trans h.output,Nat.le_trans h.size hb.size,fun k hk hne=>(hb.block k (Nat.lt_of_lt_of_le hk h.size)).trans (h.block k hk hne)⟩
theorem Dj{w w1:World}{row:Option Nat}(h:w.grownBy w1 row)(n:Nat):w.grownBy (w1.drewN n) row:=⟨h.os,h.tape,h.output,h.size,h.block⟩
theorem My{a b c:World}{row:Option Nat}(h:a.grownBy b row)(k:b.grownBy c row):a.grownBy c row:=
 ⟨k.os.trans h.os,k.tape.trans h.tape,k.output.trans h.output,Nat.le_trans h.size k.size,fun i hi hn=>(k.block i (Nat.lt_of_lt_of_le hi h.size) hn).trans (h.block i hi hn)⟩
theorem Mz{a b:World}{row:Option Nat}(h:a.grownBy b row)(o:Obj):a.grownBy (b.alloc o) row:=
 ⟨h.os,h.tape,h.output,Nat.le_trans h.size (by simp),fun i hi hn=>(Below.heap_alloc _ _ _ (Nat.lt_of_lt_of_le hi h.size)).trans (h.block i hi hn)⟩
end Go.Proofs.YtbjegfpfmnleeaaGreatDoor
namespace Go.Proofs.YtbjegfpfmnleeaaGreatDoor
open Go.RowKit
variable {df:List Deferred}
def F9(a:Act)(k:Nat):Value:=a.tmps.getD k undef
structure Sl (n:Nat) (a:Act) (l:List (Nat×Value)) (df:List Deferred:=[]):Prop where
 size:a.tmps.size=n
 defers:a.defers=df
 known: ∀p∈l,F9 a p.1=p.2
theorem Nz{k:Nat}{v:Value}: ∀{l:List (Nat×Value)},l.lookup k=some v->(k,v)∈l
 | [],h=>by cases h
 | (j,u)::l,h=>by
  rw[List.lookup_cons] at h
  by_cases e:(k==j)=true
  ·have e':k=j:=by simpa using e
   subst e'
   simp at h
   subst h
   exact List.mem_cons_self
  ·have e':(k==j)=false:=by simpa using e
   rw[e'] at h
   exact List.mem_cons_of_mem _ (Nz h)
theorem Sl.look{n:Nat}{a:Act}{l:List (Nat×Value)}(h:Sl n a l df)(k:Nat){v:Value}(e:l.lookup k=some v):F9 a k=v:=h.known (k,v) (Nz e)
theorem Sl.keep{n:Nat}{a a':Act}{l:List (Nat×Value)}{ks:List Nat}(h:Sl n a l df)(hs:a'.tmps.size=n)(hd:a'.defers=df)(hk: ∀k∈ks,F9 a' k=F9 a k)(hl:(l.map Prod.fst).all (fun k=>ks.contains k)=true):Sl n a' l df:=
 ⟨hs,hd,fun p hp=>(hk p.1 (by
  have:=List.all_eq_true.1 hl p.1 (List.mem_map_of_mem hp)
  simpa using this)).trans (h.known p hp)⟩
theorem Sl.add{n:Nat}{a:Act}{l:List (Nat×Value)}(h:Sl n a l df){k:Nat}{v:Value}(e:F9 a k=v):Sl n a ((k,v)::l) df:=
 ⟨h.size,h.defers,fun p hp=>by
  rcases List.mem_cons.1 hp with rfl | hp
  ·exact e
  ·exact h.known p hp⟩
def KeepL(f:Nat->Value)(a':Act):List Nat->Prop
 | []=>True
 | k::ks=>F9 a' k=f k/\KeepL f a' ks
theorem KeepL.get{f:Nat->Value}{a':Act}: ∀{ks:List Nat},KeepL f a' ks->∀k∈ks,F9 a' k=f k
 | [],_,k,h=>by cases h
 | j::ks,⟨h1,h2⟩,k,h=>by
  rcases List.mem_cons.1 h with rfl | h
  ·exact h1
  ·exact KeepL.get h2 k h
theorem Sl.stay{n:Nat}{a a':Act}{l:List (Nat×Value)}{f:Nat->Value}(ks:List Nat)(h:Sl n a l df)(hf: ∀k,F9 a k=f k)(hs:a'.tmps.size=n)(hd:a'.defers=df)(hk:KeepL f a' ks)(hl:(l.map Prod.fst).all (fun k=>ks.contains k)=true):Sl n a' l df:=
 h.keep hs hd (fun k hm=>(hk.get k hm).trans (hf k).symm) hl
theorem Sl.sub{n:Nat}{a:Act}{l l':List (Nat×Value)}(h:Sl n a l df)(hl: ∀p∈l',p∈l):Sl n a l' df:=⟨h.size,h.defers,fun p hp=>h.known p (hl p hp)⟩
theorem Sl.none{n:Nat}{a:Act}{l:List (Nat×Value)}(h:Sl n a l df):Sl n a [] df:=⟨h.size,h.defers,fun _ hp=>by cases hp⟩
theorem C9{P:Program}{k n:Nat}{Q:Exit->Act->World->Prop}{a:Act}{w:World}(hc:F9 a k=.bool false)(h:Q (.exit n) a w):(Code.cond (.tmp k) .skip (.exit n)).wp P Q a w:=wp_cond_false hc (wp_exit h)
theorem B9{P:Program}{k:Nat}{x:Code}{Q:Exit->Act->World->Prop}{a:Act}{w:World}(hc:F9 a k=.bool false)(h:Q .normal a w):(Code.cond (.tmp k) x .skip).wp P Q a w:=wp_cond_false hc (wp_skip h)
def G1(n:Nat):Value->Nat
 | .int _ x=>n-x.toNat
 | _=>0
theorem B4(n:Nat)(k:IntKind)(x:Nat):G1 n (.int k (x:Int))=n-x:=by simp[G1]
def D4(n:Nat):Code->Option Code
 | .region id ops d=>if id=n then some (.region id ops d) else none
 | .seq a b=>match D4 n a with
  | some c=>some c
  | none=>D4 n b
 | .cond _ a b=>match D4 n a with
  | some c=>some c
  | none=>D4 n b
 | .rangeFunc _ _ a b=>match D4 n a with
  | some c=>some c
  | none=>D4 n b
 | .block _ c=>D4 n c
 | .loop c=>D4 n c
 | .scope c=>D4 n c
 | _=>none
end Go.Proofs.YtbjegfpfmnleeaaGreatDoor
