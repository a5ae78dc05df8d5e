/-
   Written by an AI agent.
-/
import Derived.Test.YtlhfickniegooaaDoorPk09
import Derived.Laws.Cover3
import Derived.Deep.CutBlock
import Derived.Test.YtlhfickniegooaaDoorPk07
namespace Go.Proofs.YtlhfickniegooaaDoor
open Go.RowKit Go.Sort
def CopyC(h:Hd)(k:Fo):Prop:= ∀(w:World) (S:Nat->Prop) (pa:Option Addr) (pc:Nat) (ia:Option Addr) (ic:Nat),DatAt w S h k pa pc ia ic->
 Calls Tryd.prog 61 #[.agg (h.cells pa pc ia k.len ic)] w (TwinPost h k w)
def Upto(w:World)(k:Fo)(g j:Nat):Prop:=
 ∀i a b,i<j->k.get i=some (a,b)->∃pa pc ia ic,CellsAt w g (i*11) (a.cells pa pc ia b.len ic)/\DatAt w (fun x=>g<x) a b pa pc ia ic
theorem upto_step{wr w6:World}{k:Fo}{g j:Nat}{a:Hd}{b:Fo}{cu:Array Value}{t:TypeId}{qa:Option Addr}{qc:Nat}{ja:Option Addr}{jc:Nat}(gH:Upto wr k g j)(hlt:g<wr.heap.size)
  (hb6:Below wr.heap.size wr w6) (hget:k.get j=some (a,b)) (hB:Blk w6 g t cu) (hsz:j*11+11<=cu.size) (hda:DatAt w6 (fun x=>wr.heap.size<=x) a b qa qc ja jc):
  Upto (w6.setCells g (j*11) (a.cells qa qc ja b.len jc).toList) k g (j+1):=by
 intro i c d hi e
 have hlen:(a.cells qa qc ja b.len jc).toList.length=11:=by simp[Hd.cells]
 by_cases hij:i=j
 ·subst hij
  rw[hget] at e
  injection e with e
  injection e with e1 e2
  subst e1 e2
  exact⟨qa,qc,ja,jc,fun n v hv=>World.rangeAt_setCells_same w6 g (i*11) _ (there_blk hB (by rw[hlen];exact hsz)) n v (by simpa using hv),
   hda.keep (fun x h1 _=>setCells_heap g _ _ _ x (by omega)) (fun x h1 _=>by omega)⟩
 ·obtain⟨pa,pc,ia,ic,h1,h2⟩:=gH i c d (by omega) e
  refine⟨pa,pc,ia,ic,fun n v hv=> ?_,h2.keep (fun x h1 h3=>(setCells_heap g _ _ _ x (by omega)).trans (hb6.block x h3)) (fun _ h _=>h)⟩
  have hn:n<11:=by
   have:n<(c.cells pa pc ia d.len ic).size:=by
    rcases Nat.lt_or_ge n (c.cells pa pc ia d.len ic).size with h | h
    ·exact h
    ·rw[Array.getElem?_eq_none h] at hv;cases hv
   simpa[Hd.cells] using this
  rw[World.cell?_setCells_out g _ (j*11) w6 ⟨g,i*11+n,none⟩ (fun _ _=>by rw[hlen];show i*11+n<j*11\/j*11+11<=i*11+n;omega)]
  exact(hb6.cell (p:=⟨g,i*11+n,none⟩) hlt).trans (h1 n v hv)
def KidsDone(h:Hd)(k:Fo)(pa:Option Addr)(pc:Nat)(w wx:World):Prop:=
 ∃ia ic,Blk wx w.heap.size 31 (h.cells pa pc ia k.len ic)/\SlAt wx (fun b=>w.heap.size+1<b) ia k/\k.len<=ic/\capOk ia ic/\(∃cs,cs.size=11/\Blk wx (w.heap.size+1) 31 cs)/\Below w.heap.size w wx
def PathDone(h:Hd)(k:Fo)(ia:Option Addr)(ic:Nat)(w wx:World):Prop:=
 ∃pa pc,Blk wx w.heap.size 31 (h.cells pa pc ia k.len ic)/\PathAt wx (fun b=>w.heap.size+1<b) pa h.path/\h.path.length<=pc/\capOk pa pc/\SlAt wx (fun b=>w.heap.size+1<b) ia k/\(∃cs,cs.size=11/\Blk wx (w.heap.size+1) 31 cs)/\Below w.heap.size w wx
theorem below_of_grown{w w':World}(h:w.grownBy w' none):Below w.heap.size w w':=⟨h.os,h.tape,h.output,h.size,fun k hk=>h.block k hk (by simp)⟩
theorem own_full{w:World}{B g n:Nat}{e:TypeId}{xs:List Value}(h:w.ownsRow B e 11 (.slice (some ⟨g,0,none⟩) n n) n xs): ∃cur,Blk w g e cur/\cur.size=n*11:=by
 rcases h.2 with⟨h,_⟩ | ⟨g',cap,cur,he,_,hh,_,_,hs,_⟩
 ·cases h
 ·injection he with e1 _ e3
  injection e1 with e1
  injection e1 with e1
  subst e1 e3
  exact⟨cur,hh,hs⟩
set_option maxRecDepth 100000 in
set_option maxHeartbeats 4000000 in
theorem copied_one(h:Hd)(k:Fo)(ho:h.ok)(hkl:k.len<=1034834473170)(ih: ∀i a b,k.get i=some (a,b)->CopyC a b):CopyC h k:=by
 intro w S pa pc ia ic hd
 replace hd:DatAt w (fun b=>b<w.heap.size) h k pa pc ia ic:=hd.keep (fun _ _ _=>rfl) (fun b _ h=>h)
 have hnn:=fun W=>run_neq_slice_nil (P:=Tryd.prog) W 29 31 ia k.len ic Tryd.underlying29
 have hnp:=fun W=>run_neq_slice_nil (P:=Tryd.prog) W 22 3 pa h.path.length pc Tryd.underlying22
 unfold Hd.cells
 go_enter Tryd.func61,Tryd.ntmps61
 go_upto_region 0 with fail
 go_cut [0,1,2] (fun _ t1 t2 wx=>t1=.pointer (some ⟨w.heap.size,0,none⟩)/\t2=.pointer (some ⟨w.heap.size+1,0,none⟩)/\Blk wx w.heap.size 31 (h.cells pa pc ia k.len ic)/\(∃cs,cs.size=11/\Blk wx (w.heap.size+1) 31 cs)/\Below w.heap.size w wx)
 case first=>
  go_wp2_with fail
  go_meet
  case rel=>exact⟨rfl,rfl,(Blk.new _ _ _).alloc _,⟨_,by rfl,Blk.new1 _ _ _ _⟩,bz⟩
 case rest=>
 obtain⟨rfl,rfl,hA,hR,hbw⟩:=hcut
 obtain⟨w0,rfl⟩: ∃w0:World,w0=wc:=⟨_,rfl⟩
 have HR:=Lib.hid hR
 clear hR
 have HD:=Lib.hid hd
 have HIH:=Lib.hid ih
 clear hd ih
 obtain⟨c0,c1,c2,c3,c4,c5,c6,c7,c8,c9,c10⟩:=(CellsAt.of_blk hA).box
 go_upto_if 7 with fail
 go_cut [1] (fun t1 wx=>t1=.pointer (some ⟨w.heap.size,0,none⟩)/\KidsDone h k pa pc w wx)
 case first=>
  as_aux_lemma=>
   have hkm:k.len<=9223372036854775807:=by omega
   cases ia with
   | none=>
    have hl0:k.len=0:=by
     rcases HD.out.kids with h | ⟨b,o,h,_⟩
     ·exact h
     ·cases h
    have HL0:=Lib.hid hl0
    clear hl0
    go_wp2_with fail
    go_meet
    case rel=>exact⟨rfl,none,ic,hA,.inl HL0.out,HD.out.icLe,HD.out.icMax,HR.out,hbw⟩
   | some ad=>
    have hlA:=hA.lt
    have hlR:w.heap.size+1<w0.heap.size:=by obtain⟨cs,_,h⟩:=HR.out;exact h.lt
    obtain⟨i0,hi,hz0,hz1,hz2⟩:=info_parts info_dat
    go_wp2_with (at_make;refine wpList_make_full _ rfl (.tmp 10) (.tmp 10) _ rfl w0.heap.size 31 i0 _ 11 Tryd.underlying29 hi hz0 hz1 .i64 .i64 _ _ k.len rfl rfl rfl rfl (by rw[hz2];omega) (by unfold maxLen;omega) (Nat.le_refl _) ?_)
    intro w1 hown hgrow
    obtain⟨cur,hC,hcz⟩:=own_full hown
    have hb1:=below_of_grown hgrow
    have hA1:=hA.below hb1 hlA
    have hR1:Hid (∃cs,cs.size=11/\Blk w1 (w.heap.size+1) 31 cs):=by
     obtain⟨cs,h1,h2⟩:=HR.out
     exact⟨cs,h1,h2.below hb1 h2.lt⟩
    have hC1:Hid (∃cur,Blk w1 w0.heap.size 31 cur/\cur.size=k.len*11):=⟨cur,hC,hcz⟩
    have hbw1:Below w.heap.size w w1:=bl_trans hbw hb1
    have hU1:Upto w1 k w0.heap.size 0:=fun i a b hi=>absurd hi (by omega)
    clear hcz hown hgrow hi hz0 hz1 hz2 c0 c1 c2 c3 c4 c5 c6 c7 c8 c9 c10 hC
    go_wp2_with fail
    go_loopg [4] k.len (fun gk i wr=> ∃j:Nat,j<=k.len/\i=.int .i64 j/\gk=k.len-j/\Blk wr w.heap.size 31 (h.cells pa pc (some ad) k.len ic)/\Hid (∃cs,cs.size=11/\Blk wr (w.heap.size+1) 31 cs)/\
     Hid (∃cur,Blk wr w0.heap.size 31 cur/\cur.size=k.len*11)/\Upto wr k w0.heap.size j/\Below w.heap.size w wr)
    case atStart=>exact⟨0,by omega,rfl,by omega,hA1,hR1,hC1,hU1,hbw1⟩
    case round=>
    obtain⟨j,hj,rfl,rfl,gA,gR,gC,gH,gb⟩:=hrel
    clear hA1 hR1 hC1 hU1 hbw1
    obtain⟨_,_,_,_,_,_,_,_,_,_,c10⟩:=(CellsAt.of_blk gA).box
    have hltN:=gA.lt
    by_cases hlt:j<k.len
    ·obtain⟨a,b,hget⟩:=Fo.get_lt k j hlt
     have hks:SlAt wr (fun b=>b<w.heap.size) (some ad) k:=(HD.out.below gb (fun b _ h=>h)).kids
     obtain⟨b1,o1,had,_,qa,qc,ja,jc,hcs,hda⟩:=hks.get hget
     injection had with had
     subst had
     obtain⟨d0,d1,d2,d3,d4,d5,d6,d7,d8,d9,d10⟩:=hcs.eleven
     obtain⟨cu,gC1,gC2⟩:=gC.out
     have hltG:=gC1.lt
     have hsz:j*11+11<=cu.size:=by rw[gC2];omega
     have HS:=Lib.hid hsz
     have HC:=Lib.hid gC2
     have hih:=HIH.out j a b hget wr _ qa qc ja jc hda
     unfold Hd.cells at hih
     have HI:=Lib.hid hih
     have hj0:(0:Int)<=(j:Int):=by omega
     have hj1:(j:Int)<(k.len:Int):=by omega
     clear gC gC2 hsz hih hcs hda hks
     go_wp2_with fail
     refine HI.out.mono ?_
     rintro e w6 ⟨qa',qc',ja',jc',rfl,hda',hb6⟩
     have hst:=run_store_cells (gC1.below hb6 hltG) (j*11) a qa' qc' ja' b.len jc' HS.out
     clear d0 d1 d2 d3 d4 d5 d6 d7 d8 d9 d10 c10
     go_wp2_with fail
     have hB6:=gC1.below hb6 hltG
     have hH:=upto_step gH hltG hb6 hget hB6 HS.out hda'
     have gA7:Blk (w6.setCells w0.heap.size (j*11) (a.cells qa' qc' ja' b.len jc').toList) w.heap.size 31 (h.cells pa pc (some ⟨b1,o1,none⟩) k.len ic):=(setCells_heap w0.heap.size _ _ _ _ (by omega)).trans (gA.below hb6 hltN)
     have gR7:Hid (∃cs,cs.size=11/\Blk (w6.setCells w0.heap.size (j*11) (a.cells qa' qc' ja' b.len jc').toList) (w.heap.size+1) 31 cs):=by
      obtain⟨cs,gR1,gR2⟩:=gR.out
      exact⟨cs,gR1,(setCells_heap w0.heap.size _ _ _ _ (by omega)).trans (gR2.below hb6 gR2.lt)⟩
     have gC7:Hid (∃cur,Blk (w6.setCells w0.heap.size (j*11) (a.cells qa' qc' ja' b.len jc').toList) w0.heap.size 31 cur/\cur.size=k.len*11):=by
      obtain⟨cur,h1,h2⟩:=setCells_blk (a.cells qa' qc' ja' b.len jc').toList (j*11) _ _ hB6
      exact⟨cur,h1,by rw[h2,HC.out]⟩
     have gb7:Below w.heap.size w (w6.setCells w0.heap.size (j*11) (a.cells qa' qc' ja' b.len jc').toList):=setCells_below _ _ _ (bl_trans gb hb6) (by omega)
     generalize w6.setCells w0.heap.size (j*11) (a.cells qa' qc' ja' b.len jc').toList=w7 at hH gA7 gR7 gC7 gb7 ⊢
     clear hst hb6 hB6 gH gA gR gb gC1 hda'
     go_wp2_with fail
     go_roundg (k.len-(j+1))
     case measure=>omega
     case rel=>exact⟨j+1,by omega,by go_num,rfl,gA7,gR7,gC7,hH,gb7⟩
    ·have hjl:j=k.len:=by omega
     have HJ:=Lib.hid hjl
     have hjn: ¬((j:Int)<(k.len:Int)):=by omega
     have f10:=gA.frozen 10
     clear hjl hlt
     go_wp2_with fail
     go_meet
     case rel=>
      refine⟨rfl,some ⟨w0.heap.size,0,none⟩,k.len,gA.set_ 10 (.slice (some ⟨w0.heap.size,0,none⟩) k.len k.len),.inr ⟨w0.heap.size,0,rfl,by omega,FoAt.of_get k _ 0 fun i c d e=> ?_⟩,Nat.le_refl _,capOk.some hkm, ?_,gb.setCell (Nat.le_refl _) _⟩
      ·obtain⟨pa2,pc2,ia2,ic2,h1,h2⟩:=gH i c d (by have:=Fo.get_len _ _ _ e;have:=HJ.out;omega) e
       exact⟨pa2,pc2,ia2,ic2,by rw[Nat.zero_add];exact h1.to_blk (Below.heap_setCell _ _ _ _ (by show w0.heap.size≠w.heap.size;omega)),h2.keep (fun x h1 _=>Below.heap_setCell _ _ _ _ (by have:w0.heap.size<x:=h1;show x≠w.heap.size;omega)) (fun x h1 _=>by have:w0.heap.size<x:=h1;show w.heap.size+1<x;omega)⟩
      ·obtain⟨cs,h1,h2⟩:=gR.out
       exact⟨cs,h1,h2.far (p:=⟨w.heap.size,10,none⟩) (by simp) _⟩
 case rest=>
 obtain⟨rfl,hkd⟩:=hcut
 obtain⟨ja,jc,hA2,hK2,hi1,hi2,hR2,hb2⟩:=hkd
 obtain⟨w2,rfl⟩: ∃w2:World,w2=wc:=⟨_,rfl⟩
 have HR2:=Lib.hid hR2
 have HK2:=Lib.hid hK2
 have HI1:=Lib.hid hi1
 have HI2:=Lib.hid hi2
 clear c0 c1 c2 c3 c4 c5 c6 c7 c8 c9 c10 hA hbw HR hnn hR2 hK2 hi1 hi2
 obtain⟨c0,c1,c2,c3,c4,c5,c6,c7,c8,c9,c10⟩:=(CellsAt.of_blk hA2).box
 have hlA:=hA2.lt
 have hlR:w.heap.size+1<w2.heap.size:=by obtain⟨cs,_,h⟩:=HR2.out;exact h.lt
 have hpl:=ho.path
 go_upto_if 32 with fail
 go_cut [1] (fun t1 wx=>t1=.pointer (some ⟨w.heap.size,0,none⟩)/\PathDone h k ja jc w wx)
 case first=>
  as_aux_lemma=>
   cases pa with
   | none=>
    have hl0:h.path=[]:=by
     rcases HD.out.path with h | ⟨b,o,h,_⟩
     ·exact h
     ·cases h
    have HL0:=Lib.hid hl0
    clear hl0
    go_wp2_with fail
    go_meet
    case rel=>exact⟨rfl,none,pc,hA2,.inl HL0.out,HD.out.pcLe,HD.out.pcMax,HK2.out,HR2.out,hb2⟩
   | some ad=>
    obtain⟨i0,hi,hz0,hz1,hz2⟩:=info_parts info_int
    have hp1:=path_news ((HD.out.below hb2 (fun b _ h=>h)).path)
    have HP:=Lib.hid hp1
    have hown:w2.ownsRow w2.heap.size 3 1 (.slice none 0 0) 0 []:=⟨rfl,.inl ⟨rfl,rfl⟩⟩
    have HOWN:=Lib.hid hown
    clear hp1 hown
    go_wp2_with (at_builtin;refine wpList_append_own_at _ rfl (.const (.slice none 0 0)) (.tmp 35) _ rfl w2.heap.size 3 i0 _ 1 8 Tryd.underlying22 hi hz0 hz1 hz2 rfl (by omega) (.slice none 0 0) 0 [] rfl HOWN.out ad h.path.length pc (h.path.map (Value.int .i64)) rfl (by simp) HP.out (by simp[Value.oneCell']) (by unfold maxLen;omega) (by omega) (Nat.le_refl _) ?_)
    intro v' w3 hown' hgrow _ _
    obtain⟨pa',pc',hv,h1,h2,h3⟩:=own_path (by simpa using hown')
    subst hv
    have hb3:Below w2.heap.size w2 w3:=below_of_grown hgrow
    have hA3:=hA2.below hb3 hlA
    have f9:=hA3.frozen 9
    have hA4:=hA3.set_ 9 (.slice pa' h.path.length pc')
    have hs3:=hb3.size
    clear c0 c1 c2 c3 c4 c5 c6 c7 c8 c9 c10 hi hz0 hz1 hz2 hown' hgrow
    obtain⟨c0,c1,c2,c3,c4,c5,c6,c7,c8,c9,c10⟩:=(CellsAt.of_blk hA3).box
    go_wp2_with fail
    go_meet
    case rel=>
     refine⟨rfl,pa',pc',hA4,h1.keep (fun b hb _=>Below.heap_setCell _ _ _ _ (by have:w2.heap.size<=b:=hb;show b≠w.heap.size;omega)) (fun b hb _=>by have:w2.heap.size<=b:=hb;show w.heap.size+1<b;omega),h2,h3,
      HK2.out.keep (fun b hb hlt=>(Below.heap_setCell _ _ _ _ (by have:w.heap.size+1<b:=hb;show b≠w.heap.size;omega)).trans (hb3.block b hlt)) (fun _ h _=>h), ?_,(bl_trans hb2 hb3).setCell (Nat.le_refl _) _⟩
     obtain⟨cs,h1,h2⟩:=HR2.out
     exact⟨cs,h1,(h2.below hb3 h2.lt).far (p:=⟨w.heap.size,9,none⟩) (by simp) _⟩
 case rest=>
 obtain⟨rfl,hpd⟩:=hcut
 obtain⟨qa,qc,hA3,hP3,hq1,hq2,hK3,⟨cs,hcs,hR3⟩,hb3⟩:=hpd
 obtain⟨w3,rfl⟩: ∃w3:World,w3=wc:=⟨_,rfl⟩
 clear c0 c1 c2 c3 c4 c5 c6 c7 c8 c9 c10 hA2 HR2 HK2 hb2 hnp hlA hlR HIH
 obtain⟨c0,c1,c2,c3,c4,c5,c6,c7,c8,c9,c10⟩:=(CellsAt.of_blk hA3).box
 have hfr:=fun j=>hR3.frozen j
 obtain⟨v0,v1,v2,v3,v4,v5,v6,v7,v8,v9,v10,q0,q1,q2,q3,q4,q5,q6,q7,q8,q9,q10⟩:=hR3.eleven hcs
 have hd8:DatAt (w3.setCells (w.heap.size+1) 0 (h.cells qa qc ja k.len jc).toList) (fun b=>w.heap.size<=b) h k qa qc ja jc:=
  ⟨hP3.keep (fun x h1 _=>setCells_heap _ _ _ _ _ (by have:w.heap.size+1<x:=h1;omega)) (fun x h1 _=>by have:w.heap.size+1<x:=h1;show w.heap.size<=x;omega),hq1,hq2,
   hK3.keep (fun x h1 _=>setCells_heap _ _ _ _ _ (by have:w.heap.size+1<x:=h1;omega)) (fun x h1 _=>by have:w.heap.size+1<x:=h1;show w.heap.size<=x;omega),HI1.out,HI2.out⟩
 have gb8:Below w.heap.size w (w3.setCells (w.heap.size+1) 0 (h.cells qa qc ja k.len jc).toList):=setCells_below _ _ _ hb3 (by omega)
 go_wp2_with fail
 exact bodyPost_ret (v:=.agg (h.cells qa qc ja k.len jc)) (by simp[results,Tryd.results61,go_sem,q0,q1,q2,q3,q4,q5,q6,q7,q8,q9,q10,Hd.cells]) rfl ⟨qa,qc,ja,jc,rfl,hd8,gb8⟩
theorem copied_all: ∀(f:Fo),f.ok->∀(i:Nat) (a:Hd) (b:Fo),f.get i=some (a,b)->CopyC a b
 | .nil,_,i,a,b,e=>by simp[Fo.get] at e
 | .cons h k r,o,0,a,b,e=>by
  simp only[Fo.get,Option.some.injEq,Prod.mk.injEq] at e
  obtain⟨rfl,rfl⟩:=e
  exact copied_one _ _ o.1 o.2.2.2 (fun i c d e=>copied_all k o.2.1 i c d e)
 | .cons h k r,o,i+1,a,b,e=>copied_all r o.2.2.1 i a b e
theorem copied_any(h:Hd)(k:Fo)(ho:h.ok)(hk:k.ok)(hl:k.len<=1034834473170):CopyC h k:=copied_one h k ho hl (fun i a b e=>copied_all k hk i a b e)
end Go.Proofs.YtlhfickniegooaaDoor

namespace Go.Proofs.YtlhfickniegooaaDoor
open Go.RowKit Go.Sort
def Cel(w:World)(g:Nat):Prop:= ∃t cs,Blk w g t cs
theorem Cel.lt{w:World}{g:Nat}(h:Cel w g):g<w.heap.size:=by obtain⟨t,cs,h⟩:=h;exact h.lt
theorem Cel.keep{w w':World}{g:Nat}(h:Cel w g)(hk:w'.heap[g]? =w.heap[g]?):Cel w' g:=by obtain⟨t,cs,h⟩:=h;exact⟨t,cs,hk.trans h⟩
def SepF(w:World):Nat->Nat->Nat->Nat->Fo->Prop
  | _,_,_,_,.nil=>True
  | lo, hi, b, o, .cons h k r => ∃ m pa pc ia ic, m ≤ hi ∧ CellsAt w b o (h.cells pa pc ia k.len ic) ∧
      (∃q1 q2,lo<=q1/\q1<=q2/\q2<=m/\PathAt w (fun x=>lo<=x/\x<m/\(x<q1\/q2<=x)/\Cel w x) pa h.path/\
        (k.len=0\/∃b' o',ia=some ⟨b',o',none⟩/\q1<=b'/\b'<q2/\Cel w b'/\SepF w (b'+1) q2 b' o' k))/\SepF w m hi b (o+11) r
def SepD(w:World)(lo hi:Nat)(h:Hd)(k:Fo)(pa ia:Option Addr):Prop:=
  ∃ q1 q2, lo ≤ q1 ∧ q1 ≤ q2 ∧ q2 ≤ hi ∧ PathAt w (fun x => lo ≤ x ∧ x < hi ∧ (x < q1 ∨ q2 ≤ x) ∧ Cel w x) pa h.path ∧
    (k.len=0\/∃b o,ia=some ⟨b,o,none⟩/\q1<=b/\b<q2/\Cel w b/\SepF w (b+1) q2 b o k)
theorem SepF_cons{w:World}{lo hi b o:Nat}{h:Hd}{k r:Fo}:SepF w lo hi b o (.cons h k r)↔∃m pa pc ia ic,m<=hi/\CellsAt w b o (h.cells pa pc ia k.len ic)/\SepD w lo m h k pa ia/\SepF w m hi b (o+11) r:=Iff.rfl
theorem SepD.le{w:World}{lo hi:Nat}{h:Hd}{k:Fo}{pa ia:Option Addr}(d:SepD w lo hi h k pa ia):lo<=hi:=by
 obtain⟨q1,q2,h1,h2,h3,_⟩:=d
 omega
theorem SepF.keep{w w':World}: ∀(f:Fo) (lo hi b o:Nat),SepF w lo hi b o f->(∀x,lo<=x->x<hi->x<w.heap.size->w'.heap[x]? =w.heap[x]?)->
  (∀n v,o<=n->w.cell? ⟨b,n,none⟩=some v->w'.cell? ⟨b,n,none⟩=some v)->SepF w' lo hi b o f
 | .nil,_,_,_,_,_,_,_=>trivial
 | .cons h k r,lo,hi,b,o,⟨m,pa,pc,ia,ic,hm,hc,⟨q1,q2,h1,h2,h3,h4,h5⟩,h6⟩,hk,hb=>by
  refine⟨m,pa,pc,ia,ic,hm,fun j v hv=>hb _ _ (by omega) (hc j v hv),⟨q1,q2,h1,h2,h3,h4.keep (fun x hx hlt=>hk x hx.1 (by omega) hlt) (fun x hx hlt=>⟨hx.1,hx.2.1,hx.2.2.1,hx.2.2.2.keep (hk x hx.1 (by omega) hlt)⟩), ?_⟩,
   SepF.keep r m hi b (o+11) h6 (fun x hx hy=>hk x (by omega) hy) (fun n v hn=>hb n v (by omega))⟩
  rcases h5 with h5 | ⟨b',o',e,g1,g2,g3,g4⟩
  ·exact .inl h5
  ·have hkb:=hk b' (by omega) (by omega) g3.lt
   exact .inr ⟨b',o',e,g1,g2,g3.keep hkb,SepF.keep k (b'+1) q2 b' o' g4 (fun x hx hy=>hk x (by omega) (by omega)) (fun n v _ hn=>(World.cell?_of_block (w:=w) hkb).trans hn)⟩
theorem SepD.keep{w w':World}{lo hi:Nat}{h:Hd}{k:Fo}{pa ia:Option Addr}(d:SepD w lo hi h k pa ia)(hk: ∀x,lo<=x->x<hi->x<w.heap.size->w'.heap[x]? =w.heap[x]?):SepD w' lo hi h k pa ia:=by
 obtain⟨q1,q2,h1,h2,h3,h4,h5⟩:=d
 refine⟨q1,q2,h1,h2,h3,h4.keep (fun x hx hlt=>hk x hx.1 hx.2.1 hlt) (fun x hx hlt=>⟨hx.1,hx.2.1,hx.2.2.1,hx.2.2.2.keep (hk x hx.1 hx.2.1 hlt)⟩), ?_⟩
 rcases h5 with h5 | ⟨b',o',e,g1,g2,g3,g4⟩
 ·exact .inl h5
 ·have hkb:=hk b' (by omega) (by omega) g3.lt
  exact .inr ⟨b',o',e,g1,g2,g3.keep hkb,SepF.keep k (b'+1) q2 b' o' g4 (fun x hx hy=>hk x (by omega) (by omega)) (fun n v _ hn=>(World.cell?_of_block (w:=w) hkb).trans hn)⟩
structure Spo (lo hi:Nat) (w w':World):Prop where
 os:w'.os=w.os
 tape:w'.tape=w.tape
 output:w'.output=w.output
 size:w.heap.size<=w'.heap.size
 block: ∀x,x<w.heap.size->x<lo\/hi<=x->w'.heap[x]? =w.heap[x]?
theorem Spo.of_below{lo hi:Nat}{w w':World}(h:Below w.heap.size w w'):Spo lo hi w w':=⟨h.os,h.tape,h.output,h.size,fun x hx _=>h.block x hx⟩
theorem Spo.trans{lo hi:Nat}{w w1 w2:World}(h:Spo lo hi w w1)(g:Spo lo hi w1 w2):Spo lo hi w w2:=
 ⟨g.os.trans h.os,g.tape.trans h.tape,g.output.trans h.output,Nat.le_trans h.size g.size,fun x hx hy=>(g.block x (Nat.lt_of_lt_of_le hx h.size) hy).trans (h.block x hx hy)⟩
theorem Spo.mono{lo hi lo' hi':Nat}{w w':World}(h:Spo lo hi w w')(h1:lo'<=lo)(h2:hi<=hi'):Spo lo' hi' w w':=⟨h.os,h.tape,h.output,h.size,fun x hx hy=>h.block x hx (by omega)⟩
theorem Spo.setCell{lo hi b o:Nat}(w:World)(v:Value)(h1:lo<=b)(h2:b<hi):Spo lo hi w (w.setCell ⟨b,o,none⟩ v):=
 ⟨rfl,rfl,rfl,by simp[World.setCell],fun x _ hy=>Below.heap_setCell _ _ _ _ (by show x≠b;omega)⟩
theorem setCells_same(b:Nat): ∀(vs:List Value) (o:Nat) (w:World),(w.setCells b o vs).os=w.os/\(w.setCells b o vs).tape=w.tape/\(w.setCells b o vs).output=w.output
 | [],_,_=>⟨rfl,rfl,rfl⟩
 | _::r,o,_=>setCells_same b r (o+1) _
theorem Spo.setCells{lo hi b o:Nat}(w:World)(vs:List Value)(h1:lo<=b)(h2:b<hi):Spo lo hi w (w.setCells b o vs):=by
 obtain⟨e1,e2,e3⟩:=setCells_same b vs o w
 exact⟨e1,e2,e3,Nat.le_of_eq (setCells_size b vs o w).symm,fun x _ hy=>setCells_heap b vs o w x (by omega)⟩
theorem Spo.blk{lo hi:Nat}{w w':World}{g:Nat}{t:TypeId}{cs:Array Value}(h:Spo lo hi w w')(hb:Blk w g t cs)(hg:g<lo\/hi<=g):Blk w' g t cs:=(h.block g hb.lt hg).trans hb
end Go.Proofs.YtlhfickniegooaaDoor

namespace Go.Proofs.YtlhfickniegooaaDoor
open Go.RowKit Go.Sort
theorem own_pathB{w:World}{B n:Nat}{v:Value}{l:List Int}(h:w.ownsRow B 3 1 v n (l.map (Value.int .i64))): ∃pa pc,v=.slice pa l.length pc/\PathAt w (fun b=>B<=b/\Cel w b) pa l/\l.length<=pc/\capOk pa pc:=by
 have hn:n=l.length:=by have:=h.1;simpa using this.symm
 subst hn
 rcases h.2 with⟨rfl,h0⟩ | ⟨g,cap,cur,rfl,hg,hh,hc,hm,hs,ht⟩
 ·exact⟨none,0,by rw[h0],.inl (List.eq_nil_of_length_eq_zero h0),by omega,capOk.nil⟩
 ·refine⟨_,cap,rfl,.inr ⟨g,0,rfl,⟨hg,_,_,hh⟩,fun j x hx=> ?_⟩,hc,capOk.some (by unfold maxLen at hm;exact hm)⟩
  rw[cell_of_row w g _ cur _ _ hh,Nat.zero_add]
  have h1:(cur.toList.take (l.length*1))[j]? =some (.int .i64 x):=by rw[ht];simp[hx]
  rw[List.getElem?_take] at h1
  split at h1
  ·simpa using h1
  ·cases h1
theorem PathAt.wider{w:World}{S S':Nat->Prop}{pa:Option Addr}{l:List Int}(h:PathAt w S pa l)(hS: ∀b,S b->S' b):PathAt w S' pa l:=h.keep (fun _ _ _=>rfl) (fun b hb _=>hS b hb)
theorem SepD.mono{w:World}{lo hi lo' hi':Nat}{h:Hd}{k:Fo}{pa ia:Option Addr}(d:SepD w lo hi h k pa ia)(h1:lo'<=lo)(h2:hi<=hi'):SepD w lo' hi' h k pa ia:=by
 obtain⟨q1,q2,g1,g2,g3,g4,g5⟩:=d
 exact⟨q1,q2,by omega,g2,by omega,g4.wider (fun b hb=>⟨by omega,by omega,hb.2.2.1,hb.2.2.2⟩),g5⟩
theorem SepF.of_get{w:World}: ∀(f:Fo) (b o hi:Nat) (ms:Nat->Nat),(∀i a d,f.get i=some (a,d)->ms (i+1)<=hi/\∃pa pc ia ic,CellsAt w b (o+i*11) (a.cells pa pc ia d.len ic)/\SepD w (ms i) (ms (i+1)) a d pa ia)->SepF w (ms 0) hi b o f
 | .nil,_,_,_,_,_=>trivial
 | .cons h k r,b,o,hi,ms,hg=>by
  obtain⟨h0,pa,pc,ia,ic,h1,h2⟩:=hg 0 h k rfl
  rw[SepF_cons]
  refine⟨ms 1,pa,pc,ia,ic,h0,by simpa using h1,h2,SepF.of_get r b (o+11) hi (fun i=>ms (i+1)) fun i a d e=> ?_⟩
  have:=hg (i+1) a d e
  rwa [show o+(i+1)*11=o+11+i*11 by omega] at this
def HalfS(w:World)(k:Fo)(g j:Nat):Prop:= ∃ms:Nat->Nat,ms 0=g+1/\(∀i,i<=j->g<ms i/\ms i<=w.heap.size)/\
 ∀i a b,i<j->k.get i=some (a,b)->∃pa pc ia ic,CellsAt w g (i*11) (a.cells pa pc ia b.len ic)/\SepD w (ms i) (ms (i+1)) a b pa ia
theorem HalfS.step{wr w6:World}{k:Fo}{g j:Nat}{a:Hd}{b:Fo}{cu:Array Value}{t:TypeId}{qa:Option Addr}{qc:Nat}{ja:Option Addr}{jc:Nat}(gH:HalfS wr k g j)(hlt:g<wr.heap.size)
  (hb6:Below wr.heap.size wr w6) (hget:k.get j=some (a,b)) (hB:Blk w6 g t cu) (hsz:j*11+11<=cu.size) (hs:SepD w6 wr.heap.size w6.heap.size a b qa ja):
  HalfS (w6.setCells g (j*11) (a.cells qa qc ja b.len jc).toList) k g (j+1):=by
 obtain⟨ms,m0,m1,m2⟩:=gH
 have hz:=hb6.size
 have hlen:(a.cells qa qc ja b.len jc).toList.length=11:=by simp[Hd.cells]
 refine⟨fun i=>if i<=j then ms i else w6.heap.size,by simpa using m0,fun i hi=> ?_,fun i c d hi e=> ?_⟩
 ·rw[setCells_size]
  show g<(if i<=j then ms i else w6.heap.size)/\(if i<=j then ms i else w6.heap.size)<=w6.heap.size
  by_cases hij:i<=j
  ·rw[if_pos hij];have:=m1 i hij;omega
  ·rw[if_neg hij];omega
 ·show ∃pa pc ia ic,_/\SepD _ (if i<=j then ms i else w6.heap.size) (if i+1<=j then ms (i+1) else w6.heap.size) c d pa ia
  by_cases hij:i=j
  ·subst hij
   rw[hget] at e
   injection e with e
   injection e with e1 e2
   subst e1 e2
   have hj:=m1 i (Nat.le_refl _)
   refine⟨qa,qc,ja,jc,fun n v hv=>World.rangeAt_setCells_same w6 g (i*11) _ (there_blk hB (by rw[hlen];exact hsz)) n v (by simpa using hv), ?_⟩
   rw[if_pos (Nat.le_refl _),if_neg (by omega)]
   exact(hs.mono hj.2 (Nat.le_refl _)).keep (fun x h1 _ _=>setCells_heap g _ _ _ x (by omega))
  ·obtain⟨pa,pc,ia,ic,h1,h2⟩:=m2 i c d (by omega) e
   have hi1:=m1 i (by omega)
   refine⟨pa,pc,ia,ic,fun n v hv=> ?_, ?_⟩
   ·have hn:n<11:=by
     have:n<(c.cells pa pc ia d.len ic).size:=by
      rcases Nat.lt_or_ge n (c.cells pa pc ia d.len ic).size with h | h
      ·exact h
      ·rw[Array.getElem?_eq_none h] at hv;cases hv
     simpa[Hd.cells] using this
    rw[World.cell?_setCells_out g _ (j*11) w6 ⟨g,i*11+n,none⟩ (fun _ _=>by rw[hlen];show i*11+n<j*11\/j*11+11<=i*11+n;omega)]
    exact(hb6.cell (p:=⟨g,i*11+n,none⟩) hlt).trans (h1 n v hv)
   ·rw[if_pos (by omega),if_pos (by omega)]
    exact h2.keep (fun x h1 _ h3=>(setCells_heap g _ _ _ x (by omega)).trans (hb6.block x h3))
end Go.Proofs.YtlhfickniegooaaDoor

namespace Go.Proofs.YtlhfickniegooaaDoor
open Go.RowKit Go.Sort
set_option maxRecDepth 100000
def PRow(w:World)(S:Nat->Prop)(pa:Option Addr)(n pc:Nat):Prop:=(pa=none/\pc=0/\n=0)\/(0<n/\n<=pc/\pc<=maxLen/\∃g cs,pa=some ⟨g,0,none⟩/\S g/\Blk w g 3 cs/\cs.size=pc)
def IRow(w:World)(S:Nat->Prop)(ia:Option Addr)(n ic:Nat):Prop:=ic=n/\(n=0\/(n<=maxLen/\∃g cs,ia=some ⟨g,0,none⟩/\S g/\Blk w g 31 cs/\cs.size=n*11))
def RowsF(w:World)(S:Nat->Prop):Nat->Nat->Fo->Prop
 | _,_,.nil=>True
 | b,o,.cons h k r=>(∃pa pc ia ic,CellsAt w b o (h.cells pa pc ia k.len ic)/\PRow w S pa h.path.length pc/\IRow w S ia k.len ic/\(k.len=0\/∃b',ia=some ⟨b',0,none⟩/\S b'/\RowsF w S b' 0 k))/\RowsF w S b (o+11) r
def RowsD(w:World)(S:Nat->Prop)(h:Hd)(k:Fo)(m:Dm):Prop:=PRow w S m.pa h.path.length m.pc/\IRow w S m.ia k.len m.ic/\(k.len=0\/∃b',m.ia=some ⟨b',0,none⟩/\S b'/\RowsF w S b' 0 k)
theorem PRow.keep{w w':World}{S T:Nat->Prop}{pa:Option Addr}{n pc:Nat}(h:PRow w S pa n pc)(hk: ∀b,S b->b<w.heap.size->w'.heap[b]? =w.heap[b]?)(hT: ∀b,S b->b<w.heap.size->T b):PRow w' T pa n pc:=by
 rcases h with h | ⟨h1,h2,h3,g,cs,h4,h5,h6,h7⟩
 ·exact .inl h
 ·exact .inr ⟨h1,h2,h3,g,cs,h4,hT g h5 h6.lt,(hk g h5 h6.lt).trans h6,h7⟩
theorem IRow.keep{w w':World}{S T:Nat->Prop}{ia:Option Addr}{n ic:Nat}(h:IRow w S ia n ic)(hk: ∀b,S b->b<w.heap.size->w'.heap[b]? =w.heap[b]?)(hT: ∀b,S b->b<w.heap.size->T b):IRow w' T ia n ic:=by
 rcases h with⟨h0,h | ⟨h3,g,cs,h4,h5,h6,h7⟩⟩
 ·exact⟨h0,.inl h⟩
 ·exact⟨h0,.inr ⟨h3,g,cs,h4,hT g h5 h6.lt,(hk g h5 h6.lt).trans h6,h7⟩⟩
theorem RowsF.keep{w w':World}{S T:Nat->Prop}(hk: ∀b,S b->b<w.heap.size->w'.heap[b]? =w.heap[b]?)(hT: ∀b,S b->b<w.heap.size->T b): ∀(f:Fo) (b o:Nat),(∀n v,o<=n->w.cell? ⟨b,n,none⟩=some v->w'.cell? ⟨b,n,none⟩=some v)->RowsF w S b o f->RowsF w' T b o f
 | .nil,_,_,_,_=>trivial
 | .cons h k r,b,o,hb,⟨⟨pa,pc,ia,ic,h1,h2,h3,h4⟩,h5⟩=>by
  refine⟨⟨pa,pc,ia,ic,fun j v hv=>hb _ _ (by omega) (h1 j v hv),h2.keep hk hT,h3.keep hk hT, ?_⟩,RowsF.keep hk hT r b (o+11) (fun n v hn=>hb n v (by omega)) h5⟩
  rcases h4 with h4 | ⟨b',e,hs,h4⟩
  ·exact .inl h4
  ·rcases k with _ | ⟨h',k',r'⟩
   ·exact .inl rfl
   ·have hlt:b'<w.heap.size:=by
     obtain⟨⟨_,_,_,_,q,_⟩,_⟩:=id h4
     exact cell_lt (q 0 _ rfl)
    exact .inr ⟨b',e,hT b' hs hlt,RowsF.keep hk hT _ b' 0 (fun n v _ hn=>(World.cell?_of_block (w:=w) (hk b' hs hlt)).trans hn) h4⟩
theorem RowsD.keep{w w':World}{S T:Nat->Prop}{h:Hd}{k:Fo}{m:Dm}(d:RowsD w S h k m)(hk: ∀b,S b->b<w.heap.size->w'.heap[b]? =w.heap[b]?)(hT: ∀b,S b->b<w.heap.size->T b):RowsD w' T h k m:=by
 refine⟨d.1.keep hk hT,d.2.1.keep hk hT, ?_⟩
 rcases d.2.2 with h4 | ⟨b',e,hs,h4⟩
 ·exact .inl h4
 ·rcases k with _ | ⟨h',k',r'⟩
  ·exact .inl rfl
  ·have hlt:b'<w.heap.size:=by
    obtain⟨⟨_,_,_,_,q,_⟩,_⟩:=id h4
    exact cell_lt (q 0 _ rfl)
   exact .inr ⟨b',e,hT b' hs hlt,RowsF.keep hk hT _ b' 0 (fun n v _ hn=>(World.cell?_of_block (w:=w) (hk b' hs hlt)).trans hn) h4⟩
theorem RowsF.of_get{w:World}{S:Nat->Prop}: ∀(f:Fo) (b o:Nat),(∀i a d,f.get i=some (a,d)->∃x:Dm,CellsAt w b (o+i*11) (a.cells x.pa x.pc x.ia d.len x.ic)/\RowsD w S a d x)->RowsF w S b o f
 | .nil,_,_,_=>trivial
 | .cons h k r,b,o,hg=>by
  obtain⟨x,h1,h2,h3,h4⟩:=hg 0 h k rfl
  refine⟨⟨x.pa,x.pc,x.ia,x.ic,by simpa using h1,h2,h3,h4⟩,RowsF.of_get r b (o+11) fun i a d e=> ?_⟩
  have:=hg (i+1) a d e
  rwa [show o+(i+1)*11=o+11+i*11 by omega] at this
structure Dt.sep (d:Dt) (w:World) (lo hi:Nat) (m:Dm):Prop where
 dat:d.at w (fun b=>lo<=b/\b<hi) m
 sp:SepD w lo hi d.h d.k m.pa m.ia
 rows:RowsD w (fun b=>lo<=b/\b<hi) d.h d.k m
theorem Dt.sep.keep{d:Dt}{w w':World}{lo hi:Nat}{m:Dm}(h:d.sep w lo hi m)(hk: ∀x,lo<=x->x<hi->x<w.heap.size->w'.heap[x]? =w.heap[x]?):d.sep w' lo hi m:=
 ⟨h.dat.keep (fun b hb hl=>hk b hb.1 hb.2 hl) (fun _ h _=>h),h.sp.keep hk,h.rows.keep (fun b hb hl=>hk b hb.1 hb.2 hl) (fun _ h _=>h)⟩
theorem Dt.sep.old{d:Dt}{w w':World}{lo hi:Nat}{m:Dm}(h:d.sep w lo hi m)(hb:Below w.heap.size w w'):d.sep w' lo hi m:=h.keep fun x _ _ hl=>hb.block x hl
theorem Dt.sep.mono{d:Dt}{w:World}{lo hi lo' hi':Nat}{m:Dm}(h:d.sep w lo hi m)(h1:lo'<=lo)(h2:hi<=hi'):d.sep w lo' hi' m:=
 ⟨h.dat.keep (fun _ _ _=>rfl) (fun b hb _=>⟨Nat.le_trans h1 hb.1,Nat.lt_of_lt_of_le hb.2 h2⟩),h.sp.mono h1 h2,h.rows.keep (fun _ _ _=>rfl) (fun b hb _=>⟨Nat.le_trans h1 hb.1,Nat.lt_of_lt_of_le hb.2 h2⟩)⟩
def KidS(w:World)(lo hi:Nat)(ia:Option Addr)(k:Fo):Prop:=k.len=0\/∃b o,ia=some ⟨b,o,none⟩/\lo<=b/\b<hi/\Cel w b/\SepF w (b+1) hi b o k
theorem KidS.keep{w w':World}{lo hi:Nat}{ia:Option Addr}{k:Fo}(h:KidS w lo hi ia k)(hk: ∀x,lo<=x->x<hi->x<w.heap.size->w'.heap[x]? =w.heap[x]?):KidS w' lo hi ia k:=by
 rcases h with h | ⟨b,o,e,g1,g2,g3,g4⟩
 ·exact .inl h
 ·have hkb:=hk b g1 g2 g3.lt
  exact .inr ⟨b,o,e,g1,g2,g3.keep hkb,SepF.keep k (b+1) hi b o g4 (fun x hx hy=>hk x (by omega) hy) (fun n v _ hn=>(World.cell?_of_block (w:=w) hkb).trans hn)⟩
def KidR(w:World)(S:Nat->Prop)(ia:Option Addr)(k:Fo)(ic:Nat):Prop:=IRow w S ia k.len ic/\(k.len=0\/∃b',ia=some ⟨b',0,none⟩/\S b'/\RowsF w S b' 0 k)
theorem KidR.keep{w w':World}{S T:Nat->Prop}{ia:Option Addr}{k:Fo}{ic:Nat}(d:KidR w S ia k ic)(hk: ∀b,S b->b<w.heap.size->w'.heap[b]? =w.heap[b]?)(hT: ∀b,S b->b<w.heap.size->T b):KidR w' T ia k ic:=
 (show RowsD w' T ⟨0,⟨#[]⟩,0,0,⟨#[]⟩,0,0,0,0,[]⟩ k ⟨none,0,ia,ic⟩ from RowsD.keep (m:=⟨none,0,ia,ic⟩) ⟨.inl ⟨rfl,rfl,rfl⟩,d⟩ hk hT).2
theorem sep_mk{h:Hd}{k:Fo}{w:World}{lo mid:Nat}{m:Dm}(hd:Dt.at ⟨h,k⟩ w (fun b=>lo<=b) m)(hk:KidS w lo mid m.ia k)(hp:PathAt w (fun b=>mid<=b/\Cel w b) m.pa h.path)(hr:RowsD w (fun b=>lo<=b) h k m)(h1:lo<=mid)(h2:mid<=w.heap.size):Dt.sep ⟨h,k⟩ w lo w.heap.size m:=by
 refine⟨hd.keep (fun _ _ _=>rfl) (fun b hb hl=>⟨hb,hl⟩),⟨lo,mid,Nat.le_refl _,h1,h2,hp.wider (fun b hb=>⟨Nat.le_trans h1 hb.1,hb.2.lt,.inr hb.1,hb.2⟩), ?_⟩,hr.keep (fun _ _ _=>rfl) (fun b hb hl=>⟨hb,hl⟩)⟩
 rcases hk with hk | ⟨b,o,e,g1,g2,g3,g4⟩
 ·exact .inl hk
 ·exact .inr ⟨b,o,e,g1,g2,g3,g4⟩
end Go.Proofs.YtlhfickniegooaaDoor
