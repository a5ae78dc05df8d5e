/-
   Written by an AI agent.
-/
import Derived.Test.YtbjegfpfmnleeaaGreatDoorPk06
import Derived.Deep.RegionWith
import Derived.Laws.StructEq
import Derived.Maps.AppendAt
import Derived.OwnWalk
import Derived.Lib.LazyBuf
import Derived.StillTailTactics
namespace Go.Proofs.YtbjegfpfmnleeaaGreatDoor
open Go.RowKit Go.Sort
set_option maxHeartbeats 400000 in
theorem Gd(h:Hd)(k:Nat)(pa:Option Addr)(pc:Nat)(ia:Option Addr)(ic:Nat)(w:World):
  Calls Tryz.prog 131 #[.agg (h.cells pa pc ia k ic)] w fun e w'=>e=.returned (.agg #[.int .i64 h.kind,.string h.type])/\Below w.heap.size w w':=by
 unfold Hd.cells
 go_enter Tryz.func131,Tryz.ntmps131
 go_wp2_with fail
 exact bodyPost_ret (v:=.agg #[.int .i64 h.kind,.string h.type]) (by simp[results,Tryz.results131,go_sem]) rfl ⟨rfl,bz⟩
set_option maxHeartbeats 800000 in
theorem Sj(l m:List Int)(pa qa:Option Addr)(pc qc:Nat)(w:World)(S T:Nat->Prop)(hl:l.length<=9223372036854775807)(_hm:m.length<=9223372036854775807)(hp:PathAt w S pa l)(hq:PathAt w T qa m):
  Calls Tryz.prog 132 #[.slice pa l.length pc,.slice qa m.length qc] w fun e w'=>e=.returned (.bool (decide (l=m)))/\Below w.heap.size w w':=by
 by_cases hlm:l.length=m.length
 ·have hne:((l.length:Int) != (m.length:Int))=false:=by simp[hlm]
  have HLM:=Lib.hid hlm
  clear hlm
  go_enter Tryz.func132,Tryz.ntmps132
  go_wp2_with fail
  go_loopg [13] l.length (fun g i wr=> ∃(k n:Nat),k<=l.length/\i=.int .i64 k/\g=l.length-k/\wr=w.drewN n/\∀j,j<k->l[j]? =m[j]?)
  case atStart=>exact⟨0,0,Zo,rfl,Zo,rfl,Zo⟩
  case round=>
   obtain⟨k,n,hk,rfl,rfl,rfl,hn⟩:=hrel
   have HN:=Lib.hid hn
   clear hn
   by_cases hlt:k<l.length
   ·obtain⟨x,hx⟩: ∃x,l[k]? =some x:=⟨_,List.getElem?_eq_getElem hlt⟩
    have hlt2:k<m.length:=by rw[<-HLM.out];exact hlt
    obtain⟨y,hy⟩: ∃y,m[k]? =some y:=⟨_,List.getElem?_eq_getElem hlt2⟩
    obtain⟨b,o,rfl,_,hc⟩:=hp.get hx
    obtain⟨b2,o2,rfl,_,hc2⟩:=hq.get hy
    have HX:=Lib.hid hx
    have HY:=Lib.hid hy
    clear hx hy
    have hk0:(0:Int)<=(k:Int):=by omega
    have hk1:(k:Int)<(l.length:Int):=by omega
    have hk2:(k:Int)<(m.length:Int):=by omega
    go_wp2_with fail
    go_quiet (fail)
    go_wp2_with fail
    ·go_ret
     have hxy:x≠y:=by simpa using ‹(x != y)=true›
     refine⟨K0 (decide_eq_false fun e=>hxy ?_).symm,bz⟩
     have h1:=HX.out
     rw[e,HY.out] at h1
     injection h1 with h1
     exact h1.symm
    ·go_roundg (l.length-(k+1))
     case measure=>omega
     case rel=>
      have hxy:x=y:=by simpa using ‹(x != y)=false›
      refine⟨k+1,_,Zo,by go_num,rfl,rfl,fun j hj=> ?_⟩
      by_cases hjk:j=k
      ·subst hjk;rw[HX.out,HY.out,hxy]
      ·exact HN.out j Zo
   ·have hkl:k=l.length:=by omega
    subst hkl
    go_wp2_with fail
    go_ret
    refine⟨K0 (decide_eq_true ?_).symm,B3 (Below.refl _ _) _⟩
    exact List.ext_getElem? fun j=>by
     rcases Nat.lt_or_ge j l.length with hj | hj
     ·exact HN.out j hj
     ·rw[List.getElem?_eq_none hj,List.getElem?_eq_none (by rw[<-HLM.out];exact hj)]
 ·have hne:((l.length:Int) != (m.length:Int))=true:=by rw[bne_iff_ne];omega
  have HLM:=Lib.hid hlm
  clear hlm
  go_enter Tryz.func132,Tryz.ntmps132
  go_wp2_with fail
  go_ret
  exact⟨K0 (decide_eq_false fun e=>HLM.out (by rw[e])).symm,Below.refl _ _⟩
def emp:ByteArray:=⟨#[]⟩
def U9(h h':Hd):Bool:=decide (h.kind=h'.kind/\h.type=h'.type)
def J1(h h':Hd):Bool×ByteArray:=
 if h.kind=3 then(Ih h.f.toNat h'.f.toNat,emp)
 else if h.kind=5\/h.kind=6\/h.kind=7 then(false,h.type)
 else if h.kind=9 then(decide (h.obj=h'.obj/\h.path=h'.path),emp)
 else(decide (h.n=h'.n/\h.s=h'.s),emp)
def I1:Fo->Fo->Bool×ByteArray
 | .cons h k r,.cons h' k' r'=>
  if(if U9 h h'=false then(false,emp) else if h.kind=8 then(if k.len≠k'.len then(false,emp) else I1 k k') else J1 h h').1=true then I1 r r'
  else(false,(if U9 h h'=false then(false,emp) else if h.kind=8 then(if k.len≠k'.len then(false,emp) else I1 k k') else J1 h h').2)
 | _,_=>(true,emp)
def D8(h:Hd)(k:Fo)(h':Hd)(k':Fo):Bool×ByteArray:=if U9 h h'=false then(false,emp) else if h.kind=8 then(if k.len≠k'.len then(false,emp) else I1 k k') else J1 h h'
theorem K3(h:Hd)(k r:Fo)(h':Hd)(k' r':Fo):I1 (.cons h k r) (.cons h' k' r')=if(D8 h k h' k').1=true then I1 r r' else(false,(D8 h k h' k').2):=by
 rw[I1];rfl
def Pw(h:Hd)(k:Fo)(h':Hd)(k':Fo):Prop:= ∀(w:World) (S T:Nat->Prop) (pa:Option Addr) (pc:Nat) (ia:Option Addr) (ic:Nat) (pa':Option Addr) (pc':Nat) (ia':Option Addr) (ic':Nat),
 DatAt w S h k pa pc ia ic->DatAt w T h' k' pa' pc' ia' ic'->
 Calls Tryz.prog 119 #[.agg (h.cells pa pc ia k.len ic),.agg (h'.cells pa' pc' ia' k'.len ic')] w fun e w'=>e=.returned (.tuple #[.bool (D8 h k h' k').1,.string (D8 h k h' k').2])/\Below w.heap.size w w'
theorem Cc9(h h':Hd)(w:World):(binOp .neq 219 (.agg #[.int .i64 h.kind,.string h.type]) (.agg #[.int .i64 h'.kind,.string h'.type])).run Tryz.prog w=.ok (.bool (!U9 h h')) w:=by
 have e:U9 h h'=decide (h.kind=h'.kind/\h.type.toList=h'.type.toList):=by
  unfold U9
  rw[decide_eq_decide]
  exact⟨fun⟨a,b⟩=>⟨a,by rw[b]⟩,fun⟨a,b⟩=>⟨a,Ab9 (by simpa using b)⟩⟩
 rw[e]
 simp[go_sem,Tryz.underlying219]
 by_cases h1:h.kind=h'.kind<;>by_cases h2:h.type.toList=h'.type.toList<;>simp[h1,h2]
set_option maxRecDepth 100000 in
set_option maxHeartbeats 4000000 in
theorem Lm(h:Hd)(k:Fo)(h':Hd)(k':Fo)(ho:h.ok)(_hk:k.ok)(ho':h'.ok)(_hk':k'.ok)(ih: ∀i a b a' b',k.get i=some (a,b)->k'.get i=some (a',b')->Pw a b a' b'):Pw h k h' k':=by
 intro w S T pa pc ia ic pa' pc' ia' ic' hd hd'
 unfold Hd.cells
 go_enter Tryz.func119,Tryz.ntmps119
 go_upto_region 0 with fail
 go_cut [0,1,2,3] (fun _ _ t2 t3 wx=>t2=.pointer (some ⟨w.heap.size,0,none⟩)/\t3=.pointer (some ⟨w.heap.size+1,0,none⟩)/\Blk wx w.heap.size 53 (h.cells pa pc ia k.len ic)/\Blk wx (w.heap.size+1) 53 (h'.cells pa' pc' ia' k'.len ic')/\Below w.heap.size w wx)
 case first=>
  go_wp2_with fail
  go_meet
  case rel=>exact⟨rfl,rfl,(Blk.new _ _ _).alloc _,Blk.new1 _ _ _ _,bz⟩
 case rest=>
  obtain⟨rfl,rfl,hA,hB,hbw⟩:=hcut
  obtain⟨k0,k1,k2,k3,k4,k5,k6,k7,k8,k9,k10⟩:=(CellsAt.of_blk hA).boxrg
  obtain⟨l0,l1,l2,l3,l4,l5,l6,l7,l8,l9,l10⟩:=(CellsAt.of_blk hB).boxrg
  obtain⟨w0,rfl⟩: ∃w0:World,w0=wc:=⟨_,rfl⟩
  have hnk:=Cc9 h h'
  go_upto_region 1 with fail
  go_cut [13] (fun t wx=>t=.bool (!U9 h h')/\Below w0.heap.size w0 wx)
  case first=>
   as_aux_lemma=>
    refine J0 Zk Zk ?_
    repeat (quiet_step ((first | (go_at_call_of 131 (Value.string h.type);exact Calls.regrown_of (Gd h k.len pa pc ia ic _)) | (go_at_call_of 131 (Value.string h'.type);exact Calls.regrown_of (Gd h' k'.len pa' pc' ia' ic' _)))))
    refine wpQuiet_nil ?_
    intro w1 hb1
    go_wp2_with fail
    go_meet
    case rel=>exact⟨rfl,hb1⟩
  case rest=>
  obtain⟨rfl,hb1⟩:=hcut
  obtain⟨w1,rfl⟩: ∃w1:World,w1=wc:=⟨_,rfl⟩
  have hbw1:=hbw.trans (hb1.mono hbw.size)
  by_cases hone:U9 h h'=false
  ·have HD:Hid (D8 h k h' k'=(false,emp)):=by unfold Hid D8;rw[if_pos hone]
   rw[show(!U9 h h')=true by rw[hone];rfl]
   clear hone hnk
   go_wp2_with fail
   go_ret2
   rw[HD.out]
   exact⟨rfl,hbw1⟩
  have hone':U9 h h'=true:=by simpa using hone
  have HD:Hid (D8 h k h' k'=if h.kind=8 then(if k.len≠k'.len then(false,emp) else I1 k k') else J1 h h'):=by unfold Hid D8;rw[if_neg hone]
  rw[show(!U9 h h')=false by rw[hone'];rfl]
  have hlA:=hA.lt
  have hlB:=hB.lt
  have hA1:=hA.below hb1 hlA
  have hB1:=hB.below hb1 hlB
  have hd1:=hd.below (hbw.trans (hb1.mono hbw.size)) (fun b _ h=>h)
  have hd1':=hd'.below (hbw.trans (hb1.mono hbw.size)) (fun b _ h=>h)
  clear k0 k1 k2 k3 k4 k5 k6 k7 k8 k9 k10 l0 l1 l2 l3 l4 l5 l6 l7 l8 l9 l10 hone hone' hnk hA hB hb1 hbw hd hd' hlA hlB
  obtain⟨c0,c1,c2,c3,c4,c5,c6,c7,c8,c9,c10⟩:=(CellsAt.of_blk hA1).box
  obtain⟨d0,d1,d2,d3,d4,d5,d6,d7,d8,d9,d10⟩:=(CellsAt.of_blk hB1).box
  have hpl:h.path.length<=9223372036854775807:=Nat.le_trans ho.path Zd
  have hpl':h'.path.length<=9223372036854775807:=Nat.le_trans ho'.path Zd
  have hkl:k.len<=9223372036854775807:=Nat.le_trans hd1.icLe hd1.icMax.1
  have hkl':k'.len<=9223372036854775807:=Nat.le_trans hd1'.icLe hd1'.icMax.1
  by_cases q3:h.kind=3
  ·as_aux_lemma=>
    obtain⟨k0,k1,k2,k3,k4,k5,k6,k7,k8,k9,k10⟩:=(CellsAt.of_blk hA1).boxrg
    obtain⟨l0,l1,l2,l3,l4,l5,l6,l7,l8,l9,l10⟩:=(CellsAt.of_blk hB1).boxrg
    have HE:Hid (D8 h k h' k'=(Ih h.f.toNat h'.f.toNat,emp)):=by unfold Hid;rw[HD.out,if_neg Zo];unfold J1;rw[if_pos q3]
    clear HD
    have hf1:=Br h.f
    have hf2:=Br h'.f
    have hf3:=feq h.f.toNat h'.f.toNat
    go_wp2_with fail
    refine J0 Zk Zk ?_
    repeat (quiet_step ((fail)))
    refine wpQuiet_nil ?_
    intro w2 hb2
    go_wp2_with fail
    go_ret2
    rw[HE.out]
    exact⟨rfl,bz⟩
  by_cases q5:h.kind=5\/h.kind=6\/h.kind=7
  ·as_aux_lemma=>
    obtain⟨k0,k1,k2,k3,k4,k5,k6,k7,k8,k9,k10⟩:=(CellsAt.of_blk hA1).boxrg
    have HE:Hid (D8 h k h' k'=(false,h.type)):=by unfold Hid;rw[HD.out,if_neg Zo];unfold J1;rw[if_neg q3,if_pos q5]
    clear HD q3
    rcases q5 with q5 | q5 | q5
    all_goals
     go_wp2_with fail
     refine J0 Zk Zk ?_
     repeat (quiet_step ((fail)))
     refine wpQuiet_nil ?_
     intro w2 hb2
     go_wp2_with fail
     go_ret2
     rw[HE.out]
     exact⟨rfl,bz⟩
  by_cases q9:h.kind=9
  ·as_aux_lemma=>
    have HE:Hid (D8 h k h' k'=(decide (h.obj=h'.obj/\h.path=h'.path),emp)):=by unfold Hid;rw[HD.out,if_neg Zo];unfold J1;rw[if_neg q3,if_neg q5,if_pos q9]
    clear HD q3 q5
    by_cases qo:h.obj=h'.obj
    ·have qob:(h.obj==h'.obj)=true:=by simpa using qo
     have HO:=Lib.hid qo
     clear qo
     go_wp2_with (go_at_call 132;refine(Sj h.path h'.path pa pa' pc pc' w1 S T hpl hpl' hd1.path hd1'.path).mono ?_;rintro e w2 ⟨rfl,hb2⟩)
     go_ret2
     rw[HE.out]
     exact⟨by simp[HO.out,emp],bz⟩
    ·have qob:(h.obj==h'.obj)=false:=by simpa using qo
     have HO:=Lib.hid qo
     clear qo
     go_wp2_with fail
     go_ret2
     rw[HE.out]
     exact⟨by simp[HO.out,emp],bz⟩
  by_cases q8:h.kind=8
  ·rw[if_pos q8] at HD
   clear q3 q5 q9 c1 c2 c3 c4 c5 c6 c7 c8 c9 d1 d2 d3 d4 d5 d6 d7 d8 d9
   by_cases ql:k.len=k'.len
   ·have qlb:((k.len:Int) != (k'.len:Int))=false:=by simp[ql]
    have HE:Hid (D8 h k h' k'=I1 k k'):=by unfold Hid;rw[HD.out,if_neg (by simp[ql])]
    have HLQ:=Lib.hid ql
    clear HD ql
    go_wp2_with fail
    go_loopg [61] k.len (fun g i wr=> ∃j:Nat,j<=k.len/\i=.int .i64 j/\g=k.len-j/\Below w.heap.size w wr/\Below w1.heap.size w1 wr/\I1 k k'=I1 (k.drop j) (k'.drop j))
    case atStart=>exact⟨0,Zo,rfl,Zo,hbw1,Below.refl _ _,by simp⟩
    case round=>
     obtain⟨j,hj,rfl,rfl,hg,hg1,hn⟩:=hrel
     have HN:=Lib.hid hn
     clear hn c0 c10 d0 d10
     have hA2:=hA1.below hg1 hA1.lt
     have hB2:=hB1.below hg1 hB1.lt
     have hd2:=hd1.below hg1 (fun b _ h=>h)
     have hd2':=hd1'.below hg1 (fun b _ h=>h)
     by_cases hlt:j<k.len
     ·obtain⟨a,b,hget⟩:=Fo.get_lt k j hlt
      obtain⟨a',b',hget'⟩:=Fo.get_lt k' j (by rw[<-HLQ.out];exact hlt)
      obtain⟨g1,o1,rfl,_,qa,qc,ja,jc,hcs,hda⟩:=hd2.kids.get hget
      obtain⟨g2,o2,rfl,_,qa',qc',ja',jc',hcs',hda'⟩:=hd2'.kids.get hget'
      have HDr:=Lib.hid (Fo.drop_get k j a b hget)
      have HDr':=Lib.hid (Fo.drop_get k' j a' b' hget')
      have hih:=fun d os=>ih j a b a' b' hget hget' (grow (redrawn wr d) os) S T qa qc ja jc qa' qc' ja' jc' (hda.below (below_regrown wr d os) (fun b _ h=>h)) (hda'.below (below_regrown wr d os) (fun b _ h=>h))
      unfold Hd.cells at hih
      have HI:=Lib.hid hih
      obtain⟨_,_,_,_,_,_,_,_,_,_,k10⟩:=(CellsAt.of_blk hA2).boxrg
      obtain⟨_,_,_,_,_,_,_,_,_,_,l10⟩:=(CellsAt.of_blk hB2).boxrg
      obtain⟨m0,m1,m2,m3,m4,m5,m6,m7,m8,m9,m10⟩:=hcs.rg
      obtain⟨n0,n1,n2,n3,n4,n5,n6,n7,n8,n9,n10⟩:=hcs'.rg
      have hj0:(0:Int)<=(j:Int):=by omega
      have hj1:(j:Int)<(k.len:Int):=by omega
      have hj2:(j:Int)<(k'.len:Int):=by have:=HLQ.out;omega
      clear hih hget hget' hcs hcs' hda hda'
      go_wp2_with fail
      refine J0 Zk Zk ?_
      repeat (quiet_step ((exact Calls.regrown_of (HI.out _ _))))
      refine wpQuiet_nil ?_
      intro w2 hb2
      by_cases hr:(D8 a b a' b').1=true
      ·have HR:=Lib.hid hr
       rw[hr]
       clear hr
       have hs2:=hg.size
       have hs3:=hg1.size
       go_wp2_with fail
       go_roundg (k.len-(j+1))
       case measure=>omega
       case rel=>exact⟨j+1,Zo,by go_num,rfl,bz,bz,by rw[HN.out,HDr.out,HDr'.out,K3,if_pos HR.out]⟩
      ·have hr':(D8 a b a' b').1=false:=by simpa using hr
       have HR:=Lib.hid hr'
       rw[hr']
       clear hr hr'
       go_wp2_with fail
       go_ret2
       have e:D8 h k h' k'=(false,(D8 a b a' b').2):=by rw[HE.out,HN.out,HDr.out,HDr'.out,K3,if_neg (by rw[HR.out];simp)]
       rw[e]
       exact⟨rfl,bz⟩
     ·have hjl:j=k.len:=by omega
      subst hjl
      go_wp2_with fail
      go_ret2
      have e:D8 h k h' k'=(true,emp):=by rw[HE.out,HN.out,Fo.drop_len k _ (Nat.le_refl _)];rfl
      rw[e]
      exact⟨rfl,bz⟩
   ·as_aux_lemma=>
     have qlb:((k.len:Int) != (k'.len:Int))=true:=by rw[bne_iff_ne];omega
     have HE:Hid (D8 h k h' k'=(false,emp)):=by unfold Hid;rw[HD.out,if_pos ql]
     clear HD ql
     go_wp2_with fail
     go_ret2
     rw[HE.out]
     exact⟨rfl,bz⟩
  ·as_aux_lemma=>
    have HE:Hid (D8 h k h' k'=(decide (h.n=h'.n/\h.s=h'.s),emp)):=by unfold Hid;rw[HD.out,if_neg q8];unfold J1;rw[if_neg q3,if_neg q5,if_neg q9]
    have q30:(h.kind==3)=false:=by simpa using q3
    have q50:(h.kind==5)=false:=by rw[beq_eq_false_iff_ne];omega
    have q60:(h.kind==6)=false:=by rw[beq_eq_false_iff_ne];omega
    have q70:(h.kind==7)=false:=by rw[beq_eq_false_iff_ne];omega
    have q80:(h.kind==8)=false:=by simpa using q8
    have q90:(h.kind==9)=false:=by simpa using q9
    clear HD q3 q5 q8 q9
    by_cases qo:h.n=h'.n
    ·have qob:(h.n==h'.n)=true:=by simpa using qo
     have HO:=Lib.hid qo
     clear qo
     go_wp2_with fail
     go_ret2
     rw[HE.out]
     exact⟨by simp[HO.out,emp,Ni],bz⟩
    ·have qob:(h.n==h'.n)=false:=by simpa using qo
     have HO:=Lib.hid qo
     clear qo
     go_wp2_with fail
     go_ret2
     rw[HE.out]
     exact⟨by simp[HO.out,emp],bz⟩
theorem Ee: ∀(f:Fo),f.ok->∀(g:Fo) (i:Nat) (a:Hd) (b:Fo) (a':Hd) (b':Fo),g.ok->f.get i=some (a,b)->g.get i=some (a',b')->Pw a b a' b'
 | .nil,_,g,i,a,b,a',b',_,e,_=>by simp[Fo.get] at e
 | .cons h k r,o,g,0,a,b,a',b',og,e,e'=>by
  simp only[Fo.get,Option.some.injEq,Prod.mk.injEq] at e
  obtain⟨rfl,rfl⟩:=e
  obtain⟨o1,o2,_⟩:=Fo.ok_get g 0 a' b' og e'
  exact Lm _ _ _ _ o.1 o.2.1 o1 o2 (fun i c d c' d' e e'=>Ee k o.2.1 b' i c d c' d' o2 e e')
 | .cons h k r,o,.nil,i+1,a,b,a',b',og,e,e'=>by simp[Fo.get] at e'
 | .cons h k r,o,.cons h2 k2 r2,i+1,a,b,a',b',og,e,e'=>Ee r o.2.2.1 r2 i a b a' b' og.2.2.1 e e'
theorem Ln(h:Hd)(k:Fo)(h':Hd)(k':Fo)(ho:h.ok)(hk:k.ok)(ho':h'.ok)(hk':k'.ok):Pw h k h' k':=
 Lm h k h' k' ho hk ho' hk' (fun i a b a' b' e e'=>Ee k hk k' i a b a' b' hk' e e')
def W6(h:Hd)(k:Fo):ByteArray:=(D8 h k h k).2
set_option maxHeartbeats 400000 in
theorem Px(h:Hd)(k:Fo)(ho:h.ok)(hk:k.ok)(w:World)(S:Nat->Prop)(pa:Option Addr)(pc:Nat)(ia:Option Addr)(ic:Nat)(hd:DatAt w S h k pa pc ia ic):
  Calls Tryz.prog 128 #[.agg (h.cells pa pc ia k.len ic)] w fun e w'=>e=.returned (.string (W6 h k))/\Below w.heap.size w w':=by
 have he:=Ln h k h k ho hk ho hk (w.alloc (.cells (h.cells pa pc ia k.len ic) 53)) S S pa pc ia ic pa pc ia ic (hd.keep (fun b _ h=>Below.heap_alloc _ _ _ h) (fun _ h _=>h)) (hd.keep (fun b _ h=>Below.heap_alloc _ _ _ h) (fun _ h _=>h))
 unfold Hd.cells at he ⊢
 have HE:=Lib.hid he
 clear he
 go_enter Tryz.func128,Tryz.ntmps128
 go_wp2_with fail
 refine HE.out.mono ?_
 rintro e w1 ⟨rfl,hb1⟩
 go_wp2_with fail
 go_ret
 exact⟨rfl,bz⟩
def Aq3(B:Nat)(l:List Int)(w:World)(e:Ending)(w':World):Prop:=
 ∃pa pc,e=.returned (.slice pa l.length pc)/\PathAt w' (fun b=>B<=b) pa l/\l.length<=pc/\capOk pa pc/\Below w.heap.size w w'
theorem Py:(Tryz.prog.info? 3).map (fun i=>(i.zero,i.size,i.bytes))=some (some (.int .i64 0),1,8):=by kernel_rfl
theorem Aq4{w:World}{B n:Nat}{v:Value}{l:List Int}(h:w.ownsRow B 3 1 v n (l.map (Value.int .i64))): ∃pa pc,v=.slice pa l.length pc/\PathAt w (fun b=>B<=b) pa l/\l.length<=pc/\capOk pa pc:=by
 have hn:n=l.length:=by have:=h.1;simpa using this.symm
 subst hn
 rcases h.2 with⟨rfl,h0⟩ | ⟨g,cap,cur,rfl,hg,hh,hc,hm,hs,ht⟩
 ·exact⟨none,0,by rw[h0],.inl (List.eq_nil_of_length_eq_zero h0),Zo,capOk.nil⟩
 ·refine⟨_,cap,rfl,.inr ⟨g,0,rfl,hg,fun j x hx=> ?_⟩,hc,capOk.some (by unfold maxLen at hm;exact hm)⟩
  rw[cell_of_row w g _ cur _ _ hh,Nat.zero_add]
  have h1:(cur.toList.take (l.length*1))[j]? =some (.int .i64 x):=by rw[ht];simp[hx]
  rw[List.getElem?_take] at h1
  split at h1
  ·simpa using h1
  ·cases h1
theorem Ib(b o j:Nat):(Addr.mk b o none).add j=⟨b,o+j,none⟩:=by
 unfold Addr.add
 split
 ·rename_i h;subst h;rfl
 ·rfl
theorem Lq{w:World}{S:Nat->Prop}{ad:Addr}{l:List Int}(hp:PathAt w S (some ad) l): ∀(j:Nat) (u:Value),(l.map (Value.int .i64))[j]? =some u->w.cell? (ad.add j)=some u:=by
 intro j u hu
 rcases hp with rfl | ⟨b,o,h1,_,h3⟩
 ·simp at hu
 ·injection h1 with h1
  subst h1
  rw[Ib]
  rw[List.getElem?_map] at hu
  cases hx:l[j]? with
  | none=>simp[hx] at hu
  | some x=>simp[hx] at hu;rw[h3 j x hx,hu]
set_option maxRecDepth 100000 in
set_option maxHeartbeats 800000 in
theorem Lr(l:List Int)(pa:Option Addr)(pc:Nat)(w:World)(S:Nat->Prop)(hl:l.length<=17592186043904)(hp:PathAt w S pa l):
  Calls Tryz.prog 39 #[.slice pa l.length pc] w (Aq3 w.heap.size l w):=by
 cases pa with
 | none=>
  have hl0:l=[]:=by
   rcases hp with h | ⟨b,o,h,_⟩
   ·exact h
   ·cases h
  subst hl0
  have hnil:=fun W=>Lib.run_eql_slice_nil (P:=Tryz.prog) W 24 3 none 0 pc 0 0 Tryz.underlying24
  simp only[Option.isNone] at hnil
  go_enter Tryz.func39,Tryz.ntmps39
  go_wp2_with fail
  go_ret
  exact⟨none,0,rfl,.inl rfl,by simp,capOk.nil,Below.refl _ _⟩
 | some ad=>
  obtain⟨i0,hi,hz0,hz1,hz2⟩:=info_parts Py
  have hnil:=fun W=>Lib.run_eql_slice_nil (P:=Tryz.prog) W 24 3 (some ad) l.length pc 0 0 Tryz.underlying24
  simp only[Option.isNone] at hnil
  have hp1:=Lq (hp.keep (w':=w.alloc (.cells #[] 3)) (fun b _ h=>Below.heap_alloc _ _ _ h) (fun _ h _=>h))
  have HP:=Lib.hid hp1
  have hown:=World.ownsRow_made (base:=w.heap.size) (e:=3) (size:=1) w #[] 0 (Nat.le_refl _) Zd rfl
  have HOWN:=Lib.hid hown
  clear hp1 hown
  go_enter Tryz.func39,Tryz.ntmps39
  go_wp2_with (at_builtin;refine wpList_append_own_at _ rfl (.tmp 5) (.tmp 6) _ rfl w.heap.size 3 i0 _ 1 8 Tryz.underlying24 hi hz0 hz1 hz2 rfl Zo (.slice (some ⟨w.heap.size,0,none⟩) 0 0) 0 [] rfl HOWN.out ad l.length pc (l.map (Value.int .i64)) rfl (by simp) HP.out (by simp[Value.oneCell']) (by unfold maxLen;omega) Zo (by simp) ?_;intro v' w' hown' hgrow _ _)
  obtain⟨pa',pc',hv,h1,h2,h3⟩:=Aq4 (by simpa using hown')
  subst hv
  go_ret
  exact⟨pa',pc',rfl,h1,h2,h3,(Below.refl _ _).alloc (Nat.le_refl _) _ |>.grown hgrow (by simp) (by intro k hk;simp[Value.ownBlock] at hk;omega)⟩
theorem Pz:(Tryz.prog.info? 53).map (fun i=>(i.zero,i.size,i.bytes))=some (some (.agg #[.int .i64 0,.string ⟨#[]⟩,.int .i64 0,.int .u64 0,.string ⟨#[]⟩,.int .i64 0,.int .i64 0,.int .i64 0,.int .i64 0,.slice none 0 0,.slice none 0 0]),11,136):=by kernel_rfl
theorem FoAt.list{w:World}{S:Nat->Prop}: ∀(f:Fo) (b o:Nat),FoAt w S b o f->∃xs:List Value,xs.length=f.len*11/\(∀(j:Nat) (u:Value),xs[j]? =some u->w.cell? ⟨b,o+j,none⟩=some u)/\∀u∈xs,u.oneCell'=true
 | .nil,_,_,_=>⟨[],rfl,fun j u h=>by simp at h,fun u h=>by simp at h⟩
 | .cons h k r,b,o,⟨⟨pa,pc,ia,ic,h1,_⟩,h6⟩=>by
  obtain⟨ys,y1,y2,y3⟩:=FoAt.list r b (o+11) h6
  refine⟨(h.cells pa pc ia k.len ic).toList++ys,by simp only[List.length_append,y1,Fo.len];simp[Hd.cells];omega,fun j u hu=> ?_,fun u hu=> ?_⟩
  ·by_cases hj:j<11
   ·rw[List.getElem?_append_left (by simpa[Hd.cells] using hj)] at hu
    exact h1 j u (by simpa using hu)
   ·rw[List.getElem?_append_right (by simp[Hd.cells];omega)] at hu
    have:=y2 _ u hu
    rwa [show o+11+(j-(h.cells pa pc ia k.len ic).toList.length)=o+j by simp[Hd.cells];omega] at this
  ·rw[List.mem_append] at hu
   rcases hu with hu | hu
   ·simp[Hd.cells] at hu
    rcases hu with rfl | rfl | rfl | rfl | rfl | rfl | rfl | rfl | rfl | rfl | rfl<;>rfl
   ·exact y3 u hu
theorem FoAt.copy{w w':World}{S:Nat->Prop}(hk: ∀b,S b->b<w.heap.size->w'.heap[b]? =w.heap[b]?): ∀(f:Fo) (b o g p:Nat),FoAt w S b o f->
  (∀(j:Nat) (u:Value),j<f.len*11->w.cell? ⟨b,o+j,none⟩=some u->w'.cell? ⟨g,p+j,none⟩=some u)->FoAt w' S g p f
 | .nil,_,_,_,_,_,_=>trivial
 | .cons h k r,b,o,g,p,⟨⟨pa,pc,ia,ic,h1,h2,h3,h3',h4,h4',h5⟩,h6⟩,hc=>by
  refine⟨⟨pa,pc,ia,ic,fun j v hv=>hc j v ?_ (h1 j v hv),h2.keep hk (fun _ h _=>h),h3,h3',h4,h4',SlAt.keep h5 hk (fun _ h _=>h)⟩,FoAt.copy hk r b (o+11) g (p+11) h6 fun j u hj hu=> ?_⟩
  ·have:j<(h.cells pa pc ia k.len ic).size:=by
    rcases Nat.lt_or_ge j (h.cells pa pc ia k.len ic).size with h | h
    ·exact h
    ·rw[Array.getElem?_eq_none h] at hv;cases hv
   simp[Hd.cells] at this
   simp only[Fo.len]
   omega
  ·rw[Nat.add_assoc]
   exact hc (11+j) u (by simp only[Fo.len];omega) (by rw[<-Nat.add_assoc];exact hu)
def Aq5(S:Nat->Prop)(k:Fo)(w:World)(e:Ending)(w':World):Prop:=
  ∃ ia ic, e = .returned (.slice ia k.len ic) ∧ k.len ≤ ic ∧ capOk ia ic ∧ Below w.heap.size w w' ∧
    (k.len=0\/∃g cur,ia=some ⟨g,0,none⟩/\w.heap.size<=g/\Blk w' g 53 cur/\cur.size=ic*11/\FoAt w' S g 0 k)
set_option maxRecDepth 100000 in
set_option maxHeartbeats 800000 in
theorem Ls(k:Fo)(ia:Option Addr)(ic:Nat)(w:World)(S:Nat->Prop)(hl:k.len<=1034834473200)(hp:SlAt w S ia k):
  Calls Tryz.prog 145 #[.slice ia k.len ic] w (Aq5 S k w):=by
 cases ia with
 | none=>
  have hl0:k.len=0:=by
   rcases hp with h | ⟨b,o,h,_⟩
   ·exact h
   ·cases h
  have hnil:=fun W=>Lib.run_eql_slice_nil (P:=Tryz.prog) W 23 53 none k.len ic 0 0 Tryz.underlying23
  simp only[Option.isNone] at hnil
  have HL:=Lib.hid hl0
  clear hl0
  go_enter Tryz.func145,Tryz.ntmps145
  go_wp2_with fail
  go_ret
  exact⟨none,0,by rw[HL.out];rfl,by rw[HL.out];omega,capOk.nil,Below.refl _ _,.inl HL.out⟩
 | some ad=>
  obtain⟨i0,hi,hz0,hz1,hz2⟩:=info_parts Pz
  have hnil:=fun W=>Lib.run_eql_slice_nil (P:=Tryz.prog) W 23 53 (some ad) k.len ic 0 0 Tryz.underlying23
  simp only[Option.isNone] at hnil
  have hkeep: ∀(b:Nat),S b->b<w.heap.size->(w.alloc (.cells #[] 53)).heap[b]? =w.heap[b]? :=fun b _ h=>Below.heap_alloc _ _ _ h
  obtain⟨xs,x1,x2,x3⟩: ∃xs:List Value,xs.length=k.len*11/\(∀(j:Nat) (u:Value),xs[j]? =some u->(w.alloc (.cells #[] 53)).cell? (ad.add j)=some u)/\∀u∈xs,u.oneCell'=true:=by
   rcases hp with h | ⟨b,o,e,hS,h⟩
   ·exact⟨[],by rw[h];rfl,fun j u h=>by simp at h,fun u h=>by simp at h⟩
   ·injection e with e
    subst e
    obtain⟨xs,x1,x2,x3⟩:=FoAt.list k b o (FoAt.keep hkeep (fun _ h _=>h) k b o hS h)
    exact⟨xs,x1,fun j u hu=>by rw[Ib];exact x2 j u hu,x3⟩
  have HP:=Lib.hid x2
  have hown:=World.ownsRow_made (base:=w.heap.size) (e:=53) (size:=11) w #[] 0 (Nat.le_refl _) Zd rfl
  have HOWN:=Lib.hid hown
  clear x2 hown
  go_enter Tryz.func145,Tryz.ntmps145
  go_wp2_with (at_builtin;refine wpList_append_own_at _ rfl (.tmp 5) (.tmp 6) _ rfl w.heap.size 53 i0 _ 11 136 Tryz.underlying23 hi hz0 hz1 hz2 rfl Zo (.slice (some ⟨w.heap.size,0,none⟩) 0 0) 0 [] rfl HOWN.out ad k.len ic xs rfl x1 HP.out x3 (by unfold maxLen;omega) Zo (by simp) ?_;intro v' w' hown' hgrow hiff _)
  have hb:Below w.heap.size w w':=((Below.refl _ _).alloc (Nat.le_refl _) _).grown hgrow (by simp) (by intro k hk;simp[Value.ownBlock] at hk;omega)
  have hv: ∃ia' ic',v'=.slice ia' k.len ic'/\k.len<=ic'/\capOk ia' ic'/\(k.len=0\/∃g cur,ia'=some ⟨g,0,none⟩/\w.heap.size<=g/\Blk w' g 53 cur/\cur.size=ic'*11/\FoAt w' S g 0 k):=by
   simp only[Nat.zero_add,List.nil_append] at hown'
   rcases hown'.2 with⟨rfl,h0⟩ | ⟨g,cap,cur,rfl,hg,hh,hc,hm,hs,ht⟩
   ·exact⟨none,0,by rw[h0],Zo,capOk.nil,.inl h0⟩
   ·refine⟨_,cap,rfl,hc,capOk.some (by unfold maxLen at hm;exact hm), ?_⟩
    rcases hp with h | ⟨b,o,e,hS,h⟩
    ·exact .inl h
    ·refine .inr ⟨g,cur,rfl,hg,hh,hs,FoAt.copy (fun b _ h=>hb.block b h) k b o g 0 h fun j u hj hu=> ?_⟩
     have e1:=HP.out j (xs[j]'Zo) (List.getElem?_eq_getElem Zo)
     injection e with e
     rw[e,Ib,World.cell?_alloc_lt _ _ _ (H0 hu),hu] at e1
     rw[Nat.zero_add,cell_of_row w' g _ cur _ _ hh]
     have h1:(cur.toList.take (k.len*11))[j]? =some (xs[j]'Zo):=by rw[ht];exact List.getElem?_eq_getElem Zo
     rw[List.getElem?_take,if_pos hj] at h1
     injection e1 with e1
     rw[<-e1] at h1
     simpa using h1
  obtain⟨ia',ic',rfl,h1,h2,h3⟩:=hv
  go_ret
  exact⟨ia',ic',rfl,h1,h2,hb,h3⟩
theorem FoAt.of_get{w:World}{S:Nat->Prop}: ∀(f:Fo) (b o:Nat),(∀i h k,f.get i=some (h,k)->∃pa pc ia ic,CellsAt w b (o+i*11) (h.cells pa pc ia k.len ic)/\DatAt w S h k pa pc ia ic)->FoAt w S b o f
 | .nil,_,_,_=>trivial
 | .cons h k r,b,o,hg=>by
  obtain⟨pa,pc,ia,ic,h1,h2⟩:=hg 0 h k rfl
  refine⟨⟨pa,pc,ia,ic,by simpa using h1,h2.path,h2.pcLe,h2.pcMax,h2.icLe,h2.icMax,h2.kids⟩,FoAt.of_get r b (o+11) fun i h' k' e=> ?_⟩
  have:=hg (i+1) h' k' e
  rwa [show o+(i+1)*11=o+11+i*11 by omega] at this
def Aq6(h:Hd)(k:Fo)(w:World)(e:Ending)(w':World):Prop:=
 ∃pa pc ia ic,e=.returned (.agg (h.cells pa pc ia k.len ic))/\DatAt w' (fun b=>w.heap.size<=b) h k pa pc ia ic/\Below w.heap.size w w'
def Aq7(h:Hd)(k:Fo):Prop:= ∀(w:World) (S:Nat->Prop) (pa:Option Addr) (pc:Nat) (ia:Option Addr) (ic:Nat),DatAt w S h k pa pc ia ic->
 Calls Tryz.prog 139 #[.agg (h.cells pa pc ia k.len ic)] w (Aq6 h k w)
def Do0(w:World)(S:Nat->Prop)(k:Fo)(g j:Nat):Prop:=
 ∀i a b,k.get i=some (a,b)->∃pa pc ia ic,CellsAt w g (i*11) (a.cells pa pc ia b.len ic)/\DatAt w (if i<j then(fun x=>g<x) else S) a b pa pc ia ic
theorem CellsAt.to_blk{w w':World}{g o:Nat}{vs:Array Value}(h:CellsAt w g o vs)(hk:w'.heap[g]? =w.heap[g]?):CellsAt w' g o vs:=fun j v hv=>(World.cell?_of_block (w:=w) hk).trans (h j v hv)
theorem D9(b:Nat): ∀(vs:List Value) (o:Nat) (w:World) (k:Nat),k≠b->(w.setCells b o vs).heap[k]? =w.heap[k]?
 | [],_,_,_,_=>rfl
 | v::r,o,w,k,h=>by rw[World.setCells,D9 b r (o+1) _ k h,Below.heap_setCell _ _ _ _ h]
theorem Q5(b:Nat): ∀(vs:List Value) (o:Nat) (w:World),(w.setCells b o vs).heap.size=w.heap.size
 | [],_,_=>rfl
 | v::r,o,w=>by rw[World.setCells,Q5 b r (o+1)];simp[World.setCell]
theorem Ay{b:Nat}{t:TypeId}: ∀(vs:List Value) (o:Nat) (w:World) (cur:Array Value),Blk w b t cur->∃cur',Blk (w.setCells b o vs) b t cur'/\cur'.size=cur.size
 | [],_,_,cur,h=>⟨cur,h,rfl⟩
 | v::r,o,w,cur,h=>by
  obtain⟨cur',h1,h2⟩:=Ay r (o+1) _ _ (h.set_ o v)
  exact⟨cur',h1,by rw[h2];simp⟩
theorem P2{B b:Nat}{a:World}(vs:List Value)(o:Nat)(w:World)(h:Below B a w)(hb:B<=b):Below B a (w.setCells b o vs):=by
 induction vs generalizing o w with
 | nil=>exact h
 | cons v r ih=>exact ih (o+1) _ (h.setCell (p:=⟨b,o,none⟩) hb v)
theorem O3{w:World}{b:Nat}{t:TypeId}{cur:Array Value}(h:Blk w b t cur){o n:Nat}(hn:o+n<=cur.size):w.there b o n:=fun j hj=>by
 refine⟨?_,h.frozen _⟩
 rw[h.cell,Array.getElem?_eq_getElem Zo]
 rfl
theorem Ef{w:World}{b:Nat}{t:TypeId}{cur:Array Value}(h:Blk w b t cur)(o:Nat)(a:Hd)(pa:Option Addr)(pc:Nat)(ia:Option Addr)(il ic:Nat)(hn:o+11<=cur.size):
  (storeCells ⟨b,o,none⟩ (a.cells pa pc ia il ic).toList).run Tryz.prog w=.ok () (w.setCells b o (a.cells pa pc ia il ic).toList):=by
 have ht:=O3 h (o:=o) (n:=11) hn
 have:=run_storeCells_cells (P:=Tryz.prog) b o (a.cells pa pc ia il ic).toList 0 w (fun j hj=>by simpa using(ht j (by simpa[Hd.cells] using hj)).1) (fun j hj=>by simpa using(ht j (by simpa[Hd.cells] using hj)).2)
  (fun v hv=>by simp[Hd.cells] at hv;rcases hv with rfl | rfl | rfl | rfl | rfl | rfl | rfl | rfl | rfl | rfl | rfl<;>rfl)
 simpa only[Nat.add_zero] using this
theorem Ac8{wr w6:World}{S0:Nat->Prop}{k:Fo}{g j:Nat}{a:Hd}{b:Fo}{cu:Array Value}{t:TypeId}{qa:Option Addr}{qc:Nat}{ja:Option Addr}{jc:Nat}(gH:Do0 wr S0 k g j)(hS: ∀x,S0 x->x<g)(hlt:g<wr.heap.size)
  (hb6:Below wr.heap.size wr w6) (hget:k.get j=some (a,b)) (hB:Blk w6 g t cu) (hsz:j*11+11<=cu.size) (hda:DatAt w6 (fun x=>wr.heap.size<=x) a b qa qc ja jc):
  Do0 (w6.setCells g (j*11) (a.cells qa qc ja b.len jc).toList) S0 k g (j+1):=by
 intro i c d e
 have hlen:(a.cells qa qc ja b.len jc).toList.length=11:=by simp[Hd.cells]
 by_cases hij:i=j
 ·subst hij
  rw[hget] at e
  injection e with e
  injection e with e1 e2
  subst e1 e2
  refine⟨qa,qc,ja,jc,fun n v hv=>World.rangeAt_setCells_same w6 g (i*11) _ (O3 hB (by rw[hlen];exact hsz)) n v (by simpa using hv), ?_⟩
  rw[if_pos Zo]
  exact hda.keep (fun x h1 _=>D9 g _ _ _ x Zo) (fun x h1 _=>by omega)
 ·obtain⟨pa,pc,ia,ic,h1,h2⟩:=gH i c d e
  refine⟨pa,pc,ia,ic,fun n v hv=> ?_, ?_⟩
  ·have hn:n<11:=by
    have:n<(c.cells pa pc ia d.len ic).size:=by
     rcases Nat.lt_or_ge n (c.cells pa pc ia d.len ic).size with h | h
     ·exact h
     ·rw[Array.getElem?_eq_none h] at hv;cases hv
    simpa[Hd.cells] using this
   rw[World.cell?_setCells_out g _ (j*11) w6 ⟨g,i*11+n,none⟩ (fun _ _=>by rw[hlen];show i*11+n<j*11\/j*11+11<=i*11+n;omega)]
   exact(hb6.cell (p:=⟨g,i*11+n,none⟩) hlt).trans (h1 n v hv)
  ·by_cases hl:i<j
   ·rw[if_pos hl] at h2
    rw[if_pos Zo]
    exact h2.keep (fun x h1 h3=>(D9 g _ _ _ x Zo).trans (hb6.block x h3)) (fun _ h _=>h)
   ·rw[if_neg hl] at h2
    rw[if_neg Zo]
    exact h2.keep (fun x h1 h3=>(D9 g _ _ _ x (by have:=hS x h1;omega)).trans (hb6.block x h3)) (fun _ h _=>h)
theorem Blk.eleven{w:World}{g:Nat}{t:TypeId}{cs:Array Value}(h:Blk w g t cs)(hs:cs.size=11): ∃u0 u1 u2 u3 u4 u5 u6 u7 u8 u9 u10:Value,
  w.cell? ⟨g,0,none⟩=some u0/\w.cell? ⟨g,1,none⟩=some u1/\w.cell? ⟨g,2,none⟩=some u2/\w.cell? ⟨g,3,none⟩=some u3/\w.cell? ⟨g,4,none⟩=some u4/\w.cell? ⟨g,5,none⟩=some u5/\
  w.cell? ⟨g,6,none⟩=some u6/\w.cell? ⟨g,7,none⟩=some u7/\w.cell? ⟨g,8,none⟩=some u8/\w.cell? ⟨g,9,none⟩=some u9/\w.cell? ⟨g,10,none⟩=some u10:=by
 have e: ∀j (hj:j<11),w.cell? ⟨g,j,none⟩=some (cs[j]'Zo):=fun j hj=>by rw[h.cell,Array.getElem?_eq_getElem Zo]
 exact⟨_,_,_,_,_,_,_,_,_,_,_,e 0 Zo,e 1 Zo,e 2 Zo,e 3 Zo,e 4 Zo,e 5 Zo,e 6 Zo,e 7 Zo,e 8 Zo,e 9 Zo,e 10 Zo⟩
set_option maxRecDepth 100000 in
set_option maxHeartbeats 4000000 in
theorem Qa(h:Hd)(k:Fo)(ho:h.ok)(_hko:k.ok)(hkl:k.len<=1034834473170)(ih: ∀i a b,k.get i=some (a,b)->Aq7 a b):Aq7 h k:=by
 intro w S pa pc ia ic hd
 replace hd:DatAt w (fun b=>b<w.heap.size) h k pa pc ia ic:=hd.keep (fun _ _ _=>rfl) (fun b _ h=>h)
 unfold Hd.cells
 go_enter Tryz.func139,Tryz.ntmps139
 go_upto_region 0 with fail
 go_cut [0,1,2] (fun _ t1 t2 wx=>t1=.pointer (some ⟨w.heap.size,0,none⟩)/\t2=.pointer (some ⟨w.heap.size+1,0,none⟩)/\Blk wx w.heap.size 53 (h.cells pa pc ia k.len ic)/\(∃cs,cs.size=11/\Blk wx (w.heap.size+1) 53 cs)/\Below w.heap.size w wx)
 case first=>
  go_wp2_with fail
  go_meet
  case rel=>exact⟨rfl,rfl,(Blk.new _ _ _).alloc _,⟨_,by rfl,Blk.new1 _ _ _ _⟩,bz⟩
 case rest=>
 obtain⟨rfl,rfl,hA,⟨cs,hcs,hR⟩,hbw⟩:=hcut
 obtain⟨w0,rfl⟩: ∃w0:World,w0=wc:=⟨_,rfl⟩
 have hd0:=hd.below hbw (fun b _ h=>h)
 obtain⟨c0,c1,c2,c3,c4,c5,c6,c7,c8,c9,c10⟩:=(CellsAt.of_blk hA).box
 go_wp2_with fail
 refine(Lr h.path pa pc _ _ ho.path hd0.path).mono ?_
 rintro e w1 ⟨pa',pc',rfl,hp1,hp2,hp3,hb1⟩
 have hA1:=hA.below hb1 hA.lt
 have hR1:=hR.below hb1 hR.lt
 have hlt1:=hA1.lt
 have hlt1':=hR1.lt
 have hltA:=hA.lt
 have hltR:=hR.lt
 have hs1:=hb1.size
 have hd1:=hd0.below hb1 (fun b _ h=>h)
 clear c0 c1 c2 c3 c4 c5 c6 c7 c8 c9 c10
 obtain⟨c0,c1,c2,c3,c4,c5,c6,c7,c8,c9,c10⟩:=(CellsAt.of_blk hA1).box
 have f9:=hA1.frozen 9
 go_upto_region 2 with fail
 have hA2:Blk (w1.setCell ⟨w.heap.size,9,none⟩ (.slice pa' h.path.length pc')) w.heap.size 53 (h.cells pa' pc' ia k.len ic):=hA1.set_ 9 (.slice pa' h.path.length pc')
 have hR2:=hR1.far (p:=⟨w.heap.size,9,none⟩) (by simp) (.slice pa' h.path.length pc')
 have hk2: ∀b,b≠w.heap.size->(w1.setCell ⟨w.heap.size,9,none⟩ (.slice pa' h.path.length pc')).heap[b]? =w1.heap[b]? :=fun b hb=>Below.heap_setCell _ _ _ _ hb
 have hz2:(w1.setCell ⟨w.heap.size,9,none⟩ (.slice pa' h.path.length pc')).heap.size=w1.heap.size:=by simp[World.setCell]
 have hb2:Below w.heap.size w (w1.setCell ⟨w.heap.size,9,none⟩ (.slice pa' h.path.length pc')):=(A7 hbw hb1).setCell (Nat.le_refl _) _
 generalize w1.setCell ⟨w.heap.size,9,none⟩ (.slice pa' h.path.length pc')=w2 at hA2 hR2 hk2 hz2 hb2 ⊢
 have hq2:PathAt w2 (fun b=>w0.heap.size<=b/\b<w2.heap.size) pa' h.path:=hp1.keep (fun b h1 _=>hk2 b Zo) (fun b h1 h2=>⟨h1,Zo⟩)
 have hd2:=hd.below hb2 (fun b _ h=>h)
 clear c0 c1 c2 c3 c4 c5 c6 c7 c8 c9 c10 f9 hp1 hk2 hd1 hd0 hb1 hA hR hA1 hR1 hbw
 obtain⟨c0,c1,c2,c3,c4,c5,c6,c7,c8,c9,c10⟩:=(CellsAt.of_blk hA2).box
 go_wp2_with fail
 refine(Ls k ia ic _ _ Zo hd2.kids).mono ?_
 rintro e w3 ⟨ia',ic',rfl,hi1,hi2,hb3,hcl⟩
 have hA3:=hA2.below hb3 hA2.lt
 have hR3:=hR2.below hb3 hR2.lt
 have hs3:=hb3.size
 have hlt3:=hA3.lt
 have hlt3':=hR3.lt
 clear c0 c1 c2 c3 c4 c5 c6 c7 c8 c9 c10
 obtain⟨c0,c1,c2,c3,c4,c5,c6,c7,c8,c9,c10⟩:=(CellsAt.of_blk hA3).box
 have f10:=hA3.frozen 10
 go_upto_region 3 with fail
 have hA4:Blk (w3.setCell ⟨w.heap.size,10,none⟩ (.slice ia' k.len ic')) w.heap.size 53 (h.cells pa' pc' ia' k.len ic'):=hA3.set_ 10 (.slice ia' k.len ic')
 have hR4:=hR3.far (p:=⟨w.heap.size,10,none⟩) (by simp) (.slice ia' k.len ic')
 have hk4: ∀b,b≠w.heap.size->(w3.setCell ⟨w.heap.size,10,none⟩ (.slice ia' k.len ic')).heap[b]? =w3.heap[b]? :=fun b hb=>Below.heap_setCell _ _ _ _ hb
 have hz4:(w3.setCell ⟨w.heap.size,10,none⟩ (.slice ia' k.len ic')).heap.size=w3.heap.size:=by simp[World.setCell]
 have hb4:Below w.heap.size w (w3.setCell ⟨w.heap.size,10,none⟩ (.slice ia' k.len ic')):=(A7 hb2 hb3).setCell (Nat.le_refl _) _
 generalize w3.setCell ⟨w.heap.size,10,none⟩ (.slice ia' k.len ic')=w4 at hA4 hR4 hk4 hz4 hb4 ⊢
 have hp4:PathAt w4 (fun b=>w0.heap.size<=b/\b<w2.heap.size) pa' h.path:=hq2.keep (fun b h1 h2=>(hk4 b Zo).trans (hb3.block b h2)) (fun b h1 _=>h1)
 have hkl2:k.len<=9223372036854775807:=by omega
 by_cases hk0:k.len=0
 ·have HK:=Lib.hid hk0
  have gA:=hA4
  have gb:=hb4
  have gR:Hid (∃cs',cs'.size=11/\Blk w4 (w.heap.size+1) 53 cs'):=⟨_,hcs,hR4⟩
  have gp:=hp4
  clear hk0 hcl hA3 hR3 hR2 hA2 hb2 hb3 f10 hd2 c0 c1 c2 c3 c4 c5 c6 c7 c8 c9 c10 hR4 hcs hA4 hb4 hp4 hz2 hz4 hk4 hlt3 hlt3' hlt1 hlt1'
  obtain⟨_,_,_,_,_,_,_,_,_,_,c10⟩:=(CellsAt.of_blk gA).box
  go_wp2_with fail
  clear c10
  go_loopg [17] 0 (fun gk i wr=>i=.int .i64 0/\wr=w4)
  case atStart=>exact⟨rfl,rfl⟩
  case round=>
   obtain⟨rfl,rfl⟩:=hrel
   have hk1:(k.len:Int)<=0:=by have:=HK.out;omega
   have hk2: ¬0<k.len:=by omega
   obtain⟨c0,c1,c2,c3,c4,c5,c6,c7,c8,c9,c10⟩:=(CellsAt.of_blk gA).box
   obtain⟨cs',gR1,gR2⟩:=gR.out
   have hfr:=fun j=>gR2.frozen j
   obtain⟨v0,v1,v2,v3,v4,v5,v6,v7,v8,v9,v10,q0,q1,q2,q3,q4,q5,q6,q7,q8,q9,q10⟩:=gR2.eleven gR1
   have hcs8:CellsAt (wr.setCells (w.heap.size+1) 0 (h.cells pa' pc' ia' k.len ic').toList) (w.heap.size+1) 0 (h.cells pa' pc' ia' k.len ic'):=fun n v hv=>World.rangeAt_setCells_same wr (w.heap.size+1) 0 _ (O3 gR2 (by rw[gR1];simp[Hd.cells])) n v (by simpa using hv)
   have hd8:DatAt (wr.setCells (w.heap.size+1) 0 (h.cells pa' pc' ia' k.len ic').toList) (fun b=>w.heap.size<=b) h k pa' pc' ia' ic':=⟨gp.keep (fun x h1 _=>D9 _ _ _ _ _ Zo) (fun x h1 _=>by omega),hp2,hp3,.inl HK.out,hi1,hi2⟩
   have gb8:Below w.heap.size w (wr.setCells (w.heap.size+1) 0 (h.cells pa' pc' ia' k.len ic').toList):=P2 _ _ _ gb Zo
   go_wp2_with fail
   exact bodyPost_ret (v:=.agg (h.cells pa' pc' ia' k.len ic')) (by simp[results,Tryz.results139,go_sem,q0,q1,q2,q3,q4,q5,q6,q7,q8,q9,q10,Hd.cells]) rfl ⟨pa',pc',ia',ic',rfl,hd8,gb8⟩
 ·obtain⟨g,cur,rfl,hg,hC,hcs2,hfo⟩: ∃g cur,ia'=some ⟨g,0,none⟩/\w2.heap.size<=g/\Blk w3 g 53 cur/\cur.size=ic'*11/\FoAt w3 (fun b=>b<w.heap.size) g 0 k:=by
   rcases hcl with h | h
   ·exact absurd h hk0
   ·exact h
  have hC4:Blk w4 g 53 cur:=(hk4 g Zo).trans hC
  have hHalf:Do0 w4 (fun b=>b<w.heap.size) k g 0:=fun i a b e=>by
   obtain⟨qa,qc,ja,jc,h1,h2⟩:=FoAt.get k g 0 i a b hfo e
   exact⟨qa,qc,ja,jc,by rw[<-Nat.zero_add (i*11)];exact h1.to_blk (hk4 g Zo),by
    rw[if_neg Zo]
    exact h2.keep (fun b h _=>hk4 b Zo) (fun _ h _=>h)⟩
  have hltg:=hC.lt
  obtain⟨w5,rfl⟩: ∃w5:World,w5=w4:=⟨_,rfl⟩
  have hq: ∃cs',cs'.size=11/\Blk w5 (w.heap.size+1) 53 cs':=⟨_,hcs,hR4⟩
  have hp5:PathAt w5 (fun b=>w.heap.size+1<b/\b<g) pa' h.path:=hp4.keep (fun _ _ _=>rfl) (fun b h _=>⟨Zo,Zo⟩)
  have hg1:w.heap.size+1<g:=by omega
  clear hcl hfo hC hk4 hz4 hp4 hq2 hA3 hR3 hR2 hA2 hb2 hb3 f10 hd2 c0 c1 c2 c3 c4 c5 c6 c7 c8 c9 c10 hs3 hlt3 hlt3' hlt1 hlt1' hltA hltR hs1 hz2 hR4 hcs
  have C4:=Lib.hid (show ∃cur,Blk w5 g 53 cur/\cur.size=ic'*11 from⟨cur,hC4,hcs2⟩)
  have HQ:=Lib.hid hq
  obtain⟨_,_,_,_,_,_,_,_,_,_,c10⟩:=(CellsAt.of_blk hA4).box
  clear hq hC4 hcs2
  go_wp2_with fail
  clear c10
  go_loopg [17] k.len (fun gk i wr=> ∃j:Nat,j<=k.len/\i=.int .i64 j/\gk=k.len-j/\Blk wr w.heap.size 53 (h.cells pa' pc' (some ⟨g,0,none⟩) k.len ic')/\Hid (∃cs',cs'.size=11/\Blk wr (w.heap.size+1) 53 cs')/\
   PathAt wr (fun b=>w.heap.size+1<b/\b<g) pa' h.path/\Hid (∃cur,Blk wr g 53 cur/\cur.size=ic'*11)/\Do0 wr (fun b=>b<w.heap.size) k g j/\Below w.heap.size w wr)
  case atStart=>exact⟨0,Zo,rfl,Zo,hA4,HQ,hp5,C4,hHalf,hb4⟩
  case round=>
   obtain⟨j,hj,rfl,rfl,gA,gR,gp,gC,gH,gb⟩:=hrel
   clear hA4 HQ hp5 C4 hHalf hb4
   by_cases hlt:j<k.len
   ·obtain⟨a,b,hget⟩:=Fo.get_lt k j hlt
    obtain⟨qa,qc,ja,jc,hcs,hda⟩:=gH j a b hget
    rw[if_neg Zo] at hda
    obtain⟨d0,d1,d2,d3,d4,d5,d6,d7,d8,d9,d10⟩:=hcs.eleven
    obtain⟨_,_,_,_,_,_,_,_,_,_,c10⟩:=(CellsAt.of_blk gA).box
    have hltN:=gA.lt
    obtain⟨cu,gC1,gC2⟩:=gC.out
    have hltG:=gC1.lt
    have gD1:Blk wr.drew g 53 cu:=gC1
    clear gC
    have HC:=Lib.hid gC2
    have hsz:j*11+11<=cu.size:=by rw[gC2];omega
    have HS:=Lib.hid hsz
    clear gC2 hsz
    have hih:=ih j a b hget wr.drew (fun b=>b<w.heap.size) qa qc ja jc (hda.keep (fun _ _ _=>rfl) (fun _ h _=>h))
    unfold Hd.cells at hih
    have HI:=Lib.hid hih
    have hj0:(0:Int)<=(j:Int):=by omega
    have hj1:(j:Int)<(k.len:Int):=by omega
    clear hih hcs hda
    go_wp2_with fail
    go_region_with
     ((first | (go_at_call 139;refine HI.out.mono ?_;rintro e w6 ⟨qa',qc',ja',jc',rfl,hda',hb6⟩;have hc6: ∀b o,b<wr.heap.size->w6.cell? ⟨b,o,none⟩=wr.cell? ⟨b,o,none⟩:=fun b o h=>hb6.cell (p:=⟨b,o,none⟩) h;have hn10:w6.cell? ⟨w.heap.size,10,none⟩=some (.slice (some ⟨g,0,none⟩) k.len ic'):=(hc6 _ _ hltN).trans c10;have hst:=Ef (gD1.below hb6 hltG) (j*11) a qa' qc' ja' b.len jc' HS.out)))
    all_goals
     have hb7:Below wr.heap.size wr w6:=⟨hb6.os,hb6.tape,hb6.output,hb6.size,hb6.block⟩
     have hB6:=gD1.below hb6 hltG
     have hH:=Ac8 (S0:=fun b=>b<w.heap.size) gH (fun x h=>by omega) hltG hb7 hget hB6 HS.out hda'
     have gA7:Blk (w6.setCells g (j*11) (a.cells qa' qc' ja' b.len jc').toList) w.heap.size 53 (h.cells pa' pc' (some ⟨g,0,none⟩) k.len ic'):=(D9 g _ _ _ _ Zo).trans (gA.below hb7 hltN)
     obtain⟨cs',gR1,gR2⟩:=gR.out
     have gR7:Hid (∃cs',cs'.size=11/\Blk (w6.setCells g (j*11) (a.cells qa' qc' ja' b.len jc').toList) (w.heap.size+1) 53 cs'):=⟨cs',gR1,(D9 g _ _ _ _ Zo).trans (gR2.below hb7 gR2.lt)⟩
     have gp7:PathAt (w6.setCells g (j*11) (a.cells qa' qc' ja' b.len jc').toList) (fun b=>w.heap.size+1<b/\b<g) pa' h.path:=gp.keep (fun x h1 h2=>(D9 g _ _ _ _ Zo).trans (hb7.block x h2)) (fun _ h _=>h)
     have gC7:Hid (∃cur,Blk (w6.setCells g (j*11) (a.cells qa' qc' ja' b.len jc').toList) g 53 cur/\cur.size=ic'*11):=by
      obtain⟨cur',h1,h2⟩:=Ay (a.cells qa' qc' ja' b.len jc').toList (j*11) _ _ hB6
      exact⟨cur',h1,by rw[h2,HC.out]⟩
     have gb7:Below w.heap.size w (w6.setCells g (j*11) (a.cells qa' qc' ja' b.len jc').toList):=P2 _ _ _ (A7 gb hb7) Zo
     generalize w6.setCells g (j*11) (a.cells qa' qc' ja' b.len jc').toList=w7 at hH gA7 gR7 gp7 gC7 gb7 ⊢
     clear hst hc6 hb6 hb7 hB6 gR1 gR2 gH gA gR gp gb gC1 gD1 hda' d0 d1 d2 d3 d4 d5 d6 d7 d8 d9 d10 c10
     go_wp2_with fail
     go_roundg (k.len-(j+1))
     case measure=>omega
     case rel=>exact⟨j+1,Zo,by go_num,rfl,gA7,gR7,gp7,gC7,hH,gb7⟩
   ·have hjl:j=k.len:=by omega
    subst hjl
    obtain⟨c0,c1,c2,c3,c4,c5,c6,c7,c8,c9,c10⟩:=(CellsAt.of_blk gA).box
    obtain⟨cs',gR1,gR2⟩:=gR.out
    have hfr:=fun j=>gR2.frozen j
    obtain⟨v0,v1,v2,v3,v4,v5,v6,v7,v8,v9,v10,q0,q1,q2,q3,q4,q5,q6,q7,q8,q9,q10⟩:=gR2.eleven gR1
    have hcs8:CellsAt (wr.setCells (w.heap.size+1) 0 (h.cells pa' pc' (some ⟨g,0,none⟩) k.len ic').toList) (w.heap.size+1) 0 (h.cells pa' pc' (some ⟨g,0,none⟩) k.len ic'):=fun n v hv=>World.rangeAt_setCells_same wr (w.heap.size+1) 0 _ (O3 gR2 (by rw[gR1];simp[Hd.cells])) n v (by simpa using hv)
    have hd8:DatAt (wr.setCells (w.heap.size+1) 0 (h.cells pa' pc' (some ⟨g,0,none⟩) k.len ic').toList) (fun b=>w.heap.size<=b) h k pa' pc' (some ⟨g,0,none⟩) ic':=by
     refine⟨gp.keep (fun x h1 _=>D9 _ _ _ _ _ Zo) (fun x h1 _=>by omega),hp2,hp3,.inr ⟨g,0,rfl,Zo,FoAt.of_get k g 0 fun i c d e=> ?_⟩,hi1,hi2⟩
     obtain⟨pa2,pc2,ia2,ic2,h1,h2⟩:=gH i c d e
     rw[if_pos (Fo.get_len _ _ _ e)] at h2
     exact⟨pa2,pc2,ia2,ic2,by rw[Nat.zero_add];exact h1.to_blk (D9 _ _ _ _ _ Zo),h2.keep (fun x h1 _=>D9 _ _ _ _ _ (by have:g<x:=h1;omega)) (fun x h1 _=>by have:g<x:=h1;show w.heap.size<=x;omega)⟩
    have gb8:Below w.heap.size w (wr.setCells (w.heap.size+1) 0 (h.cells pa' pc' (some ⟨g,0,none⟩) k.len ic').toList):=P2 _ _ _ gb Zo
    go_wp2_with fail
    exact bodyPost_ret (v:=.agg (h.cells pa' pc' (some ⟨g,0,none⟩) k.len ic')) (by simp[results,Tryz.results139,go_sem,q0,q1,q2,q3,q4,q5,q6,q7,q8,q9,q10,Hd.cells]) rfl ⟨pa',pc',(some ⟨g,0,none⟩),ic',rfl,hd8,gb8⟩
theorem Ic: ∀(f:Fo),f.ok->∀(i:Nat) (a:Hd) (b:Fo),f.get i=some (a,b)->Aq7 a b
 | .nil,_,i,a,b,e=>by simp[Fo.get] at e
 | .cons h k r,o,0,a,b,e=>by
  simp only[Fo.get,Option.some.injEq,Prod.mk.injEq] at e
  obtain⟨rfl,rfl⟩:=e
  exact Qa _ _ o.1 o.2.1 o.2.2.2 (fun i c d e=>Ic k o.2.1 i c d e)
 | .cons h k r,o,i+1,a,b,e=>Ic r o.2.2.1 i a b e
theorem Aq8(h:Hd)(k:Fo)(ho:h.ok)(hk:k.ok)(hl:k.len<=1034834473170):Aq7 h k:=Qa h k ho hk hl (fun i a b e=>Ic k hk i a b e)
set_option maxHeartbeats 400000 in
theorem Lo(w:World):Calls Tryz.prog 118 #[] w fun e w'=>e=.returned (.iface 156 (.pointer (some ⟨w.heap.size,0,none⟩)))/\Blk w' w.heap.size 158 #[.int .i64 1,.int .i64 0,.string emp]/\Below w.heap.size w w':=by
 go_enter Tryz.func118,Tryz.ntmps118
 go_wp2_with fail
 go_ret
 exact⟨rfl,Blk.new _ _ _,bz⟩
set_option maxHeartbeats 400000 in
theorem Ac7(a b:Int)(w:World):Calls Tryz.prog 140 #[.int .u64 a,.int .u64 b] w fun e w'=>e=.returned (.int .u64 (IntKind.u64.wrap (bits .xor .u64 a b*1099511628211)))/\w=w':=by
 go_enter Tryz.func140,Tryz.ntmps140
 go_wp2_with fail
 go_ret
 exact⟨rfl,rfl⟩
end Go.Proofs.YtbjegfpfmnleeaaGreatDoor
