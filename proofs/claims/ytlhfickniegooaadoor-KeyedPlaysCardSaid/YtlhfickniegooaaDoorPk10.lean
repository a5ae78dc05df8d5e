/-
   Written by an AI agent.
-/
import Derived.Test.YtlhfickniegooaaDoorPk09
import Derived.Stop.Asserts
import Derived.Test.YtlhfickniegooaaDoorPk08
import Derived.Test.YtlhfickniegooaaDoorPk01
import Derived.Test.YtlhfickniegooaaDoorPk02
namespace Go.Proofs.YtlhfickniegooaaDoor
open Go.RowKit Go.Sort
def tyO(h:Hd)(k:Fo):Option TypeId:=
 if h.kind=1 then some 150 else if h.kind=2\/h.kind=3 then some 151 else if h.kind=4 then some 152
 else if h.kind=5 then some 153 else if h.kind=6\/h.kind=7 then some 154 else if h.kind=9 then some 155
 else if h.kind=8 then(if heldS h k=emp then some 158 else some 156) else none
def WrongAt(w w':World)(v:Value):Prop:= ∃g,v=.iface 95 (.pointer (some ⟨g,0,none⟩))/\Blk w' g 98 #[.int .i64 1,.int .i64 0,.string emp]/\w.heap.size<=g
def ValAt(w w':World)(h:Hd)(k:Fo)(v:Value):Prop:=match tyO h k with
 | none=>v=.nilIface
 | some t=> ∃pa pc ia ic,v=.iface t (.agg (h.cells pa pc ia k.len ic))/\DatAt w' (fun b=>w.heap.size<=b) h k pa pc ia ic
theorem ValAt.none{w w':World}{h:Hd}{k:Fo}(e:tyO h k=none):ValAt w w' h k .nilIface:=by unfold ValAt;rw[e]
theorem ValAt.some{w w':World}{h:Hd}{k:Fo}{t:TypeId}{pa:Option Addr}{pc:Nat}{ia:Option Addr}{ic:Nat}(e:tyO h k=some t)(d:DatAt w' (fun b=>w.heap.size<=b) h k pa pc ia ic):
  ValAt w w' h k (.iface t (.agg (h.cells pa pc ia k.len ic))):=by unfold ValAt;rw[e];exact⟨_,_,_,_,rfl,d⟩
def OfPost(h:Hd)(k:Fo)(w:World)(e:Ending)(w':World):Prop:=Below w.heap.size w w'/\
 if rightB h k=true then ∃v,e=.returned (.tuple #[v,.nilIface])/\ValAt w w' h k v else ∃v,e=.returned (.tuple #[.nilIface,v])/\WrongAt w w' v
theorem empty_iff(s:ByteArray):s.toList=[]↔s=emp:=by
 rw[Lib.toList_data]
 constructor
 ·intro h;cases s with | mk d=>simp at h;subst h;rfl
 ·rintro rfl;rfl
set_option maxRecDepth 100000 in
set_option maxHeartbeats 4000000 in
theorem of_any(h:Hd)(k:Fo)(ho:h.ok)(hk:k.ok)(hl:k.len<=1034834473170)(w:World)(S:Nat->Prop)(pa:Option Addr)(pc:Nat)(ia:Option Addr)(ic:Nat)(hd:DatAt w S h k pa pc ia ic)(hown:OwnAt w):
  Calls Tryd.prog 50 #[.agg (h.cells pa pc ia k.len ic)] w (OfPost h k w):=by
 unfold Hd.cells
 go_enter Tryd.func50,Tryd.ntmps50
 go_upto_region 0 with fail
 go_cut [0,1] (fun _ t1 wx=>t1=.pointer (some ⟨w.heap.size,0,none⟩)/\Blk wx w.heap.size 31 (h.cells pa pc ia k.len ic)/\Below w.heap.size w wx)
 case first=>
  go_wp2_with fail
  go_meet
  case rel=>exact⟨rfl,Blk.new _ _ _,bz⟩
 case rest=>
 obtain⟨rfl,hA,hbw⟩:=hcut
 obtain⟨w0,rfl⟩: ∃w0:World,w0=wc:=⟨_,rfl⟩
 obtain⟨c0,c1,c2,c3,c4,c5,c6,c7,c8,c9,c10⟩:=(CellsAt.of_blk hA).box
 have hR:=Right_any h k ho hk w0 S pa pc ia ic (hd.below hbw (fun b _ h=>h)) (hown.below hbw (Nat.le_refl _))
 unfold Hd.cells at hR
 have HR:=Lib.hid hR
 clear hR
 go_wp2_with fail
 refine HR.out.mono ?_
 rintro e w1 ⟨rfl,hb1⟩
 have hbw1:=bl_trans hbw hb1
 have hA1:=hA.below hb1 hA.lt
 have hd1:=hd.below hbw1 (fun b _ h=>h)
 clear HR c0 c1 c2 c3 c4 c5 c6 c7 c8 c9 c10 hA hbw hb1
 cases hr:rightB h k
 ·go_wp2_with fail
  refine(wrong_any _).mono ?_
  rintro e w2 ⟨rfl,hg,hb2⟩
  go_wp2_with fail
  go_ret2
  refine⟨bl_trans hbw1 hb2, ?_⟩
  rw[if_neg (by rw[hr];simp)]
  exact⟨_,rfl,_,rfl,hg,hbw1.size⟩
 have HRR:=Lib.hid hr
 clear hr
 obtain⟨c0,c1,c2,c3,c4,c5,c6,c7,c8,c9,c10⟩:=(CellsAt.of_blk hA1).box
 have hT:=twin_any h k ho hk hl w1 S pa pc ia ic hd1
 unfold Hd.cells at hT
 have HT:=Lib.hid hT
 clear hT
 go_upto_region 3 with fail
 go_cut [4,9,10,11] (fun t4 _ _ _ wx=> ∃g pa pc ia ic,t4=.pointer (some ⟨g,0,none⟩)/\Blk wx g 148 (h.cells pa pc ia k.len ic)/\DatAt wx (fun b=>w.heap.size<=b) h k pa pc ia ic/\w.heap.size<=g/\Below w.heap.size w wx/\Below w1.heap.size w1 wx)
 case first=>
  go_wp2_with fail
  refine HT.out.mono ?_
  rintro e w2 ⟨pa',pc',ia',ic',rfl,hd2,hb2⟩
  unfold Hd.cells
  go_wp2_with fail
  go_meet
  case rel=>
   have hs1:=hbw1.size
   have hs2:=hb2.size
   exact⟨_,pa',pc',ia',ic',rfl,Blk.new _ _ _,hd2.keep (fun b _ h=>Below.heap_alloc _ _ _ h) (fun b h _=>Nat.le_trans hs1 h),Nat.le_trans hs1 hs2,bl_alloc (bl_trans hbw1 hb2) _,bl_alloc hb2 _⟩
 case rest=>
 obtain⟨g,qa,qc,ja,jc,rfl,hG,hd4,hgw,hbw4,hb14⟩:=hcut
 obtain⟨w4,rfl⟩: ∃w4:World,w4=wc:=⟨_,rfl⟩
 have hA4:=hA1.below hb14 hA1.lt
 clear c0 c1 c2 c3 c4 c5 c6 c7 c8 c9 c10 HT hA1 hbw1 hb14 hd1
 obtain⟨c0,c1,c2,c3,c4,c5,c6,c7,c8,c9,c10⟩:=(CellsAt.of_blk hA4).box
 obtain⟨d0,d1,d2,d3,d4,d5,d6,d7,d8,d9,d10⟩:=(CellsAt.of_blk hG).box
 by_cases h1:h.kind=1
 ·rw[h1] at c0
  have HV:Hid (OfPost h k w (.returned (.tuple #[.iface (150) (.agg (h.cells qa qc ja k.len jc)),.nilIface])) w4):=⟨hbw4,by rw[if_pos HRR.out];exact⟨_,rfl,ValAt.some (by unfold tyO;simp[h1]) hd4⟩⟩
  unfold Hd.cells at HV
  clear hd4 hbw4 hG hA4 h1
  go_wp2_with fail
  go_ret2
  exact HV.out
 have n1:(h.kind==1)=false:=by simpa using h1
 by_cases h2:h.kind=2
 ·rw[h2] at c0
  have HV:Hid (OfPost h k w (.returned (.tuple #[.iface (151) (.agg (h.cells qa qc ja k.len jc)),.nilIface])) w4):=⟨hbw4,by rw[if_pos HRR.out];exact⟨_,rfl,ValAt.some (by unfold tyO;simp[h2]) hd4⟩⟩
  unfold Hd.cells at HV
  clear hd4 hbw4 hG hA4 h2
  go_wp2_with fail
  go_ret2
  exact HV.out
 have n2:(h.kind==2)=false:=by simpa using h2
 by_cases h3:h.kind=3
 ·rw[h3] at c0
  have HV:Hid (OfPost h k w (.returned (.tuple #[.iface (151) (.agg (h.cells qa qc ja k.len jc)),.nilIface])) w4):=⟨hbw4,by rw[if_pos HRR.out];exact⟨_,rfl,ValAt.some (by unfold tyO;simp[h3]) hd4⟩⟩
  unfold Hd.cells at HV
  clear hd4 hbw4 hG hA4 h3
  go_wp2_with fail
  go_ret2
  exact HV.out
 have n3:(h.kind==3)=false:=by simpa using h3
 by_cases h4:h.kind=4
 ·rw[h4] at c0
  have HV:Hid (OfPost h k w (.returned (.tuple #[.iface (152) (.agg (h.cells qa qc ja k.len jc)),.nilIface])) w4):=⟨hbw4,by rw[if_pos HRR.out];exact⟨_,rfl,ValAt.some (by unfold tyO;simp[h4]) hd4⟩⟩
  unfold Hd.cells at HV
  clear hd4 hbw4 hG hA4 h4
  go_wp2_with fail
  go_ret2
  exact HV.out
 have n4:(h.kind==4)=false:=by simpa using h4
 by_cases h5:h.kind=5
 ·rw[h5] at c0
  have HV:Hid (OfPost h k w (.returned (.tuple #[.iface (153) (.agg (h.cells qa qc ja k.len jc)),.nilIface])) w4):=⟨hbw4,by rw[if_pos HRR.out];exact⟨_,rfl,ValAt.some (by unfold tyO;simp[h5]) hd4⟩⟩
  unfold Hd.cells at HV
  clear hd4 hbw4 hG hA4 h5
  go_wp2_with fail
  go_ret2
  exact HV.out
 have n5:(h.kind==5)=false:=by simpa using h5
 by_cases h6:h.kind=6
 ·rw[h6] at c0
  have HV:Hid (OfPost h k w (.returned (.tuple #[.iface (154) (.agg (h.cells qa qc ja k.len jc)),.nilIface])) w4):=⟨hbw4,by rw[if_pos HRR.out];exact⟨_,rfl,ValAt.some (by unfold tyO;simp[h6]) hd4⟩⟩
  unfold Hd.cells at HV
  clear hd4 hbw4 hG hA4 h6
  go_wp2_with fail
  go_ret2
  exact HV.out
 have n6:(h.kind==6)=false:=by simpa using h6
 by_cases h7:h.kind=7
 ·rw[h7] at c0
  have HV:Hid (OfPost h k w (.returned (.tuple #[.iface (154) (.agg (h.cells qa qc ja k.len jc)),.nilIface])) w4):=⟨hbw4,by rw[if_pos HRR.out];exact⟨_,rfl,ValAt.some (by unfold tyO;simp[h7]) hd4⟩⟩
  unfold Hd.cells at HV
  clear hd4 hbw4 hG hA4 h7
  go_wp2_with fail
  go_ret2
  exact HV.out
 have n7:(h.kind==7)=false:=by simpa using h7
 by_cases h9:h.kind=9
 ·rw[h9] at c0
  have HV:Hid (OfPost h k w (.returned (.tuple #[.iface (155) (.agg (h.cells qa qc ja k.len jc)),.nilIface])) w4):=⟨hbw4,by rw[if_pos HRR.out];exact⟨_,rfl,ValAt.some (by unfold tyO;simp[h9]) hd4⟩⟩
  unfold Hd.cells at HV
  clear hd4 hbw4 hG hA4 h9
  go_wp2_with fail
  go_ret2
  exact HV.out
 have n9:(h.kind==9)=false:=by simpa using h9
 by_cases h8:h.kind=8
 ·rw[h8] at c0
  have hH:=held_any h k ho hk w4 S pa pc ia ic (hd.below hbw4 (fun b _ h=>h))
  unfold Hd.cells at hH
  rw[h8] at hH
  have HH:=Lib.hid hH
  have HT:Hid (∀w5,Below w4.heap.size w4 w5->heldS h k=emp->OfPost h k w (.returned (.tuple #[.iface 158 (.agg (h.cells qa qc ja k.len jc)),.nilIface])) w5):=fun w5 hb e=>
   ⟨bl_trans hbw4 hb,by rw[if_pos HRR.out];exact⟨_,rfl,ValAt.some (by unfold tyO;simp[h8,e]) (hd4.below hb (fun _ _ h=>h))⟩⟩
  have HF:Hid (∀w5,Below w4.heap.size w4 w5->heldS h k≠emp->OfPost h k w (.returned (.tuple #[.iface 156 (.agg (h.cells qa qc ja k.len jc)),.nilIface])) w5):=fun w5 hb e=>
   ⟨bl_trans hbw4 hb,by rw[if_pos HRR.out];exact⟨_,rfl,ValAt.some (by unfold tyO;simp[h8,e]) (hd4.below hb (fun _ _ h=>h))⟩⟩
  unfold Hd.cells at HT HF
  have hG1:=hG.lt
  clear hH hd4 hbw4 hA4 h8
  generalize heldS h k=sb at HH HT HF
  go_wp2_with fail
  refine HH.out.mono ?_
  rintro e w5 ⟨rfl,hb5⟩
  have hG5:=hG.below hb5 hG1
  clear HH hG c0 c1 c2 c3 c4 c5 c6 c7 c8 c9 c10 d0 d1 d2 d3 d4 d5 d6 d7 d8 d9 d10
  obtain⟨d0,d1,d2,d3,d4,d5,d6,d7,d8,d9,d10⟩:=(CellsAt.of_blk hG5).box
  go_wp2_with fail
  ·go_ret2
   exact HT.out _ hb5 ((empty_iff _).1 (by simp_all))
  ·go_ret2
   exact HF.out _ hb5 (fun e=>by have:=(empty_iff _).2 e;simp_all)
 have n8:(h.kind==8)=false:=by simpa using h8
 have HV:Hid (OfPost h k w (.returned (.tuple #[.nilIface,.nilIface])) w4):=⟨hbw4,by rw[if_pos HRR.out];exact⟨_,rfl,ValAt.none (by unfold tyO;simp[h1,h2,h3,h4,h5,h6,h7,h8,h9])⟩⟩
 clear hd4 hbw4 hG hA4 h1 h2 h3 h4 h5 h6 h7 h8 h9
 go_wp2_with fail
 go_ret2
 exact HV.out
end Go.Proofs.YtlhfickniegooaaDoor

namespace Go.Proofs.YtlhfickniegooaaDoor
open Go.RowKit Go.Sort
theorem tyO_cases(h:Hd)(k:Fo):tyO h k=none\/tyO h k=some 150\/tyO h k=some 151\/tyO h k=some 152\/tyO h k=some 153\/
  tyO h k=some 154\/tyO h k=some 155\/tyO h k=some 158\/tyO h k=some 156:=by
 unfold tyO
 split
 ·simp
 split
 ·simp
 split
 ·simp
 split
 ·simp
 split
 ·simp
 split
 ·simp
 split
 ·split<;>simp
 ·simp
def ValTy(t:TypeId):Prop:=t=150\/t=151\/t=152\/t=153\/t=154\/t=155\/t=158\/t=156
theorem tyO_val{h:Hd}{k:Fo}{t:TypeId}(e:tyO h k=some t):ValTy t:=by
 have:=tyO_cases h k
 rw[e] at this
 simpa[ValTy] using this
def keyedT(t:TypeId):Bool:=t==150||t==151||t==152||t==155||t==158
theorem assert_keyed{t:TypeId}(ht:ValTy t)(v:Value)(w:World):(Instr.typeAssert (.iface t v) 126 130 true).run Tryd.prog w=.ok (.tuple #[if keyedT t then .iface t v else .nilIface,.bool (keyedT t)]) w:=by
 rcases ht with rfl | rfl | rfl | rfl | rfl | rfl | rfl | rfl<;>
 first
  | exact run_typeAssert_hasB Tryd.underlying130 (by kernel_rfl) v _ w
  | exact run_typeAssert_lacksB Tryd.underlying130 (by kernel_rfl) (by kernel_rfl) v _ w
theorem assert_keyed_nil(w:World):(Instr.typeAssert .nilIface 126 130 true).run Tryd.prog w=.ok (.tuple #[.nilIface,.bool false]) w:=by kernel_rfl
section
variable (a0 a1 a2 a3 a4 a5 a6 a7 a8 a9 a10:Value) (w:World)
theorem truth_hash:(callMethod (.iface 150 (.agg #[a0,a1,a2,a3,a4,a5,a6,a7,a8,a9,a10])) "Hash" #[]).run Tryd.prog w=.ok (.enter 109 #[.agg #[a0,a1,a2,a3,a4,a5,a6,a7,a8,a9,a10]]) w:=by kernel_rfl
theorem figure_hash:(callMethod (.iface 151 (.agg #[a0,a1,a2,a3,a4,a5,a6,a7,a8,a9,a10])) "Hash" #[]).run Tryd.prog w=.ok (.enter 110 #[.agg #[a0,a1,a2,a3,a4,a5,a6,a7,a8,a9,a10]]) w:=by kernel_rfl
theorem letter_hash:(callMethod (.iface 152 (.agg #[a0,a1,a2,a3,a4,a5,a6,a7,a8,a9,a10])) "Hash" #[]).run Tryd.prog w=.ok (.enter 111 #[.agg #[a0,a1,a2,a3,a4,a5,a6,a7,a8,a9,a10]]) w:=by kernel_rfl
theorem arrow_hash:(callMethod (.iface 155 (.agg #[a0,a1,a2,a3,a4,a5,a6,a7,a8,a9,a10])) "Hash" #[]).run Tryd.prog w=.ok (.enter 114 #[.agg #[a0,a1,a2,a3,a4,a5,a6,a7,a8,a9,a10]]) w:=by kernel_rfl
theorem filed_hash:(callMethod (.iface 158 (.agg #[a0,a1,a2,a3,a4,a5,a6,a7,a8,a9,a10])) "Hash" #[]).run Tryd.prog w=.ok (.enter 115 #[.agg #[a0,a1,a2,a3,a4,a5,a6,a7,a8,a9,a10]]) w:=by kernel_rfl
end
end Go.Proofs.YtlhfickniegooaaDoor

namespace Go.Proofs.YtlhfickniegooaaDoor
open Go.RowKit Go.Sort
def cmpW:ByteArray:=⟨#[99,111,109,112,97,114,101]⟩
def keyW:ByteArray:=⟨#[107,101,121]⟩
def FaultAt(w w':World)(v:Value)(word more:ByteArray):Prop:= ∃g,v=.iface 68 (.pointer (some ⟨g,0,none⟩))/\Blk w' g 71 #[.string word,.string more]/\w.heap.size<=g
theorem FaultAt.keep{w w1 w2:World}{v:Value}{a b:ByteArray}(h:FaultAt w w1 v a b)(hb:Below w1.heap.size w1 w2):FaultAt w w2 v a b:=by
 obtain⟨g,h1,h2,h3⟩:=h
 exact⟨g,h1,h2.below hb h2.lt,h3⟩
theorem WrongAt.keep{w w1 w2:World}{v:Value}(h:WrongAt w w1 v)(hb:Below w1.heap.size w1 w2):WrongAt w w2 v:=by
 obtain⟨g,h1,h2,h3⟩:=h
 exact⟨g,h1,h2.below hb h2.lt,h3⟩
theorem WrongAt.from{w0 w w1:World}{v:Value}(h:WrongAt w w1 v)(hb:w0.heap.size<=w.heap.size):WrongAt w0 w1 v:=by
 obtain⟨g,h1,h2,h3⟩:=h
 exact⟨g,h1,h2,Nat.le_trans hb h3⟩
theorem FaultAt.from{w0 w w1:World}{v:Value}{a b:ByteArray}(h:FaultAt w w1 v a b)(hb:w0.heap.size<=w.heap.size):FaultAt w0 w1 v a b:=by
 obtain⟨g,h1,h2,h3⟩:=h
 exact⟨g,h1,h2,Nat.le_trans hb h3⟩
def EqualPost(h:Hd)(k:Fo)(h':Hd)(k':Fo)(w:World)(e:Ending)(w':World):Prop:=Below w.heap.size w w'/\∃b v,e=.returned (.tuple #[.bool b,v])/\
 if(rightB h k&&rightB h' k')=true then b=(if(equalD h k h' k').2=emp then(equalD h k h' k').1 else false)/\(if(equalD h k h' k').2=emp then v=.nilIface else FaultAt w w' v cmpW (equalD h k h' k').2) else b=false/\WrongAt w w' v
set_option maxRecDepth 100000 in
set_option maxHeartbeats 4000000 in
theorem Equal_any(h:Hd)(k:Fo)(h':Hd)(k':Fo)(ho:h.ok)(hk:k.ok)(ho':h'.ok)(hk':k'.ok)(w:World)(S T:Nat->Prop)(pa:Option Addr)(pc:Nat)(ia:Option Addr)(ic:Nat)(pa':Option Addr)(pc':Nat)(ia':Option Addr)(ic':Nat)
  (hd:DatAt w S h k pa pc ia ic) (hd':DatAt w T h' k' pa' pc' ia' ic') (hown:OwnAt w):
  Calls Tryd.prog 25 #[.agg (h.cells pa pc ia k.len ic),.agg (h'.cells pa' pc' ia' k'.len ic')] w (EqualPost h k h' k' w):=by
 unfold Hd.cells
 go_enter Tryd.func25,Tryd.ntmps25
 go_upto_region 0 with fail
 go_cut [0,1,2,3] (fun _ _ t2 t3 wx=>t2=.pointer (some ⟨w.heap.size,0,none⟩)/\t3=.pointer (some ⟨w.heap.size+1,0,none⟩)/\Blk wx w.heap.size 31 (h.cells pa pc ia k.len ic)/\Blk wx (w.heap.size+1) 31 (h'.cells pa' pc' ia' k'.len ic')/\Below w.heap.size w wx)
 case first=>
  go_wp2_with fail
  go_meet
  case rel=>exact⟨rfl,rfl,(Blk.new _ _ _).alloc _,Blk.new1 _ _ _ _,bz⟩
 case rest=>
 obtain⟨rfl,rfl,hA,hB,hbw⟩:=hcut
 obtain⟨w0,rfl⟩: ∃w0:World,w0=wc:=⟨_,rfl⟩
 go_upto_region 1 with fail
 go_cut [15] (fun t wx=>t=.bool (!(rightB h k&&rightB h' k'))/\Below w0.heap.size w0 wx)
 case first=>
  as_aux_lemma=>
   have hR:=Right_any h k ho hk w0 S pa pc ia ic (hd.below hbw (fun b _ h=>h)) (hown.below hbw (Nat.le_refl _))
   unfold Hd.cells at hR
   have HR:=Lib.hid hR
   clear hR
   obtain⟨c0,c1,c2,c3,c4,c5,c6,c7,c8,c9,c10⟩:=(CellsAt.of_blk hA).box
   obtain⟨d0,d1,d2,d3,d4,d5,d6,d7,d8,d9,d10⟩:=(CellsAt.of_blk hB).box
   go_wp2_with fail
   refine HR.out.mono ?_
   rintro e w1 ⟨rfl,hb1⟩
   have hR':=Right_any h' k' ho' hk' w1 T pa' pc' ia' ic' (hd'.below (bl_trans hbw hb1) (fun b _ h=>h)) (hown.below (bl_trans hbw hb1) (Nat.le_refl _))
   unfold Hd.cells at hR'
   have HR':=Lib.hid hR'
   have hB1:=hB.below hb1 hB.lt
   clear hR' HR c0 c1 c2 c3 c4 c5 c6 c7 c8 c9 c10 d0 d1 d2 d3 d4 d5 d6 d7 d8 d9 d10
   obtain⟨d0,d1,d2,d3,d4,d5,d6,d7,d8,d9,d10⟩:=(CellsAt.of_blk hB1).box
   cases hr:rightB h k
   ·go_wp2_with fail
    go_meet
    case rel=>exact⟨by rw[hr];rfl,hb1⟩
   ·go_wp2_with fail
    refine HR'.out.mono ?_
    rintro e w2 ⟨rfl,hb2⟩
    go_wp2_with fail
    go_meet
    case rel=>exact⟨by rw[hr];simp,bl_trans hb1 hb2⟩
 case rest=>
 obtain⟨rfl,hb1⟩:=hcut
 obtain⟨w1,rfl⟩: ∃w1:World,w1=wc:=⟨_,rfl⟩
 have hbw1:=bl_trans hbw hb1
 have hA1:=hA.below hb1 hA.lt
 have hB1:=hB.below hb1 hB.lt
 clear hA hB hb1 hbw
 cases hr:(rightB h k&&rightB h' k')
 ·go_wp2_with fail
  refine(wrong_any _).mono ?_
  rintro e w2 ⟨rfl,hg,hb2⟩
  go_wp2_with fail
  go_ret2
  refine⟨bl_trans hbw1 hb2,_,_,rfl, ?_⟩
  rw[if_neg (by rw[hr];simp)]
  exact⟨rfl,_,rfl,hg,hbw1.size⟩
 have HRR:=Lib.hid hr
 clear hr
 obtain⟨c0,c1,c2,c3,c4,c5,c6,c7,c8,c9,c10⟩:=(CellsAt.of_blk hA1).box
 obtain⟨d0,d1,d2,d3,d4,d5,d6,d7,d8,d9,d10⟩:=(CellsAt.of_blk hB1).box
 have hE:=equal_any h k h' k' ho hk ho' hk' w1 S T pa pc ia ic pa' pc' ia' ic' (hd.below hbw1 (fun _ _ h=>h)) (hd'.below hbw1 (fun _ _ h=>h))
 unfold Hd.cells at hE
 have HE:=Lib.hid hE
 clear hE
 have HP:Hid (∀w' b v,Below w.heap.size w w'->(b=(if(equalD h k h' k').2=emp then(equalD h k h' k').1 else false))->(if(equalD h k h' k').2=emp then v=.nilIface else FaultAt w w' v cmpW (equalD h k h' k').2)->EqualPost h k h' k' w (.returned (.tuple #[.bool b,v])) w'):=fun w' b v hb e f=>
  ⟨hb,b,v,rfl,by rw[if_pos HRR.out];exact⟨e,f⟩⟩
 generalize equalD h k h' k'=q at HE HP
 obtain⟨qb,qs⟩:=q
 go_wp2_with fail
 refine HE.out.mono ?_
 rintro e w2 ⟨rfl,hb2⟩
 clear HE c0 c1 c2 c3 c4 c5 c6 c7 c8 c9 c10 d0 d1 d2 d3 d4 d5 d6 d7 d8 d9 d10
 have hbw2:=bl_trans hbw1 hb2
 go_wp2_with fail
 ·go_ret2
  have he:qs≠emp:=fun e=>by have:=(empty_iff _).2 e;simp_all
  exact HP.out _ _ _ (bl_alloc hbw2 _) (by rw[if_neg he]) (by rw[if_neg he];exact⟨_,rfl,Blk.new _ _ _,hbw2.size⟩)
 ·go_ret2
  have he:qs=emp:=(empty_iff _).1 (by simp_all)
  exact HP.out _ _ _ hbw2 (by rw[if_pos he]) (by rw[if_pos he];rfl)
def keyB(h:Hd)(k:Fo):Bool:=match tyO h k with | none=>true | some t=>keyedT t
def KeyV(h:Hd)(k:Fo)(w w':World)(v:Value):Prop:=if rightB h k=true then(if keyB h k=true then v=.nilIface else FaultAt w w' v keyW (heldS h k)) else WrongAt w w' v
def KeyPost(h:Hd)(k:Fo)(w:World)(e:Ending)(w':World):Prop:=Below w.heap.size w w'/\∃v,e=.returned v/\KeyV h k w w' v
set_option maxRecDepth 100000 in
set_option maxHeartbeats 4000000 in
theorem key_any(h:Hd)(k:Fo)(ho:h.ok)(hk:k.ok)(hl:k.len<=1034834473170)(w:World)(S:Nat->Prop)(pa:Option Addr)(pc:Nat)(ia:Option Addr)(ic:Nat)(hd:DatAt w S h k pa pc ia ic)(hown:OwnAt w):
  Calls Tryd.prog 34 #[.agg (h.cells pa pc ia k.len ic)] w (KeyPost h k w):=by
 unfold Hd.cells
 go_enter Tryd.func34,Tryd.ntmps34
 go_upto_region 0 with fail
 go_cut [0,1] (fun _ t1 wx=>t1=.pointer (some ⟨w.heap.size,0,none⟩)/\Blk wx w.heap.size 31 (h.cells pa pc ia k.len ic)/\Below w.heap.size w wx)
 case first=>
  go_wp2_with fail
  go_meet
  case rel=>exact⟨rfl,Blk.new _ _ _,bz⟩
 case rest=>
 obtain⟨rfl,hA,hbw⟩:=hcut
 obtain⟨w0,rfl⟩: ∃w0:World,w0=wc:=⟨_,rfl⟩
 obtain⟨c0,c1,c2,c3,c4,c5,c6,c7,c8,c9,c10⟩:=(CellsAt.of_blk hA).box
 have hO:=of_any h k ho hk hl w0 S pa pc ia ic (hd.below hbw (fun b _ h=>h)) (hown.below hbw (Nat.le_refl _))
 unfold Hd.cells at hO
 have HO:=Lib.hid hO
 clear hO
 go_wp2_with fail
 refine HO.out.mono ?_
 rintro e w1 ⟨hb1,he⟩
 have hbw1:=bl_trans hbw hb1
 have hA1:=hA.below hb1 hA.lt
 have hd1:=hd.below hbw1 (fun b _ h=>h)
 clear HO c0 c1 c2 c3 c4 c5 c6 c7 c8 c9 c10 hA hb1
 by_cases hr:rightB h k=true
 ·rw[if_pos hr] at he
  obtain⟨v,rfl,hv⟩:=he
  have HRR:=Lib.hid hr
  cases et:tyO h k with
  | none=>
   unfold ValAt at hv
   rw[et] at hv
   subst hv
   have HK:Hid (keyB h k=true):=by unfold Hid keyB;rw[et]
   have hn:=assert_keyed_nil
   go_wp2_with fail
   go_ret
   exact⟨hbw1,_,rfl,by unfold KeyV;rw[if_pos HRR.out,if_pos HK.out];rfl⟩
  | some t=>
   unfold ValAt at hv
   rw[et] at hv
   obtain⟨qa,qc,ja,jc,rfl,_⟩:=hv
   have ht:=tyO_val et
   have hn:=assert_keyed ht
   cases hkt:keyedT t<;>rw[hkt] at hn
   ·have HK:Hid (keyB h k=false):=by unfold Hid keyB;rw[et];exact hkt
    have hH:=held_any h k ho hk w1 S pa pc ia ic hd1
    unfold Hd.cells at hH
    have HH:=Lib.hid hH
    obtain⟨c0,c1,c2,c3,c4,c5,c6,c7,c8,c9,c10⟩:=(CellsAt.of_blk hA1).box
    clear hH hkt
    go_wp2_with fail
    refine HH.out.mono ?_
    rintro e w2 ⟨rfl,hb2⟩
    go_wp2_with fail
    go_ret
    refine⟨bl_alloc (bl_trans hbw1 hb2) _,_,rfl, ?_⟩
    unfold KeyV
    rw[if_pos HRR.out,if_neg (by rw[HK.out];simp)]
    exact⟨_,rfl,Blk.new _ _ _,(bl_trans hbw1 hb2).size⟩
   ·have HK:Hid (keyB h k=true):=by unfold Hid keyB;rw[et];exact hkt
    go_wp2_with fail
    go_ret
    exact⟨hbw1,_,rfl,by unfold KeyV;rw[if_pos HRR.out,if_pos HK.out];rfl⟩
 ·rw[if_neg hr] at he
  obtain⟨v,rfl,g,rfl,hv⟩:=he
  have HRR:=Lib.hid hr
  clear hr
  go_wp2_with fail
  go_ret
  exact⟨hbw1,_,rfl,by unfold KeyV;rw[if_neg HRR.out];exact⟨g,rfl,hv.1,Nat.le_trans hbw.size hv.2⟩⟩
end Go.Proofs.YtlhfickniegooaaDoor

namespace Go.Proofs.YtlhfickniegooaaDoor
open Go.RowKit Go.Sort
def hd0:Hd:=⟨0,emp,0,0,emp,0,0,0,0,[]⟩
theorem hd0_ok:hd0.ok:=by constructor<;>simp[hd0,emp,okInt,ByteArray.size]
theorem hd0_at(w:World):DatAt w (fun _=>False) hd0 .nil none 0 none 0:=⟨Or.inl rfl,Nat.le_refl _,capOk.nil,Or.inl rfl,Nat.le_refl _,capOk.nil⟩
def hashV(h:Hd)(k:Fo):Int:=match tyO h k with | none=>hashD hd0 .nil | some _=>hashD h k
def HashPost(h:Hd)(k:Fo)(w:World)(e:Ending)(w':World):Prop:=Below w.heap.size w w'/\∃n v,e=.returned (.tuple #[.int .u64 n,v])/\KeyV h k w w' v/\n=if(rightB h k&&keyB h k)=true then hashV h k else 0
set_option maxRecDepth 100000 in
set_option maxHeartbeats 4000000 in
theorem Hash_any(h:Hd)(k:Fo)(ho:h.ok)(hk:k.ok)(hl:k.len<=1034834473170)(w:World)(S:Nat->Prop)(pa:Option Addr)(pc:Nat)(ia:Option Addr)(ic:Nat)(hd:DatAt w S h k pa pc ia ic)(hown:OwnAt w):
  Calls Tryd.prog 35 #[.agg (h.cells pa pc ia k.len ic)] w (HashPost h k w):=by
 unfold Hd.cells
 go_enter Tryd.func35,Tryd.ntmps35
 go_upto_region 0 with fail
 go_cut [0,1] (fun _ t1 wx=>t1=.pointer (some ⟨w.heap.size,0,none⟩)/\Blk wx w.heap.size 31 (h.cells pa pc ia k.len ic)/\Below w.heap.size w wx)
 case first=>
  go_wp2_with fail
  go_meet
  case rel=>exact⟨rfl,Blk.new _ _ _,bz⟩
 case rest=>
 obtain⟨rfl,hA,hbw⟩:=hcut
 obtain⟨w0,rfl⟩: ∃w0:World,w0=wc:=⟨_,rfl⟩
 obtain⟨c0,c1,c2,c3,c4,c5,c6,c7,c8,c9,c10⟩:=(CellsAt.of_blk hA).box
 have hO:=key_any h k ho hk hl w0 S pa pc ia ic (hd.below hbw (fun b _ h=>h)) (hown.below hbw (Nat.le_refl _))
 unfold Hd.cells at hO
 have HO:=Lib.hid hO
 clear hO
 go_wp2_with fail
 refine HO.out.mono ?_
 rintro e w1 ⟨hb1,v,rfl,hv⟩
 have hbw1:=bl_trans hbw hb1
 have hA1:=hA.below hb1 hA.lt
 clear HO c0 c1 c2 c3 c4 c5 c6 c7 c8 c9 c10 hA hb1
 by_cases hr:(rightB h k&&keyB h k)=true
 ·have hr1:rightB h k=true:=by revert hr;cases rightB h k<;>simp
  have hr2:keyB h k=true:=by revert hr;cases keyB h k<;>simp
  unfold KeyV at hv
  rw[if_pos hr1,if_pos hr2] at hv
  subst hv
  have HR1:=Lib.hid hr1
  have HP:Hid (∀w',Below w.heap.size w w'->HashPost h k w (.returned (.tuple #[.int .u64 (hashV h k),.nilIface])) w'):=fun w' hb=>
   ⟨hb,_,_,rfl,by unfold KeyV;rw[if_pos hr1,if_pos hr2],by rw[if_pos hr]⟩
  obtain⟨c0,c1,c2,c3,c4,c5,c6,c7,c8,c9,c10⟩:=(CellsAt.of_blk hA1).box
  have hO:=of_any h k ho hk hl w1 S pa pc ia ic (hd.below hbw1 (fun b _ h=>h)) (hown.below hbw1 (Nat.le_refl _))
  unfold Hd.cells at hO
  have HO:=Lib.hid hO
  clear hO hr hr1
  go_wp2_with fail
  refine HO.out.mono ?_
  rintro e w2 ⟨hb2,he⟩
  rw[if_pos HR1.out] at he
  obtain⟨v,rfl,hv⟩:=he
  have hbw2:=bl_trans hbw1 hb2
  clear HO c0 c1 c2 c3 c4 c5 c6 c7 c8 c9 c10
  cases et:tyO h k with
  | none=>
   unfold ValAt at hv
   rw[et] at hv
   subst hv
   have HV:Hid (hashV h k=hashD hd0 .nil):=by unfold Hid hashV;rw[et]
   have hn:=assert_keyed_nil
   have hh:=hash_any hd0 .nil hd0_ok trivial (by simp[Fo.len]) w2 (fun _=>False) none 0 none 0 (hd0_at w2)
   unfold Hd.cells hd0 emp at hh
   simp only[List.length_nil,Fo.len] at hh
   have HH:=Lib.hid hh
   clear hh
   go_wp2_with fail
   refine HH.out.mono ?_
   rintro e w3 ⟨rfl,hb3⟩
   go_wp2_with fail
   go_ret2
   have:=HP.out _ (bl_trans hbw2 hb3)
   rw[HV.out] at this
   exact this
  | some t=>
   unfold ValAt at hv
   rw[et] at hv
   obtain⟨qa,qc,ja,jc,rfl,hdv⟩:=hv
   have ht:=tyO_val et
   have HV:Hid (hashV h k=hashD h k):=by unfold Hid hashV;rw[et]
   have hkt:keyedT t=true:=by unfold keyB at hr2;rw[et] at hr2;exact hr2
   have hn:=assert_keyed ht
   rw[hkt] at hn
   rcases ht with rfl | rfl | rfl | rfl | rfl | rfl | rfl | rfl<;>try (exact absurd hkt (by decide))
   ·have hm:=truth_hash
    have hh:=truthHash_any h k ho hk hl w2 _ qa qc ja jc hdv
    unfold Hd.cells at hh ⊢
    have HH:=Lib.hid hh
    clear hh hkt
    go_wp2_with fail
    refine HH.out.mono ?_
    rintro e w3 ⟨rfl,hb3⟩
    go_wp2_with fail
    go_ret2
    have:=HP.out _ (bl_trans hbw2 hb3)
    rw[HV.out] at this
    exact this
   ·have hm:=figure_hash
    have hh:=figureHash_any h k ho hk hl w2 _ qa qc ja jc hdv
    unfold Hd.cells at hh ⊢
    have HH:=Lib.hid hh
    clear hh hkt
    go_wp2_with fail
    refine HH.out.mono ?_
    rintro e w3 ⟨rfl,hb3⟩
    go_wp2_with fail
    go_ret2
    have:=HP.out _ (bl_trans hbw2 hb3)
    rw[HV.out] at this
    exact this
   ·have hm:=letter_hash
    have hh:=letterHash_any h k ho hk hl w2 _ qa qc ja jc hdv
    unfold Hd.cells at hh ⊢
    have HH:=Lib.hid hh
    clear hh hkt
    go_wp2_with fail
    refine HH.out.mono ?_
    rintro e w3 ⟨rfl,hb3⟩
    go_wp2_with fail
    go_ret2
    have:=HP.out _ (bl_trans hbw2 hb3)
    rw[HV.out] at this
    exact this
   ·have hm:=arrow_hash
    have hh:=arrowHash_any h k ho hk hl w2 _ qa qc ja jc hdv
    unfold Hd.cells at hh ⊢
    have HH:=Lib.hid hh
    clear hh hkt
    go_wp2_with fail
    refine HH.out.mono ?_
    rintro e w3 ⟨rfl,hb3⟩
    go_wp2_with fail
    go_ret2
    have:=HP.out _ (bl_trans hbw2 hb3)
    rw[HV.out] at this
    exact this
   ·have hm:=filed_hash
    have hh:=filedHash_any h k ho hk hl w2 _ qa qc ja jc hdv
    unfold Hd.cells at hh ⊢
    have HH:=Lib.hid hh
    clear hh hkt
    go_wp2_with fail
    refine HH.out.mono ?_
    rintro e w3 ⟨rfl,hb3⟩
    go_wp2_with fail
    go_ret2
    have:=HP.out _ (bl_trans hbw2 hb3)
    rw[HV.out] at this
    exact this
 ·have HE:Hid (∀w' v,Below w.heap.size w w'->KeyV h k w w' v->HashPost h k w (.returned (.tuple #[.int .u64 0,v])) w'):=fun w' v hb hv=>
   ⟨hb,_,_,rfl,hv,by rw[if_neg hr]⟩
  have HKV:=Lib.hid hv
  have hif: ∃t g,v=.iface t (.pointer (some ⟨g,0,none⟩)):=by
   unfold KeyV at hv
   split at hv
   ·rename_i h1
    split at hv
    ·rename_i h2
     exact absurd (by rw[h1,h2];rfl) hr
    ·obtain⟨g,rfl,_⟩:=hv;exact⟨_,_,rfl⟩
   ·obtain⟨g,rfl,_⟩:=hv;exact⟨_,_,rfl⟩
  obtain⟨t,g,rfl⟩:=hif
  clear hr hv
  go_wp2_with fail
  go_ret2
  refine HE.out _ _ hbw1 ?_
  have:=HKV.out
  unfold KeyV at this ⊢
  split at this
  ·rename_i h1
   rw[if_pos h1]
   split at this
   ·cases this
   ·rename_i h2;rw[if_neg h2];exact this.from hbw.size
  ·rename_i h1
   rw[if_neg h1]
   exact this.from hbw.size
end Go.Proofs.YtlhfickniegooaaDoor

namespace Go.Proofs.YtlhfickniegooaaDoor
def cntF:Fo->Nat
 | .nil=>0
 | .cons _ k r=>1+cntF k+cntF r
def okF:Fo->Bool
 | .nil=>true
 | .cons h k r=>headB h k.len&&okF k&&okF r
theorem rightF_ok: ∀(f:Fo) (n:Int),0<=n->(rightF f n).1=(okF f&&decide ((cntF f:Int)<=n))/\((rightF f n).1=true->(rightF f n).2=n-cntF f)
 | .nil,n,h=>by simp[rightF,okF,cntF,h]
 | .cons h k r,n,hn=>by
  rw[rightF,okF,cntF]
  by_cases h1:n-1<0
  ·rw[if_pos h1]
   refine⟨?_,fun e=>by cases e⟩
   rw[decide_eq_false (by omega)];simp
  rw[if_neg h1]
  by_cases h2:headB h k.len=false
  ·rw[if_pos h2,h2]
   exact⟨by simp,fun e=>by cases e⟩
  rw[if_neg h2]
  have h2':headB h k.len=true:=by revert h2;cases headB h k.len<;>simp
  have ik:=rightF_ok k (n-1) (by omega)
  by_cases h3:(rightF k (n-1)).1=true
  ·rw[if_pos h3]
   have e2:=ik.2 h3
   have e1:=ik.1
   rw[h3] at e1
   have e1':=e1.symm
   rw[Bool.and_eq_true,decide_eq_true_iff] at e1'
   have ir:=rightF_ok r (rightF k (n-1)).2 (by rw[e2];omega)
   refine⟨?_,fun e=> ?_⟩
   ·rw[ir.1,h2',e1'.1,e2]
    simp only[Bool.true_and]
    congr 1
    rw[decide_eq_decide]
    omega
   ·rw[ir.2 e,e2];omega
  ·rw[if_neg h3]
   refine⟨?_,fun e=>by cases e⟩
   have h3':(rightF k (n-1)).1=false:=by revert h3;cases (rightF k (n-1)).1<;>simp
   have e1:=ik.1
   rw[h3'] at e1
   by_cases ho:okF k=true
   ·rw[ho] at e1
    simp only[Bool.true_and] at e1
    have:=of_decide_eq_false e1.symm
    rw[decide_eq_false (show ¬((1+cntF k+cntF r:Nat):Int)<=n by omega)];simp
   ·have:okF k=false:=by revert ho;cases okF k<;>simp
    simp[this]
def sizeF:Fo->Int->Int
 | .nil,n=>n
 | .cons h k r,n=>if 100<n then n else sizeF r (n+(if h.kind≠8 then 1 else if 100<k.len then 101 else if 100<sizeF k 1 then 101 else sizeF k 1))
def sizeD(h:Hd)(k:Fo):Int:=if h.kind≠8 then 1 else if 100<k.len then 101 else if 100<sizeF k 1 then 101 else sizeF k 1
theorem sizeF_cons(h:Hd)(k r:Fo)(n:Int):sizeF (.cons h k r) n=if 100<n then n else sizeF r (n+sizeD h k):=by rw[sizeF];rfl
theorem headB_kids{h:Hd}{n:Nat}(hh:headB h n=true):(h.kind≠8->n=0)/\n<=30:=by
 simp only[headB,Bool.and_eq_true,decide_eq_true_iff] at hh
 exact⟨fun h8=>by have:=hh.1.2;omega,hh.2⟩
theorem sizeD_range: ∀(h:Hd) (k:Fo),(∀n,1<=n->1<=sizeF k n)->1<=sizeD h k/\sizeD h k<=101:=by
 intro h k hk
 unfold sizeD
 have:=hk 1 (Int.le_refl _)
 split<;>(try split)<;>(try split)<;>omega
theorem sizeF_pos: ∀(f:Fo) (n:Int),1<=n->1<=sizeF f n
 | .nil,n,h=>h
 | .cons h k r,n,hn=>by
  rw[sizeF_cons]
  have:=sizeD_range h k (sizeF_pos k)
  split
  ·omega
  ·exact sizeF_pos r _ (by omega)
theorem sizeF_big: ∀(f:Fo) (n:Int),100<n->sizeF f n=n
 | .nil,n,h=>rfl
 | .cons h k r,n,hn=>by rw[sizeF_cons,if_pos hn]
theorem sizeF_ok: ∀(f:Fo) (n:Int),1<=n->okF f=true->(n+cntF f<=100->sizeF f n=n+cntF f)/\(100<n+cntF f->100<sizeF f n)
 | .nil,n,h,_=>by
  have h0:cntF .nil=0:=rfl
  have h1:sizeF .nil n=n:=rfl
  rw[h0,h1]
  exact⟨fun _=>by omega,fun _=>by omega⟩
 | .cons h k r,n,hn,ho=>by
  simp only[okF,Bool.and_eq_true] at ho
  obtain⟨⟨hh,hok⟩,hor⟩:=ho
  have hk:=headB_kids hh
  have ik:=sizeF_ok k 1 (by omega) hok
  rw[sizeF_cons]
  have h0:cntF (.cons h k r)=1+cntF k+cntF r:=rfl
  rw[h0]
  by_cases h1:100<n
  ·rw[if_pos h1];exact⟨fun _=>by omega,fun _=>h1⟩
  rw[if_neg h1]
  have hs:sizeD h k=if 1+cntF k<=100 then(1+cntF k:Int) else 101:=by
   unfold sizeD
   by_cases h8:h.kind≠8
   ·have:=Fo.len_eq_zero k (hk.1 h8)
    subst this
    rw[if_pos h8];rfl
   ·rw[if_neg h8,if_neg (by omega)]
    by_cases hc:1+cntF k<=100
    ·have e:=ik.1 (by omega)
     rw[if_pos hc,if_neg (by omega),e]
    ·have e:=ik.2 (by omega)
     rw[if_neg hc,if_pos e]
  rw[hs]
  by_cases hc:1+cntF k<=100
  ·rw[if_pos hc]
   have ir:=sizeF_ok r (n+(1+cntF k)) (by omega) hor
   exact⟨fun h=>by rw[ir.1 (by omega)];omega,fun h=>ir.2 (by omega)⟩
  ·rw[if_neg hc,sizeF_big r _ (by omega)]
   exact⟨fun _=>by omega,fun _=>by omega⟩
def rrF:Int->Fo->Bool
 | _,.nil=>true
 | d,.cons h k r=>(decide (d<=100)&&headB h k.len&&rrF (d+1) k)&&rrF d r
def rrD(d:Int)(h:Hd)(k:Fo):Bool:=decide (d<=100)&&headB h k.len&&rrF (d+1) k
theorem rrF_cons(d:Int)(h:Hd)(k r:Fo):rrF d (.cons h k r)=(rrD d h k&&rrF d r):=by rw[rrF];rfl
theorem rrF_no: ∀(f:Fo) (d:Int),okF f=false->rrF d f=false
 | .nil,d,h=>by simp[okF] at h
 | .cons h k r,d,e=>by
  rw[rrF_cons,rrD]
  simp only[okF] at e
  by_cases h1:headB h k.len=true
  ·by_cases h2:okF k=true
   ·rw[h1,h2] at e
    rw[rrF_no r d (by simpa using e)];simp
   ·rw[rrF_no k (d+1) (by revert h2;cases okF k<;>simp)];simp
  ·have:headB h k.len=false:=by revert h1;cases headB h k.len<;>simp
   rw[this];simp
theorem rrF_yes: ∀(f:Fo) (d:Int),okF f=true->d+cntF f<=101->rrF d f=true
 | .nil,d,h,_=>rfl
 | .cons h k r,d,e,hd=>by
  rw[rrF_cons,rrD]
  simp only[okF,Bool.and_eq_true] at e
  simp only[cntF] at hd
  rw[e.1.1,rrF_yes k (d+1) e.1.2 (by omega),rrF_yes r d e.2 (by omega),decide_eq_true (by omega)];rfl
def refRight(h:Hd)(k:Fo):Bool:=decide (sizeD h k<=100)&&rrD 1 h k
theorem right_law(h:Hd)(k:Fo):rightB h k=refRight h k:=by
 unfold rightB refRight rrD rightD
 rw[if_neg (by decide),decide_eq_true (show(1:Int)<=100 by decide),Bool.true_and]
 by_cases h1:headB h k.len=false
 ·rw[if_pos h1,h1];simp
 rw[if_neg h1]
 have h1':headB h k.len=true:=by revert h1;cases headB h k.len<;>simp
 rw[h1',Bool.true_and,(rightF_ok k (100-1) (by decide)).1]
 by_cases h2:okF k=true
 ·rw[h2,Bool.true_and]
  have hk:=headB_kids h1'
  have ik:=sizeF_ok k 1 (by omega) h2
  unfold sizeD
  by_cases h8:h.kind≠8
  ·have:=Fo.len_eq_zero k (hk.1 h8)
   subst this
   rw[if_pos h8];simp[cntF,rrF]
  ·rw[if_neg h8,if_neg (by omega)]
   by_cases hc:1+cntF k<=100
   ·have ik:=ik.1 (by omega)
    rw[if_neg (by omega),ik,rrF_yes k _ h2 (by omega),decide_eq_true (by omega),decide_eq_true (by omega)];rfl
   ·have ik:=ik.2 (by omega)
    rw[if_pos ik,decide_eq_false (by omega),decide_eq_false (by omega)];rfl
 ·have h2':okF k=false:=by revert h2;cases okF k<;>simp
  rw[h2',rrF_no k _ h2'];simp
end Go.Proofs.YtlhfickniegooaaDoor

namespace Go.Proofs.YtlhfickniegooaaDoor
open Go.RowKit Go.Sort
set_option maxHeartbeats 400000 in
theorem rnone_any(o f l c:Int)(pa:Option Addr)(pl pc:Nat)(w:World):
  Calls Tryd.prog 87 #[.agg #[.int .i64 o,.int .i64 f,.int .i64 l,.int .i64 c,.slice pa pl pc]] w
   fun e w'=>e=.returned (.bool (plainB o f l c pl))/\Below w.heap.size w w':=by
 go_enter Tryd.func87,Tryd.ntmps87
 go_wp2
 all_goals
  go_ret
  refine⟨?_,bz⟩
  simp[plainB, *,nz]
def rplainB(h:Hd)(k:Nat)(n f s r t:Bool):Bool:=(n||decide (h.n=0))&&(f||decide (h.f=0))&&(s||h.s.toList.isEmpty)&&(r||plainB h.obj h.frm h.len h.cap h.path.length)&&(t||decide (k=0))
theorem rempty_iff(s:ByteArray):s.toList.isEmpty=decide (s.size=0):=by
 by_cases h:s.toList=[]
 ·rw[h,decide_eq_true (size_zero s h)];rfl
 ·rw[decide_eq_false (size_pos s h)];simpa using h
def oneOf(n f s r t:Bool):Prop:=(n=false/\f=false/\s=false/\r=false/\t=false)\/(n=true/\f=false/\s=false/\r=false/\t=false)\/(n=false/\f=true/\s=false/\r=false/\t=false)\/
 (n=false/\f=false/\s=true/\r=false/\t=false)\/(n=false/\f=false/\s=false/\r=true/\t=false)\/(n=false/\f=false/\s=false/\r=false/\t=true)
set_option maxRecDepth 100000 in
set_option maxHeartbeats 4000000 in
theorem rplain_any(h:Hd)(k:Nat)(pa:Option Addr)(pc:Nat)(ia:Option Addr)(ic:Nat)(n f s r t:Bool)(hc:oneOf n f s r t)(w:World):
  Calls Tryd.prog 80 #[.agg (h.cells pa pc ia k ic),.bool n,.bool f,.bool s,.bool r,.bool t] w fun e w'=>e=.returned (.bool (rplainB h k n f s r t))/\Below w.heap.size w w':=by
 unfold Hd.cells
 have hse:=rempty_iff h.s
 have HS:=Lib.hid hse
 clear hse
 rcases hc with⟨rfl,rfl,rfl,rfl,rfl⟩ | ⟨rfl,rfl,rfl,rfl,rfl⟩ | ⟨rfl,rfl,rfl,rfl,rfl⟩ | ⟨rfl,rfl,rfl,rfl,rfl⟩ | ⟨rfl,rfl,rfl,rfl,rfl⟩ | ⟨rfl,rfl,rfl,rfl,rfl⟩
 all_goals
  go_enter Tryd.func80,Tryd.ntmps80
  go_wp2_with (go_at_call 87;refine(rnone_any _ _ _ _ _ _ _ _).mono ?_;rintro e w1 ⟨rfl,hb1⟩;obtain⟨hc1,hf1⟩:=bcell hb1)
 all_goals
  go_ret
  refine⟨ret_bool ?_,bz⟩
  simp[rplainB,nz, *]
end Go.Proofs.YtlhfickniegooaaDoor

namespace Go.Proofs.YtlhfickniegooaaDoor
open Go.RowKit Go.Sort
def namesC:Array Value:=#[.string ⟨#[98,111,111,108]⟩,.string ⟨#[105,110,116]⟩,.string ⟨#[102,108,111,97,116]⟩,.string ⟨#[116,101,120,116]⟩,.string ⟨#[108,105,115,116]⟩,.string ⟨#[109,97,112]⟩,.string ⟨#[102,117,110,99]⟩]
def names7:List ByteArray:=[⟨#[98,111,111,108]⟩,⟨#[105,110,116]⟩,⟨#[102,108,111,97,116]⟩,⟨#[116,101,120,116]⟩,⟨#[108,105,115,116]⟩,⟨#[109,97,112]⟩,⟨#[102,117,110,99]⟩]
def names3:List ByteArray:=[⟨#[97,110,121]⟩,⟨#[110,105,108]⟩,⟨#[115,116,114,117,99,116]⟩]
theorem rown_any(w:World):Calls Tryd.prog 88 #[] w fun e w'=>e=.returned (.slice (some ⟨w.heap.size,0,none⟩) 7 7)/\w.alloc (.cells namesC 9)=w':=by
 go_enter Tryd.func88,Tryd.ntmps88
 go_wp2_with fail
 go_ret
 exact⟨rfl,rfl⟩
theorem info_str:(Tryd.prog.info? 9).map (fun i=>(i.zero,i.size,i.bytes))=some (some (.string ⟨#[]⟩),1,16):=by kernel_rfl
theorem own_strs{w:World}{B n:Nat}{v:Value}{l:List ByteArray}(h:w.ownsRow B 9 1 v n (l.map Value.string)): ∃pa pc,v=.slice pa l.length pc/\StrsAt w pa l/\l.length<=pc/\pc<=9223372036854775807:=by
 have hn:n=l.length:=by have:=h.1;simpa using this.symm
 subst hn
 rcases h.2 with⟨rfl,h0⟩ | ⟨g,cap,cur,rfl,hg,hh,hc,hm,hs,ht⟩
 ·exact⟨none,0,by rw[h0],.inl (List.eq_nil_of_length_eq_zero h0),by omega,by omega⟩
 ·refine⟨_,cap,rfl,.inr ⟨g,0,rfl,fun j x hx=> ?_⟩,hc,by unfold maxLen at hm;exact hm⟩
  rw[cell_of_row w g _ cur _ _ hh,Nat.zero_add]
  have h1:(cur.toList.take (l.length*1))[j]? =some (.string x):=by rw[ht];simp[hx]
  rw[List.getElem?_take] at h1
  split at h1
  ·simpa using h1
  ·cases h1
def charB(c:Int):Bool:=decide ((97<=c/\c<=122)\/(65<=c/\c<=90)\/(48<=c/\c<=57)\/c=95)
def firstB(s:ByteArray):Bool:=decide (s.size≠0/\s.size<=40)&&(match s.data.toList with | []=>false | b::_=>decide ((b.toNat:Int)<48\/57<(b.toNat:Int)))
def charsB(l:List UInt8):Bool:=l.all fun b=>charB (b.toNat:Int)
def names10:List ByteArray:=names7++names3
def noneOf(s:ByteArray)(l:List ByteArray):Bool:=l.all fun x=>decide (s≠x)
set_option maxRecDepth 100000 in
theorem char_bad: ∀b:Fin 256,charB (b.val:Int)= !(!digB (b.val:Int)&& !letB (b.val:Int)&&decide ((b.val:Int)≠95)):=by decide+kernel
theorem good_tail: ∀(l:List UInt8) (i:Nat),0<i->goodB i l=charsB l
 | [],_,_=>rfl
 | b::r,i,hi=>by
  have h:=char_bad ⟨b.toNat,by have:=b.toNat_lt;omega⟩
  simp only at h
  rw[goodB,good_tail r (i+1) (by omega)]
  unfold charsB
  rw[List.all_cons,h,badB,decide_eq_false (show ¬i=0 by omega)]
  simp
theorem good_head(b:UInt8)(r:List UInt8):goodB 0 (b::r)=(decide ((b.toNat:Int)<48\/57<(b.toNat:Int))&&charsB (b::r)):=by
 have h:=char_bad ⟨b.toNat,by have:=b.toNat_lt;omega⟩
 simp only at h
 rw[goodB,good_tail r 1 (by omega)]
 show _=(_&&List.all _ _)
 rw[List.all_cons,h,badB,digB]
 by_cases hd:48<=(b.toNat:Int)/\(b.toNat:Int)<=57
 ·rw[decide_eq_true hd,decide_eq_false (show ¬((b.toNat:Int)<48\/57<(b.toNat:Int)) by omega)];simp
 ·rw[decide_eq_false hd,decide_eq_true (show((b.toNat:Int)<48\/57<(b.toNat:Int)) by omega)];simp[charsB]
theorem decl_law(s:ByteArray):declB s=(firstB s&&charsB s.data.toList&&noneOf s names10):=by
 have hn:noneOf s names10=(!memB s ownL&& !memB s [⟨#[97,110,121]⟩,⟨#[115,116,114,117,99,116]⟩]):=by
  unfold noneOf names10 names7 names3 memB ownL
  rw[Bool.eq_iff_iff]
  simp
  grind
 rw[hn,declB,firstB]
 cases hl:s.data.toList with
 | nil=>
  have:s.size=0:=by
   have:=congrArg List.length hl
   simpa using this
  simp[this]
 | cons b r=>
  rw[good_head]
  simp only[<-Bool.and_assoc]
  rw[Bool.eq_iff_iff]
  simp only[Bool.and_eq_true]
  grind
end Go.Proofs.YtlhfickniegooaaDoor
