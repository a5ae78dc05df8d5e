/-
   Written by an AI agent.
-/
import Derived.Test.YtbjegfpfmnleeaaGreatDoorQw08
import Derived.Stop.Asserts
import Derived.Test.YtbjegfpfmnleeaaGreatDoorQw07
import Derived.Test.YtbjegfpfmnleeaaGreatDoorQw01
import Derived.Test.YtbjegfpfmnleeaaGreatDoorQw02
import Derived.Deep.CutBlock
namespace Go.Proofs.YtbjegfpfmnleeaaGreatDoor
open Go.RowKit Go.Sort
def tyO(h:Hd)(k:Fo):Option TypeId:=
 if h.kind=1 then some 230 else if h.kind=2\/h.kind=3 then some 231 else if h.kind=4 then some 232
 else if h.kind=5 then some 233 else if h.kind=6\/h.kind=7 then some 234 else if h.kind=9 then some 235
 else if h.kind=8 then(if heldS h k=emp then some 238 else some 236) else none
def WrongAt(w w':World)(v:Value):Prop:= ∃g,v=.iface 156 (.pointer (some ⟨g,0,none⟩))/\Blk w' g 158 #[.int .i64 1,.int .i64 0,.string emp]/\w.heap.size<=g
def ValAt(w w':World)(h:Hd)(k:Fo)(v:Value):Prop:=match tyO h k with
 | none=>v=.nilIface
 | some t=> ∃pa pc ia ic,v=.iface t (.agg (h.cells pa pc ia k.len ic))/\DatAt w' (fun b=>w.heap.size<=b) h k pa pc ia ic
theorem ValAt.none{w w':World}{h:Hd}{k:Fo}(e:tyO h k=none):ValAt w w' h k .nilIface:=by unfold ValAt;rw[e]
theorem ValAt.some{w w':World}{h:Hd}{k:Fo}{t:TypeId}{pa:Option Addr}{pc:Nat}{ia:Option Addr}{ic:Nat}(e:tyO h k=some t)(d:DatAt w' (fun b=>w.heap.size<=b) h k pa pc ia ic):
  ValAt w w' h k (.iface t (.agg (h.cells pa pc ia k.len ic))):=by unfold ValAt;rw[e];exact⟨_,_,_,_,rfl,d⟩
def OfPost(h:Hd)(k:Fo)(w:World)(e:Ending)(w':World):Prop:=Below w.heap.size w w'/\
 if rightB h k=true then ∃v,e=.returned (.tuple #[v,.nilIface])/\ValAt w w' h k v else ∃v,e=.returned (.tuple #[.nilIface,v])/\WrongAt w w' v
theorem empty_iff(s:ByteArray):s.toList=[]↔s=emp:=by
 rw[Lib.toList_data]
 constructor
 ·intro h;cases s with | mk d=>simp at h;subst h;rfl
 ·rintro rfl;rfl
set_option maxRecDepth 100000 in
set_option maxHeartbeats 4000000 in
theorem of_any(h:Hd)(k:Fo)(ho:h.ok)(hk:k.ok)(hl:k.len<=1034834473170)(w:World)(S:Nat->Prop)(pa:Option Addr)(pc:Nat)(ia:Option Addr)(ic:Nat)(hd:DatAt w S h k pa pc ia ic)(hown:OwnAt w):
  Calls Tryz.prog 127 #[.agg (h.cells pa pc ia k.len ic)] w (OfPost h k w):=by
 unfold Hd.cells
 go_enter Tryz.func127,Tryz.ntmps127
 go_upto_region 0 with fail
 go_cut [0,1] (fun _ t1 wx=>t1=.pointer (some ⟨w.heap.size,0,none⟩)/\Blk wx w.heap.size 53 (h.cells pa pc ia k.len ic)/\Below w.heap.size w wx)
 case first=>
  go_wp2_with fail
  go_meet
  case rel=>exact⟨rfl,Blk.new _ _ _,bz⟩
 case rest=>
 obtain⟨rfl,hA,hbw⟩:=hcut
 obtain⟨w0,rfl⟩: ∃w0:World,w0=wc:=⟨_,rfl⟩
 obtain⟨c0,c1,c2,c3,c4,c5,c6,c7,c8,c9,c10⟩:=(CellsAt.of_blk hA).box
 have hR:=Right_any h k ho hk w0 S pa pc ia ic (hd.below hbw (fun b _ h=>h)) (hown.below hbw (Nat.le_refl _))
 unfold Hd.cells at hR
 have HR:=Lib.hid hR
 clear hR
 go_wp2_with fail
 refine HR.out.mono ?_
 rintro e w1 ⟨rfl,hb1⟩
 have hbw1:=bl_trans hbw hb1
 have hA1:=hA.below hb1 hA.lt
 have hd1:=hd.below hbw1 (fun b _ h=>h)
 clear HR c0 c1 c2 c3 c4 c5 c6 c7 c8 c9 c10 hA hbw hb1
 cases hr:rightB h k
 ·go_wp2_with fail
  refine(wrong_any _).mono ?_
  rintro e w2 ⟨rfl,hg,hb2⟩
  go_wp2_with fail
  go_ret2
  refine⟨bl_trans hbw1 hb2, ?_⟩
  rw[if_neg (by rw[hr];simp)]
  exact⟨_,rfl,_,rfl,hg,hbw1.size⟩
 have HRR:=Lib.hid hr
 clear hr
 obtain⟨c0,c1,c2,c3,c4,c5,c6,c7,c8,c9,c10⟩:=(CellsAt.of_blk hA1).box
 have hT:=twin_any h k ho hk hl w1 S pa pc ia ic hd1
 unfold Hd.cells at hT
 have HT:=Lib.hid hT
 clear hT
 go_upto_region 3 with fail
 go_cut [4,9,10,11] (fun t4 _ _ _ wx=> ∃g pa pc ia ic,t4=.pointer (some ⟨g,0,none⟩)/\Blk wx g 228 (h.cells pa pc ia k.len ic)/\DatAt wx (fun b=>w.heap.size<=b) h k pa pc ia ic/\w.heap.size<=g/\Below w.heap.size w wx/\Below w1.heap.size w1 wx)
 case first=>
  go_wp2_with fail
  refine HT.out.mono ?_
  rintro e w2 ⟨pa',pc',ia',ic',rfl,hd2,hb2⟩
  unfold Hd.cells
  go_wp2_with fail
  go_meet
  case rel=>
   have hs1:=hbw1.size
   have hs2:=hb2.size
   exact⟨_,pa',pc',ia',ic',rfl,Blk.new _ _ _,hd2.keep (fun b _ h=>Below.heap_alloc _ _ _ h) (fun b h _=>Nat.le_trans hs1 h),Nat.le_trans hs1 hs2,bl_alloc (bl_trans hbw1 hb2) _,bl_alloc hb2 _⟩
 case rest=>
 obtain⟨g,qa,qc,ja,jc,rfl,hG,hd4,hgw,hbw4,hb14⟩:=hcut
 obtain⟨w4,rfl⟩: ∃w4:World,w4=wc:=⟨_,rfl⟩
 have hA4:=hA1.below hb14 hA1.lt
 clear c0 c1 c2 c3 c4 c5 c6 c7 c8 c9 c10 HT hA1 hbw1 hb14 hd1
 obtain⟨c0,c1,c2,c3,c4,c5,c6,c7,c8,c9,c10⟩:=(CellsAt.of_blk hA4).box
 obtain⟨d0,d1,d2,d3,d4,d5,d6,d7,d8,d9,d10⟩:=(CellsAt.of_blk hG).box
 by_cases h1:h.kind=1
 ·rw[h1] at c0
  have HV:Hid (OfPost h k w (.returned (.tuple #[.iface (230) (.agg (h.cells qa qc ja k.len jc)),.nilIface])) w4):=⟨hbw4,by rw[if_pos HRR.out];exact⟨_,rfl,ValAt.some (by unfold tyO;simp[h1]) hd4⟩⟩
  unfold Hd.cells at HV
  clear hd4 hbw4 hG hA4 h1
  go_wp2_with fail
  go_ret2
  exact HV.out
 have n1:(h.kind==1)=false:=by simpa using h1
 by_cases h2:h.kind=2
 ·rw[h2] at c0
  have HV:Hid (OfPost h k w (.returned (.tuple #[.iface (231) (.agg (h.cells qa qc ja k.len jc)),.nilIface])) w4):=⟨hbw4,by rw[if_pos HRR.out];exact⟨_,rfl,ValAt.some (by unfold tyO;simp[h2]) hd4⟩⟩
  unfold Hd.cells at HV
  clear hd4 hbw4 hG hA4 h2
  go_wp2_with fail
  go_ret2
  exact HV.out
 have n2:(h.kind==2)=false:=by simpa using h2
 by_cases h3:h.kind=3
 ·rw[h3] at c0
  have HV:Hid (OfPost h k w (.returned (.tuple #[.iface (231) (.agg (h.cells qa qc ja k.len jc)),.nilIface])) w4):=⟨hbw4,by rw[if_pos HRR.out];exact⟨_,rfl,ValAt.some (by unfold tyO;simp[h3]) hd4⟩⟩
  unfold Hd.cells at HV
  clear hd4 hbw4 hG hA4 h3
  go_wp2_with fail
  go_ret2
  exact HV.out
 have n3:(h.kind==3)=false:=by simpa using h3
 by_cases h4:h.kind=4
 ·rw[h4] at c0
  have HV:Hid (OfPost h k w (.returned (.tuple #[.iface (232) (.agg (h.cells qa qc ja k.len jc)),.nilIface])) w4):=⟨hbw4,by rw[if_pos HRR.out];exact⟨_,rfl,ValAt.some (by unfold tyO;simp[h4]) hd4⟩⟩
  unfold Hd.cells at HV
  clear hd4 hbw4 hG hA4 h4
  go_wp2_with fail
  go_ret2
  exact HV.out
 have n4:(h.kind==4)=false:=by simpa using h4
 by_cases h5:h.kind=5
 ·rw[h5] at c0
  have HV:Hid (OfPost h k w (.returned (.tuple #[.iface (233) (.agg (h.cells qa qc ja k.len jc)),.nilIface])) w4):=⟨hbw4,by rw[if_pos HRR.out];exact⟨_,rfl,ValAt.some (by unfold tyO;simp[h5]) hd4⟩⟩
  unfold Hd.cells at HV
  clear hd4 hbw4 hG hA4 h5
  go_wp2_with fail
  go_ret2
  exact HV.out
 have n5:(h.kind==5)=false:=by simpa using h5
 by_cases h6:h.kind=6
 ·rw[h6] at c0
  have HV:Hid (OfPost h k w (.returned (.tuple #[.iface (234) (.agg (h.cells qa qc ja k.len jc)),.nilIface])) w4):=⟨hbw4,by rw[if_pos HRR.out];exact⟨_,rfl,ValAt.some (by unfold tyO;simp[h6]) hd4⟩⟩
  unfold Hd.cells at HV
  clear hd4 hbw4 hG hA4 h6
  go_wp2_with fail
  go_ret2
  exact HV.out
 have n6:(h.kind==6)=false:=by simpa using h6
 by_cases h7:h.kind=7
 ·rw[h7] at c0
  have HV:Hid (OfPost h k w (.returned (.tuple #[.iface (234) (.agg (h.cells qa qc ja k.len jc)),.nilIface])) w4):=⟨hbw4,by rw[if_pos HRR.out];exact⟨_,rfl,ValAt.some (by unfold tyO;simp[h7]) hd4⟩⟩
  unfold Hd.cells at HV
  clear hd4 hbw4 hG hA4 h7
  go_wp2_with fail
  go_ret2
  exact HV.out
 have n7:(h.kind==7)=false:=by simpa using h7
 by_cases h9:h.kind=9
 ·rw[h9] at c0
  have HV:Hid (OfPost h k w (.returned (.tuple #[.iface (235) (.agg (h.cells qa qc ja k.len jc)),.nilIface])) w4):=⟨hbw4,by rw[if_pos HRR.out];exact⟨_,rfl,ValAt.some (by unfold tyO;simp[h9]) hd4⟩⟩
  unfold Hd.cells at HV
  clear hd4 hbw4 hG hA4 h9
  go_wp2_with fail
  go_ret2
  exact HV.out
 have n9:(h.kind==9)=false:=by simpa using h9
 by_cases h8:h.kind=8
 ·rw[h8] at c0
  have hH:=held_any h k ho hk w4 S pa pc ia ic (hd.below hbw4 (fun b _ h=>h))
  unfold Hd.cells at hH
  rw[h8] at hH
  have HH:=Lib.hid hH
  have HT:Hid (∀w5,Below w4.heap.size w4 w5->heldS h k=emp->OfPost h k w (.returned (.tuple #[.iface 238 (.agg (h.cells qa qc ja k.len jc)),.nilIface])) w5):=fun w5 hb e=>
   ⟨bl_trans hbw4 hb,by rw[if_pos HRR.out];exact⟨_,rfl,ValAt.some (by unfold tyO;simp[h8,e]) (hd4.below hb (fun _ _ h=>h))⟩⟩
  have HF:Hid (∀w5,Below w4.heap.size w4 w5->heldS h k≠emp->OfPost h k w (.returned (.tuple #[.iface 236 (.agg (h.cells qa qc ja k.len jc)),.nilIface])) w5):=fun w5 hb e=>
   ⟨bl_trans hbw4 hb,by rw[if_pos HRR.out];exact⟨_,rfl,ValAt.some (by unfold tyO;simp[h8,e]) (hd4.below hb (fun _ _ h=>h))⟩⟩
  unfold Hd.cells at HT HF
  have hG1:=hG.lt
  clear hH hd4 hbw4 hA4 h8
  generalize heldS h k=sb at HH HT HF
  go_wp2_with fail
  refine HH.out.mono ?_
  rintro e w5 ⟨rfl,hb5⟩
  have hG5:=hG.below hb5 hG1
  clear HH hG c0 c1 c2 c3 c4 c5 c6 c7 c8 c9 c10 d0 d1 d2 d3 d4 d5 d6 d7 d8 d9 d10
  obtain⟨d0,d1,d2,d3,d4,d5,d6,d7,d8,d9,d10⟩:=(CellsAt.of_blk hG5).box
  go_wp2_with fail
  ·go_ret2
   exact HT.out _ hb5 ((empty_iff _).1 (by simp_all))
  ·go_ret2
   exact HF.out _ hb5 (fun e=>by have:=(empty_iff _).2 e;simp_all)
 have n8:(h.kind==8)=false:=by simpa using h8
 have HV:Hid (OfPost h k w (.returned (.tuple #[.nilIface,.nilIface])) w4):=⟨hbw4,by rw[if_pos HRR.out];exact⟨_,rfl,ValAt.none (by unfold tyO;simp[h1,h2,h3,h4,h5,h6,h7,h8,h9])⟩⟩
 clear hd4 hbw4 hG hA4 h1 h2 h3 h4 h5 h6 h7 h8 h9
 go_wp2_with fail
 go_ret2
 exact HV.out
end Go.Proofs.YtbjegfpfmnleeaaGreatDoor

namespace Go.Proofs.YtbjegfpfmnleeaaGreatDoor
open Go.RowKit Go.Sort
theorem tyO_cases(h:Hd)(k:Fo):tyO h k=none\/tyO h k=some 230\/tyO h k=some 231\/tyO h k=some 232\/tyO h k=some 233\/
  tyO h k=some 234\/tyO h k=some 235\/tyO h k=some 238\/tyO h k=some 236:=by
 unfold tyO
 split
 ·simp
 split
 ·simp
 split
 ·simp
 split
 ·simp
 split
 ·simp
 split
 ·simp
 split
 ·split<;>simp
 ·simp
def ValTy(t:TypeId):Prop:=t=230\/t=231\/t=232\/t=233\/t=234\/t=235\/t=238\/t=236
theorem tyO_val{h:Hd}{k:Fo}{t:TypeId}(e:tyO h k=some t):ValTy t:=by
 have:=tyO_cases h k
 rw[e] at this
 simpa[ValTy] using this
def keyedT(t:TypeId):Bool:=t==230||t==231||t==232||t==235||t==238
theorem assert_keyed{t:TypeId}(ht:ValTy t)(v:Value)(w:World):(Instr.typeAssert (.iface t v) 210 214 true).run Tryz.prog w=.ok (.tuple #[if keyedT t then .iface t v else .nilIface,.bool (keyedT t)]) w:=by
 rcases ht with rfl | rfl | rfl | rfl | rfl | rfl | rfl | rfl<;>
 first
  | exact run_typeAssert_hasB Tryz.underlying214 (by kernel_rfl) v _ w
  | exact run_typeAssert_lacksB Tryz.underlying214 (by kernel_rfl) (by kernel_rfl) v _ w
theorem assert_keyed_nil(w:World):(Instr.typeAssert .nilIface 210 214 true).run Tryz.prog w=.ok (.tuple #[.nilIface,.bool false]) w:=by kernel_rfl
section
variable (a0 a1 a2 a3 a4 a5 a6 a7 a8 a9 a10:Value) (w:World)
theorem truth_hash:(callMethod (.iface 230 (.agg #[a0,a1,a2,a3,a4,a5,a6,a7,a8,a9,a10])) "Hash" #[]).run Tryz.prog w=.ok (.enter 181 #[.agg #[a0,a1,a2,a3,a4,a5,a6,a7,a8,a9,a10]]) w:=by kernel_rfl
theorem figure_hash:(callMethod (.iface 231 (.agg #[a0,a1,a2,a3,a4,a5,a6,a7,a8,a9,a10])) "Hash" #[]).run Tryz.prog w=.ok (.enter 182 #[.agg #[a0,a1,a2,a3,a4,a5,a6,a7,a8,a9,a10]]) w:=by kernel_rfl
theorem letter_hash:(callMethod (.iface 232 (.agg #[a0,a1,a2,a3,a4,a5,a6,a7,a8,a9,a10])) "Hash" #[]).run Tryz.prog w=.ok (.enter 183 #[.agg #[a0,a1,a2,a3,a4,a5,a6,a7,a8,a9,a10]]) w:=by kernel_rfl
theorem arrow_hash:(callMethod (.iface 235 (.agg #[a0,a1,a2,a3,a4,a5,a6,a7,a8,a9,a10])) "Hash" #[]).run Tryz.prog w=.ok (.enter 186 #[.agg #[a0,a1,a2,a3,a4,a5,a6,a7,a8,a9,a10]]) w:=by kernel_rfl
theorem filed_hash:(callMethod (.iface 238 (.agg #[a0,a1,a2,a3,a4,a5,a6,a7,a8,a9,a10])) "Hash" #[]).run Tryz.prog w=.ok (.enter 187 #[.agg #[a0,a1,a2,a3,a4,a5,a6,a7,a8,a9,a10]]) w:=by kernel_rfl
end
end Go.Proofs.YtbjegfpfmnleeaaGreatDoor

namespace Go.Proofs.YtbjegfpfmnleeaaGreatDoor
open Go.RowKit Go.Sort
def cmpW:ByteArray:=⟨#[99,111,109,112,97,114,101]⟩
def keyW:ByteArray:=⟨#[107,101,121]⟩
def FaultAt(w w':World)(v:Value)(word more:ByteArray):Prop:= ∃g,v=.iface 173 (.pointer (some ⟨g,0,none⟩))/\Blk w' g 175 #[.string word,.string more]/\w.heap.size<=g
theorem FaultAt.keep{w w1 w2:World}{v:Value}{a b:ByteArray}(h:FaultAt w w1 v a b)(hb:Below w1.heap.size w1 w2):FaultAt w w2 v a b:=by
 obtain⟨g,h1,h2,h3⟩:=h
 exact⟨g,h1,h2.below hb h2.lt,h3⟩
theorem WrongAt.keep{w w1 w2:World}{v:Value}(h:WrongAt w w1 v)(hb:Below w1.heap.size w1 w2):WrongAt w w2 v:=by
 obtain⟨g,h1,h2,h3⟩:=h
 exact⟨g,h1,h2.below hb h2.lt,h3⟩
theorem WrongAt.from{w0 w w1:World}{v:Value}(h:WrongAt w w1 v)(hb:w0.heap.size<=w.heap.size):WrongAt w0 w1 v:=by
 obtain⟨g,h1,h2,h3⟩:=h
 exact⟨g,h1,h2,Nat.le_trans hb h3⟩
theorem FaultAt.from{w0 w w1:World}{v:Value}{a b:ByteArray}(h:FaultAt w w1 v a b)(hb:w0.heap.size<=w.heap.size):FaultAt w0 w1 v a b:=by
 obtain⟨g,h1,h2,h3⟩:=h
 exact⟨g,h1,h2,Nat.le_trans hb h3⟩
def EqualPost(h:Hd)(k:Fo)(h':Hd)(k':Fo)(w:World)(e:Ending)(w':World):Prop:=Below w.heap.size w w'/\∃b v,e=.returned (.tuple #[.bool b,v])/\
 if(rightB h k&&rightB h' k')=true then b=(if(equalD h k h' k').2=emp then(equalD h k h' k').1 else false)/\(if(equalD h k h' k').2=emp then v=.nilIface else FaultAt w w' v cmpW (equalD h k h' k').2) else b=false/\WrongAt w w' v
set_option maxRecDepth 100000 in
set_option maxHeartbeats 4000000 in
theorem Equal_any(h:Hd)(k:Fo)(h':Hd)(k':Fo)(ho:h.ok)(hk:k.ok)(ho':h'.ok)(hk':k'.ok)(w:World)(S T:Nat->Prop)(pa:Option Addr)(pc:Nat)(ia:Option Addr)(ic:Nat)(pa':Option Addr)(pc':Nat)(ia':Option Addr)(ic':Nat)
  (hd:DatAt w S h k pa pc ia ic) (hd':DatAt w T h' k' pa' pc' ia' ic') (hown:OwnAt w):
  Calls Tryz.prog 99 #[.agg (h.cells pa pc ia k.len ic),.agg (h'.cells pa' pc' ia' k'.len ic')] w (EqualPost h k h' k' w):=by
 unfold Hd.cells
 go_enter Tryz.func99,Tryz.ntmps99
 go_upto_region 0 with fail
 go_cut [0,1,2,3] (fun _ _ t2 t3 wx=>t2=.pointer (some ⟨w.heap.size,0,none⟩)/\t3=.pointer (some ⟨w.heap.size+1,0,none⟩)/\Blk wx w.heap.size 53 (h.cells pa pc ia k.len ic)/\Blk wx (w.heap.size+1) 53 (h'.cells pa' pc' ia' k'.len ic')/\Below w.heap.size w wx)
 case first=>
  go_wp2_with fail
  go_meet
  case rel=>exact⟨rfl,rfl,(Blk.new _ _ _).alloc _,Blk.new1 _ _ _ _,bz⟩
 case rest=>
 obtain⟨rfl,rfl,hA,hB,hbw⟩:=hcut
 obtain⟨w0,rfl⟩: ∃w0:World,w0=wc:=⟨_,rfl⟩
 go_upto_region 1 with fail
 go_cut [15] (fun t wx=>t=.bool (!(rightB h k&&rightB h' k'))/\Below w0.heap.size w0 wx)
 case first=>
  as_aux_lemma=>
   have hR:=Right_any h k ho hk w0 S pa pc ia ic (hd.below hbw (fun b _ h=>h)) (hown.below hbw (Nat.le_refl _))
   unfold Hd.cells at hR
   have HR:=Lib.hid hR
   clear hR
   obtain⟨c0,c1,c2,c3,c4,c5,c6,c7,c8,c9,c10⟩:=(CellsAt.of_blk hA).box
   obtain⟨d0,d1,d2,d3,d4,d5,d6,d7,d8,d9,d10⟩:=(CellsAt.of_blk hB).box
   go_wp2_with fail
   refine HR.out.mono ?_
   rintro e w1 ⟨rfl,hb1⟩
   have hR':=Right_any h' k' ho' hk' w1 T pa' pc' ia' ic' (hd'.below (bl_trans hbw hb1) (fun b _ h=>h)) (hown.below (bl_trans hbw hb1) (Nat.le_refl _))
   unfold Hd.cells at hR'
   have HR':=Lib.hid hR'
   have hB1:=hB.below hb1 hB.lt
   clear hR' HR c0 c1 c2 c3 c4 c5 c6 c7 c8 c9 c10 d0 d1 d2 d3 d4 d5 d6 d7 d8 d9 d10
   obtain⟨d0,d1,d2,d3,d4,d5,d6,d7,d8,d9,d10⟩:=(CellsAt.of_blk hB1).box
   cases hr:rightB h k
   ·go_wp2_with fail
    go_meet
    case rel=>exact⟨by rw[hr];rfl,hb1⟩
   ·go_wp2_with fail
    refine HR'.out.mono ?_
    rintro e w2 ⟨rfl,hb2⟩
    go_wp2_with fail
    go_meet
    case rel=>exact⟨by rw[hr];simp,bl_trans hb1 hb2⟩
 case rest=>
 obtain⟨rfl,hb1⟩:=hcut
 obtain⟨w1,rfl⟩: ∃w1:World,w1=wc:=⟨_,rfl⟩
 have hbw1:=bl_trans hbw hb1
 have hA1:=hA.below hb1 hA.lt
 have hB1:=hB.below hb1 hB.lt
 clear hA hB hb1 hbw
 cases hr:(rightB h k&&rightB h' k')
 ·go_wp2_with fail
  refine(wrong_any _).mono ?_
  rintro e w2 ⟨rfl,hg,hb2⟩
  go_wp2_with fail
  go_ret2
  refine⟨bl_trans hbw1 hb2,_,_,rfl, ?_⟩
  rw[if_neg (by rw[hr];simp)]
  exact⟨rfl,_,rfl,hg,hbw1.size⟩
 have HRR:=Lib.hid hr
 clear hr
 obtain⟨c0,c1,c2,c3,c4,c5,c6,c7,c8,c9,c10⟩:=(CellsAt.of_blk hA1).box
 obtain⟨d0,d1,d2,d3,d4,d5,d6,d7,d8,d9,d10⟩:=(CellsAt.of_blk hB1).box
 have hE:=equal_any h k h' k' ho hk ho' hk' w1 S T pa pc ia ic pa' pc' ia' ic' (hd.below hbw1 (fun _ _ h=>h)) (hd'.below hbw1 (fun _ _ h=>h))
 unfold Hd.cells at hE
 have HE:=Lib.hid hE
 clear hE
 have HP:Hid (∀w' b v,Below w.heap.size w w'->(b=(if(equalD h k h' k').2=emp then(equalD h k h' k').1 else false))->(if(equalD h k h' k').2=emp then v=.nilIface else FaultAt w w' v cmpW (equalD h k h' k').2)->EqualPost h k h' k' w (.returned (.tuple #[.bool b,v])) w'):=fun w' b v hb e f=>
  ⟨hb,b,v,rfl,by rw[if_pos HRR.out];exact⟨e,f⟩⟩
 generalize equalD h k h' k'=q at HE HP
 obtain⟨qb,qs⟩:=q
 go_wp2_with fail
 refine HE.out.mono ?_
 rintro e w2 ⟨rfl,hb2⟩
 clear HE c0 c1 c2 c3 c4 c5 c6 c7 c8 c9 c10 d0 d1 d2 d3 d4 d5 d6 d7 d8 d9 d10
 have hbw2:=bl_trans hbw1 hb2
 go_wp2_with fail
 ·go_ret2
  have he:qs≠emp:=fun e=>by have:=(empty_iff _).2 e;simp_all
  exact HP.out _ _ _ (bl_alloc hbw2 _) (by rw[if_neg he]) (by rw[if_neg he];exact⟨_,rfl,Blk.new _ _ _,hbw2.size⟩)
 ·go_ret2
  have he:qs=emp:=(empty_iff _).1 (by simp_all)
  exact HP.out _ _ _ hbw2 (by rw[if_pos he]) (by rw[if_pos he];rfl)
def keyB(h:Hd)(k:Fo):Bool:=match tyO h k with | none=>true | some t=>keyedT t
def KeyV(h:Hd)(k:Fo)(w w':World)(v:Value):Prop:=if rightB h k=true then(if keyB h k=true then v=.nilIface else FaultAt w w' v keyW (heldS h k)) else WrongAt w w' v
def KeyPost(h:Hd)(k:Fo)(w:World)(e:Ending)(w':World):Prop:=Below w.heap.size w w'/\∃v,e=.returned v/\KeyV h k w w' v
set_option maxRecDepth 100000 in
set_option maxHeartbeats 4000000 in
theorem key_any(h:Hd)(k:Fo)(ho:h.ok)(hk:k.ok)(hl:k.len<=1034834473170)(w:World)(S:Nat->Prop)(pa:Option Addr)(pc:Nat)(ia:Option Addr)(ic:Nat)(hd:DatAt w S h k pa pc ia ic)(hown:OwnAt w):
  Calls Tryz.prog 115 #[.agg (h.cells pa pc ia k.len ic)] w (KeyPost h k w):=by
 unfold Hd.cells
 go_enter Tryz.func115,Tryz.ntmps115
 go_upto_region 0 with fail
 go_cut [0,1] (fun _ t1 wx=>t1=.pointer (some ⟨w.heap.size,0,none⟩)/\Blk wx w.heap.size 53 (h.cells pa pc ia k.len ic)/\Below w.heap.size w wx)
 case first=>
  go_wp2_with fail
  go_meet
  case rel=>exact⟨rfl,Blk.new _ _ _,bz⟩
 case rest=>
 obtain⟨rfl,hA,hbw⟩:=hcut
 obtain⟨w0,rfl⟩: ∃w0:World,w0=wc:=⟨_,rfl⟩
 obtain⟨c0,c1,c2,c3,c4,c5,c6,c7,c8,c9,c10⟩:=(CellsAt.of_blk hA).box
 have hO:=of_any h k ho hk hl w0 S pa pc ia ic (hd.below hbw (fun b _ h=>h)) (hown.below hbw (Nat.le_refl _))
 unfold Hd.cells at hO
 have HO:=Lib.hid hO
 clear hO
 go_wp2_with fail
 refine HO.out.mono ?_
 rintro e w1 ⟨hb1,he⟩
 have hbw1:=bl_trans hbw hb1
 have hA1:=hA.below hb1 hA.lt
 have hd1:=hd.below hbw1 (fun b _ h=>h)
 clear HO c0 c1 c2 c3 c4 c5 c6 c7 c8 c9 c10 hA hb1
 by_cases hr:rightB h k=true
 ·rw[if_pos hr] at he
  obtain⟨v,rfl,hv⟩:=he
  have HRR:=Lib.hid hr
  cases et:tyO h k with
  | none=>
   unfold ValAt at hv
   rw[et] at hv
   subst hv
   have HK:Hid (keyB h k=true):=by unfold Hid keyB;rw[et]
   have hn:=assert_keyed_nil
   go_wp2_with fail
   go_ret
   exact⟨hbw1,_,rfl,by unfold KeyV;rw[if_pos HRR.out,if_pos HK.out];rfl⟩
  | some t=>
   unfold ValAt at hv
   rw[et] at hv
   obtain⟨qa,qc,ja,jc,rfl,_⟩:=hv
   have ht:=tyO_val et
   have hn:=assert_keyed ht
   cases hkt:keyedT t<;>rw[hkt] at hn
   ·have HK:Hid (keyB h k=false):=by unfold Hid keyB;rw[et];exact hkt
    have hH:=held_any h k ho hk w1 S pa pc ia ic hd1
    unfold Hd.cells at hH
    have HH:=Lib.hid hH
    obtain⟨c0,c1,c2,c3,c4,c5,c6,c7,c8,c9,c10⟩:=(CellsAt.of_blk hA1).box
    clear hH hkt
    go_wp2_with fail
    refine HH.out.mono ?_
    rintro e w2 ⟨rfl,hb2⟩
    go_wp2_with fail
    go_ret
    refine⟨bl_alloc (bl_trans hbw1 hb2) _,_,rfl, ?_⟩
    unfold KeyV
    rw[if_pos HRR.out,if_neg (by rw[HK.out];simp)]
    exact⟨_,rfl,Blk.new _ _ _,(bl_trans hbw1 hb2).size⟩
   ·have HK:Hid (keyB h k=true):=by unfold Hid keyB;rw[et];exact hkt
    go_wp2_with fail
    go_ret
    exact⟨hbw1,_,rfl,by unfold KeyV;rw[if_pos HRR.out,if_pos HK.out];rfl⟩
 ·rw[if_neg hr] at he
  obtain⟨v,rfl,g,rfl,hv⟩:=he
  have HRR:=Lib.hid hr
  clear hr
  go_wp2_with fail
  go_ret
  exact⟨hbw1,_,rfl,by unfold KeyV;rw[if_neg HRR.out];exact⟨g,rfl,hv.1,Nat.le_trans hbw.size hv.2⟩⟩
end Go.Proofs.YtbjegfpfmnleeaaGreatDoor

namespace Go.Proofs.YtbjegfpfmnleeaaGreatDoor
open Go.RowKit Go.Sort
def hd0:Hd:=⟨0,emp,0,0,emp,0,0,0,0,[]⟩
theorem hd0_ok:hd0.ok:=by constructor<;>simp[hd0,emp,okInt,ByteArray.size]
theorem hd0_at(w:World):DatAt w (fun _=>False) hd0 .nil none 0 none 0:=⟨Or.inl rfl,Nat.le_refl _,capOk.nil,Or.inl rfl,Nat.le_refl _,capOk.nil⟩
def hashV(h:Hd)(k:Fo):Int:=match tyO h k with | none=>hashD hd0 .nil | some _=>hashD h k
def HashPost(h:Hd)(k:Fo)(w:World)(e:Ending)(w':World):Prop:=Below w.heap.size w w'/\∃n v,e=.returned (.tuple #[.int .u64 n,v])/\KeyV h k w w' v/\n=if(rightB h k&&keyB h k)=true then hashV h k else 0
set_option maxRecDepth 100000 in
set_option maxHeartbeats 4000000 in
theorem Hash_any(h:Hd)(k:Fo)(ho:h.ok)(hk:k.ok)(hl:k.len<=1034834473170)(w:World)(S:Nat->Prop)(pa:Option Addr)(pc:Nat)(ia:Option Addr)(ic:Nat)(hd:DatAt w S h k pa pc ia ic)(hown:OwnAt w):
  Calls Tryz.prog 116 #[.agg (h.cells pa pc ia k.len ic)] w (HashPost h k w):=by
 unfold Hd.cells
 go_enter Tryz.func116,Tryz.ntmps116
 go_upto_region 0 with fail
 go_cut [0,1] (fun _ t1 wx=>t1=.pointer (some ⟨w.heap.size,0,none⟩)/\Blk wx w.heap.size 53 (h.cells pa pc ia k.len ic)/\Below w.heap.size w wx)
 case first=>
  go_wp2_with fail
  go_meet
  case rel=>exact⟨rfl,Blk.new _ _ _,bz⟩
 case rest=>
 obtain⟨rfl,hA,hbw⟩:=hcut
 obtain⟨w0,rfl⟩: ∃w0:World,w0=wc:=⟨_,rfl⟩
 obtain⟨c0,c1,c2,c3,c4,c5,c6,c7,c8,c9,c10⟩:=(CellsAt.of_blk hA).box
 have hO:=key_any h k ho hk hl w0 S pa pc ia ic (hd.below hbw (fun b _ h=>h)) (hown.below hbw (Nat.le_refl _))
 unfold Hd.cells at hO
 have HO:=Lib.hid hO
 clear hO
 go_wp2_with fail
 refine HO.out.mono ?_
 rintro e w1 ⟨hb1,v,rfl,hv⟩
 have hbw1:=bl_trans hbw hb1
 have hA1:=hA.below hb1 hA.lt
 clear HO c0 c1 c2 c3 c4 c5 c6 c7 c8 c9 c10 hA hb1
 by_cases hr:(rightB h k&&keyB h k)=true
 ·have hr1:rightB h k=true:=by revert hr;cases rightB h k<;>simp
  have hr2:keyB h k=true:=by revert hr;cases keyB h k<;>simp
  unfold KeyV at hv
  rw[if_pos hr1,if_pos hr2] at hv
  subst hv
  have HR1:=Lib.hid hr1
  have HP:Hid (∀w',Below w.heap.size w w'->HashPost h k w (.returned (.tuple #[.int .u64 (hashV h k),.nilIface])) w'):=fun w' hb=>
   ⟨hb,_,_,rfl,by unfold KeyV;rw[if_pos hr1,if_pos hr2],by rw[if_pos hr]⟩
  obtain⟨c0,c1,c2,c3,c4,c5,c6,c7,c8,c9,c10⟩:=(CellsAt.of_blk hA1).box
  have hO:=of_any h k ho hk hl w1 S pa pc ia ic (hd.below hbw1 (fun b _ h=>h)) (hown.below hbw1 (Nat.le_refl _))
  unfold Hd.cells at hO
  have HO:=Lib.hid hO
  clear hO hr hr1
  go_wp2_with fail
  refine HO.out.mono ?_
  rintro e w2 ⟨hb2,he⟩
  rw[if_pos HR1.out] at he
  obtain⟨v,rfl,hv⟩:=he
  have hbw2:=bl_trans hbw1 hb2
  clear HO c0 c1 c2 c3 c4 c5 c6 c7 c8 c9 c10
  cases et:tyO h k with
  | none=>
   unfold ValAt at hv
   rw[et] at hv
   subst hv
   have HV:Hid (hashV h k=hashD hd0 .nil):=by unfold Hid hashV;rw[et]
   have hn:=assert_keyed_nil
   have hh:=hash_any hd0 .nil hd0_ok trivial (by simp[Fo.len]) w2 (fun _=>False) none 0 none 0 (hd0_at w2)
   unfold Hd.cells hd0 emp at hh
   simp only[List.length_nil,Fo.len] at hh
   have HH:=Lib.hid hh
   clear hh
   go_wp2_with fail
   refine HH.out.mono ?_
   rintro e w3 ⟨rfl,hb3⟩
   go_wp2_with fail
   go_ret2
   have:=HP.out _ (bl_trans hbw2 hb3)
   rw[HV.out] at this
   exact this
  | some t=>
   unfold ValAt at hv
   rw[et] at hv
   obtain⟨qa,qc,ja,jc,rfl,hdv⟩:=hv
   have ht:=tyO_val et
   have HV:Hid (hashV h k=hashD h k):=by unfold Hid hashV;rw[et]
   have hkt:keyedT t=true:=by unfold keyB at hr2;rw[et] at hr2;exact hr2
   have hn:=assert_keyed ht
   rw[hkt] at hn
   rcases ht with rfl | rfl | rfl | rfl | rfl | rfl | rfl | rfl<;>try (exact absurd hkt (by decide))
   ·have hm:=truth_hash
    have hh:=truthHash_any h k ho hk hl w2 _ qa qc ja jc hdv
    unfold Hd.cells at hh ⊢
    have HH:=Lib.hid hh
    clear hh hkt
    go_wp2_with fail
    refine HH.out.mono ?_
    rintro e w3 ⟨rfl,hb3⟩
    go_wp2_with fail
    go_ret2
    have:=HP.out _ (bl_trans hbw2 hb3)
    rw[HV.out] at this
    exact this
   ·have hm:=figure_hash
    have hh:=figureHash_any h k ho hk hl w2 _ qa qc ja jc hdv
    unfold Hd.cells at hh ⊢
    have HH:=Lib.hid hh
    clear hh hkt
    go_wp2_with fail
    refine HH.out.mono ?_
    rintro e w3 ⟨rfl,hb3⟩
    go_wp2_with fail
    go_ret2
    have:=HP.out _ (bl_trans hbw2 hb3)
    rw[HV.out] at this
    exact this
   ·have hm:=letter_hash
    have hh:=letterHash_any h k ho hk hl w2 _ qa qc ja jc hdv
    unfold Hd.cells at hh ⊢
    have HH:=Lib.hid hh
    clear hh hkt
    go_wp2_with fail
    refine HH.out.mono ?_
    rintro e w3 ⟨rfl,hb3⟩
    go_wp2_with fail
    go_ret2
    have:=HP.out _ (bl_trans hbw2 hb3)
    rw[HV.out] at this
    exact this
   ·have hm:=arrow_hash
    have hh:=arrowHash_any h k ho hk hl w2 _ qa qc ja jc hdv
    unfold Hd.cells at hh ⊢
    have HH:=Lib.hid hh
    clear hh hkt
    go_wp2_with fail
    refine HH.out.mono ?_
    rintro e w3 ⟨rfl,hb3⟩
    go_wp2_with fail
    go_ret2
    have:=HP.out _ (bl_trans hbw2 hb3)
    rw[HV.out] at this
    exact this
   ·have hm:=filed_hash
    have hh:=filedHash_any h k ho hk hl w2 _ qa qc ja jc hdv
    unfold Hd.cells at hh ⊢
    have HH:=Lib.hid hh
    clear hh hkt
    go_wp2_with fail
    refine HH.out.mono ?_
    rintro e w3 ⟨rfl,hb3⟩
    go_wp2_with fail
    go_ret2
    have:=HP.out _ (bl_trans hbw2 hb3)
    rw[HV.out] at this
    exact this
 ·have HE:Hid (∀w' v,Below w.heap.size w w'->KeyV h k w w' v->HashPost h k w (.returned (.tuple #[.int .u64 0,v])) w'):=fun w' v hb hv=>
   ⟨hb,_,_,rfl,hv,by rw[if_neg hr]⟩
  have HKV:=Lib.hid hv
  have hif: ∃t g,v=.iface t (.pointer (some ⟨g,0,none⟩)):=by
   unfold KeyV at hv
   split at hv
   ·rename_i h1
    split at hv
    ·rename_i h2
     exact absurd (by rw[h1,h2];rfl) hr
    ·obtain⟨g,rfl,_⟩:=hv;exact⟨_,_,rfl⟩
   ·obtain⟨g,rfl,_⟩:=hv;exact⟨_,_,rfl⟩
  obtain⟨t,g,rfl⟩:=hif
  clear hr hv
  go_wp2_with fail
  go_ret2
  refine HE.out _ _ hbw1 ?_
  have:=HKV.out
  unfold KeyV at this ⊢
  split at this
  ·rename_i h1
   rw[if_pos h1]
   split at this
   ·cases this
   ·rename_i h2;rw[if_neg h2];exact this.from hbw.size
  ·rename_i h1
   rw[if_neg h1]
   exact this.from hbw.size
end Go.Proofs.YtbjegfpfmnleeaaGreatDoor

namespace Go.Proofs.YtbjegfpfmnleeaaGreatDoor
def cntF:Fo->Nat
 | .nil=>0
 | .cons _ k r=>1+cntF k+cntF r
def okF:Fo->Bool
 | .nil=>true
 | .cons h k r=>headB h k.len&&okF k&&okF r
theorem rightF_ok: ∀(f:Fo) (n:Int),0<=n->(rightF f n).1=(okF f&&decide ((cntF f:Int)<=n))/\((rightF f n).1=true->(rightF f n).2=n-cntF f)
 | .nil,n,h=>by simp[rightF,okF,cntF,h]
 | .cons h k r,n,hn=>by
  rw[rightF,okF,cntF]
  by_cases h1:n-1<0
  ·rw[if_pos h1]
   refine⟨?_,fun e=>by cases e⟩
   rw[decide_eq_false (by omega)];simp
  rw[if_neg h1]
  by_cases h2:headB h k.len=false
  ·rw[if_pos h2,h2]
   exact⟨by simp,fun e=>by cases e⟩
  rw[if_neg h2]
  have h2':headB h k.len=true:=by revert h2;cases headB h k.len<;>simp
  have ik:=rightF_ok k (n-1) (by omega)
  by_cases h3:(rightF k (n-1)).1=true
  ·rw[if_pos h3]
   have e2:=ik.2 h3
   have e1:=ik.1
   rw[h3] at e1
   have e1':=e1.symm
   rw[Bool.and_eq_true,decide_eq_true_iff] at e1'
   have ir:=rightF_ok r (rightF k (n-1)).2 (by rw[e2];omega)
   refine⟨?_,fun e=> ?_⟩
   ·rw[ir.1,h2',e1'.1,e2]
    simp only[Bool.true_and]
    congr 1
    rw[decide_eq_decide]
    omega
   ·rw[ir.2 e,e2];omega
  ·rw[if_neg h3]
   refine⟨?_,fun e=>by cases e⟩
   have h3':(rightF k (n-1)).1=false:=by revert h3;cases (rightF k (n-1)).1<;>simp
   have e1:=ik.1
   rw[h3'] at e1
   by_cases ho:okF k=true
   ·rw[ho] at e1
    simp only[Bool.true_and] at e1
    have:=of_decide_eq_false e1.symm
    rw[decide_eq_false (show ¬((1+cntF k+cntF r:Nat):Int)<=n by omega)];simp
   ·have:okF k=false:=by revert ho;cases okF k<;>simp
    simp[this]
end Go.Proofs.YtbjegfpfmnleeaaGreatDoor

namespace Go.Proofs.YtbjegfpfmnleeaaGreatDoor
open Go.RowKit Go.Sort
end Go.Proofs.YtbjegfpfmnleeaaGreatDoor

namespace Go.Proofs.YtbjegfpfmnleeaaGreatDoor
open Go.RowKit Go.Sort
end Go.Proofs.YtbjegfpfmnleeaaGreatDoor

namespace Go.Proofs.YtbjegfpfmnleeaaGreatDoor
open Go.RowKit Go.Sort
end Go.Proofs.YtbjegfpfmnleeaaGreatDoor

namespace Go.Proofs.YtbjegfpfmnleeaaGreatDoor
open Go.RowKit Go.Sort
end Go.Proofs.YtbjegfpfmnleeaaGreatDoor

namespace Go.Proofs.YtbjegfpfmnleeaaGreatDoor
end Go.Proofs.YtbjegfpfmnleeaaGreatDoor

namespace Go.Proofs.YtbjegfpfmnleeaaGreatDoor
def fault(o:Option ByteArray):Value:=match o with | none=>.agg #[.string ⟨#[]⟩,.string ⟨#[]⟩] | some m=>.agg #[.string ⟨#[99,111,109,112,97,114,101]⟩,.string m]
end Go.Proofs.YtbjegfpfmnleeaaGreatDoor

namespace Go.Proofs.YtbjegfpfmnleeaaGreatDoor
open Go.RowKit Go.Sort Go.BigFrame
end Go.Proofs.YtbjegfpfmnleeaaGreatDoor

namespace Go.Proofs.YtbjegfpfmnleeaaGreatDoor
open Go.RowKit Go.Sort Go.BigFrame
inductive Er | ok | wrong | fault (word more:ByteArray)
def ErrAt(w w':World)(v:Value):Er->Prop
 | .ok=>v=.nilIface
 | .wrong=>WrongAt w w' v
 | .fault a b=>FaultAt w w' v a b
def Er.told(word more:ByteArray):Er->Bool
 | .ok=>decide (word=emp)
 | .wrong=>false
 | .fault a b=>decide (word≠emp)&&decide (a=word/\b=more)
theorem ErrAt.keep{w w1 w2:World}{v:Value}{e:Er}(h:ErrAt w w1 v e)(hb:Below w1.heap.size w1 w2):ErrAt w w2 v e:=by
 cases e with
 | ok=>exact h
 | wrong=>exact WrongAt.keep h hb
 | fault a b=>exact FaultAt.keep h hb
theorem ErrAt.from{w0 w w1:World}{v:Value}{e:Er}(h:ErrAt w w1 v e)(hb:w0.heap.size<=w.heap.size):ErrAt w0 w1 v e:=by
 cases e with
 | ok=>exact h
 | wrong=>exact WrongAt.from h hb
 | fault a b=>exact FaultAt.from h hb
end Go.Proofs.YtbjegfpfmnleeaaGreatDoor

namespace Go.Proofs.YtbjegfpfmnleeaaGreatDoor
open Go.RowKit Go.Sort
theorem head_facts{h:Hd}{n:Nat}(hh:headB h n=true):0<=h.kind/\h.kind<=9/\(h.kind=2\/h.kind=1\/h.n=0)/\(h.kind=4\/h.s.size=0)/\namedB h=true:=by
 simp only[headB,okB,ok2B,ok1B,Bool.and_eq_true,Bool.or_eq_true,decide_eq_true_iff] at hh
 obtain⟨⟨⟨⟨h1,_⟩,⟨⟨h2,h3⟩,_⟩,h4⟩,_⟩,_⟩:=hh
 exact⟨h1.1,h1.2,by omega,by omega,h2⟩
theorem size_emp{s:ByteArray}(h:s.size=0):s=emp:=by
 obtain⟨⟨l⟩⟩:=s
 have:l=[]:=List.eq_nil_of_length_eq_zero h
 subst this
 rfl
theorem named_type{h:Hd}(hn:namedB h=true)(h5:h.kind=5\/h.kind=6\/h.kind=7):h.type≠emp:=by
 intro e
 have hd:declB h.type=false:=by rw[e];decide
 unfold namedB at hn
 rw[hd,e] at hn
 rcases h5 with h5 | h5 | h5<;>rw[h5] at hn<;>revert hn<;>decide
theorem right_ok{h:Hd}{k:Fo}(hr:rightB h k=true):headB h k.len=true/\okF k=true:=by
 unfold rightB rightD at hr
 rw[if_neg (by decide)] at hr
 by_cases h1:headB h k.len=false
 ·rw[if_pos h1] at hr;cases hr
 rw[if_neg h1,(rightF_ok k _ (by decide)).1,Bool.and_eq_true] at hr
 exact⟨by revert h1;cases headB h k.len<;>simp,hr.1⟩
theorem equalH_no{h h':Hd}(h2:(equalH h h').2≠emp):(equalH h h').1=false:=by
 unfold equalH at*
 by_cases h3:h.kind=3
 ·rw[if_pos h3] at h2;exact absurd rfl h2
 rw[if_neg h3] at h2 ⊢
 by_cases h5:h.kind=5\/h.kind=6\/h.kind=7
 ·rw[if_pos h5]
 rw[if_neg h5] at h2 ⊢
 by_cases h9:h.kind=9
 ·rw[if_pos h9] at h2;exact absurd rfl h2
 ·rw[if_neg h9] at h2;exact absurd rfl h2
theorem equalF_no: ∀(f g:Fo),(equalF f g).2≠emp->(equalF f g).1=false
 | .nil,g,h=>by simp[equalF] at h
 | .cons h k r,.nil,e=>by simp[equalF] at e
 | .cons h k r,.cons h' k' r',e=>by
  rw[equalF_cons] at e ⊢
  by_cases ht:(equalD h k h' k').1=true
  ·rw[if_pos ht] at e ⊢;exact equalF_no r r' e
  ·rw[if_neg ht]
theorem equalD_no{h h':Hd}{k k':Fo}(e:(equalD h k h' k').2≠emp):(equalD h k h' k').1=false:=by
 unfold equalD at*
 by_cases ho:oneB h h'=false
 ·rw[if_pos ho] at e ⊢
 rw[if_neg ho] at e ⊢
 by_cases h8:h.kind=8
 ·rw[if_pos h8] at e ⊢
  by_cases hl:k.len≠k'.len
  ·rw[if_pos hl] at e ⊢
  ·rw[if_neg hl] at e ⊢;exact equalF_no k k' e
 ·rw[if_neg h8] at e ⊢;exact equalH_no e
end Go.Proofs.YtbjegfpfmnleeaaGreatDoor

namespace Go.Proofs.YtbjegfpfmnleeaaGreatDoor
theorem oneB_refl(h:Hd):oneB h h=true:=by unfold oneB;simp
end Go.Proofs.YtbjegfpfmnleeaaGreatDoor
