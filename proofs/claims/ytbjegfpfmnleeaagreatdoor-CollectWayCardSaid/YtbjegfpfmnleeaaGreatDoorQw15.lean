/-
   Written by an AI agent.
-/
import Derived.Test.YtbjegfpfmnleeaaGreatDoorProg
import Derived.Test.YtbjegfpfmnleeaaGreatDoorQw04
import Derived.Maps.OwnSet
import Derived.Maps.Views
import Derived.MapViews
import Derived.Lib.SlKeysI
import Derived.Test.YtbjegfpfmnleeaaGreatDoorQw14
namespace Go.Proofs.YtbjegfpfmnleeaaGreatDoor
open Go.RowKit Go.Maps
abbrev IM:=List (Int×Value)
def heldR(v:Value):Option (DataW Value×List MemPlace):=some (.held v,[])
def mE(p:Int×Value):Lit×DataW Value:=(.int .i64 p.1,.held p.2)
def mD(M:IM):DataW Value:=.map (M.map mE)
def imIns(k:Int)(v:Value):IM->IM
 | []=>[(k,v)]
 | y::r=>if k<y.1 then(k,v)::y::r else y::imIns k v r
def imDel(k:Int)(M:IM):IM:=M.filter fun p=> !decide (p.1=k)
def imPut(k:Int)(v:Value)(M:IM):IM:=imIns k v (imDel k M)
def imGet(k:Int)(M:IM):Option Value:=(M.find? fun p=>decide (p.1=k)).map (·.2)
theorem mD_ins(k:Int)(v:Value): ∀M:IM,DataW.insert (mE (k,v)) (M.map mE)=(imIns k v M).map mE
 | []=>rfl
 | y::r=>by
  by_cases h:k<y.1
  ·simp[DataW.insert,imIns,h,mE,Lit.before]
  ·have ih:=mD_ins k v r
   simp only[List.map_cons,DataW.insert,imIns,if_neg h]
   rw[if_neg (by simp[mE,Lit.before,h]),ih]
theorem same_mE(p:Int×Value)(k:Int):(mE p).1.sameKey (.int .i64 k)=decide (p.1=k):=by simp[mE,Lit.sameKey]
theorem mD_filter(k:Int)(M:IM):(M.map mE).filter (fun p=> !p.1.sameKey (.int .i64 k))=(imDel k M).map mE:=by
 rw[List.filter_map]
 congr 1
 apply List.filter_congr
 intro p _
 simp[same_mE]
theorem mD_put(k:Int)(v:Value)(M:IM):(mD M).put (.int .i64 k) (.held v)=mD (imPut k v M):=by
 show DataW.map (DataW.insert (mE (k,v)) ((M.map mE).filter fun p=> !p.1.sameKey (.int .i64 k)))=_
 rw[mD_filter,mD_ins]
 rfl
theorem mD_del(k:Int)(M:IM):(mD M).del (.int .i64 k)=mD (imDel k M):=by
 show DataW.map ((M.map mE).filter fun p=> !p.1.sameKey (.int .i64 k))=_
 rw[mD_filter]
 rfl
theorem mD_find(k:Int)(M:IM):(M.map mE).find? (fun p=>p.1.sameKey (.int .i64 k))=(M.find? fun p=>decide (p.1=k)).map mE:=by
 rw[List.find?_map]
 congr 1
 congr 1
 funext p
 exact same_mE p k
theorem mD_at(k:Int)(z:Value)(M:IM):(mD M).atKey (.int .i64 k) (.held z)=.held ((imGet k M).getD z):=by
 unfold DataW.atKey mD
 simp only[mD_find,imGet]
 cases M.find? (fun p=>decide (p.1=k))<;>rfl
theorem mD_has(k:Int)(M:IM):Maps.has (mD M) (.int .i64 k)=(imGet k M).isSome:=by
 show(M.map mE).any (fun p=>p.1.sameKey (.int .i64 k))=_
 rw[imGet,Option.isSome_map,Bool.eq_iff_iff,List.find?_isSome,List.any_eq_true]
 constructor
 ·rintro⟨q,hq,h⟩
  obtain⟨p,hp,rfl⟩:=List.mem_map.1 hq
  exact⟨p,hp,(same_mE p k).symm.trans h⟩
 ·rintro⟨p,hp,h⟩
  exact⟨mE p,List.mem_map_of_mem hp,(same_mE p k).trans h⟩
theorem mD_keys(M:IM):intKeys (mD M)=M.map (·.1):=by
 show(M.map mE).map _=_
 rw[List.map_map]
 rfl
theorem mD_size(M:IM):Maps.size (mD M)=M.length:=by
 show(M.map mE).length=_
 simp
def MapI(w:World)(b n:Nat)(M:IM):Prop:=w.ownsMap Tryz.prog 3 heldR b n (mD M)
theorem int_k:Keyed Tryz.prog 3:=int_keyed (q:=.i64) Tryz.underlying3
theorem key_k{k:Int}(h: -9223372036854775808<=k/\k<=9223372036854775807):keyOf Tryz.prog 3 (.int .i64 k)=some (.int .i64 k):=
 keyOf_int_mk (q:=.i64) Tryz.underlying3 (by
  have e1:IntKind.i64.min= -9223372036854775808:=by decide
  have e2:IntKind.i64.max=9223372036854775807:=by decide
  simp only[Lit.wf,e1,e2,Bool.and_eq_true,decide_eq_true_eq]
  exact h)
variable {w:World} {b n:Nat} {M:IM} {t e:TypeId} {z:Value} {k:Int}
theorem heldR_inj{v x:Value}{ps:List MemPlace}(h:heldR v=some (.held x,ps)):v=x:=by
 simp[heldR] at h
 exact h.1
theorem MapI.look(h:MapI w b n M)(ht:Tryz.prog.underlying t=some (.map 3 e))(hz: ∀w,(zeroValue e).run Tryz.prog w=.ok z w)(hk: -9223372036854775808<=k/\k<=9223372036854775807):
  Lkp Tryz.prog t (.map (some b)) (.int .i64 k) false ((imGet k M).getD z) w:=fun m=>by
 obtain⟨v,ps,hr,hv⟩:=World.ownsMap.lookup (w:=w.drewN m) h int_k ht (hz _) (zd:=.held z) (zp:=[]) rfl (key_k hk)
 rw[mD_at] at hv
 rw[heldR_inj hv] at hr
 exact hr
theorem MapI.look2(h:MapI w b n M)(ht:Tryz.prog.underlying t=some (.map 3 e))(hz: ∀w,(zeroValue e).run Tryz.prog w=.ok z w)(hk: -9223372036854775808<=k/\k<=9223372036854775807):
  Lkp Tryz.prog t (.map (some b)) (.int .i64 k) true (.tuple #[(imGet k M).getD z,.bool (imGet k M).isSome]) w:=fun m=>by
 obtain⟨v,ps,hr,hv⟩:=World.ownsMap.look_ok (w:=w.drewN m) h int_k ht (hz _) (zd:=.held z) (zp:=[]) rfl (key_k hk)
 rw[mD_at] at hv
 rw[heldR_inj hv,mD_has] at hr
 exact hr
theorem MapI.store(h:MapI w b n M)(ht:Tryz.prog.underlying t=some (.map 3 e))(hn:n<maxLen)(hk: -9223372036854775808<=k/\k<=9223372036854775807)(v:Value):
  ∃w',(Instr.mapUpdate t (.map (some b)) (.int .i64 k) v).run Tryz.prog w=.ok () w'/\MapI w' b (n+1) (imPut k v M)/\w.mapTurned w' b:=by
 obtain⟨w',hr,ho,hm⟩:=World.ownsMap.store h int_k ht hn (key_k hk) (val:=v) (d:=.held v) (ps:=[]) rfl
 rw[mD_put] at ho
 exact⟨w',hr,ho,hm⟩
theorem MapI.drop(h:MapI w b n M)(ht:Tryz.prog.underlying t=some (.map 3 e))(hk: -9223372036854775808<=k/\k<=9223372036854775807)(ty:TypeId):
  ∃w',(Builtin.delete_ #[t,3] ty #[.map (some b),.int .i64 k]).run Tryz.prog w=.ok (.tuple #[]) w'/\MapI w' b n (imDel k M)/\w.mapTurned w' b:=by
 obtain⟨w',hr,ho,hm⟩:=World.ownsMap.drop h int_k ht (key_k hk) ty
 rw[mD_del] at ho
 exact⟨w',hr,ho,hm⟩
theorem MapI.made(w:World):MapI (w.alloc (.map #[] 0)) w.heap.size 0 []:=World.ownsMap_made w _ _ _
theorem MapI.keep{w':World}(h:MapI w b n M)(hk:w'.heap[b]? =w.heap[b]?):MapI w' b n M:=by
 obtain⟨es,clock,hb,r⟩:=h
 exact⟨es,clock,hk.trans hb,r⟩
end Go.Proofs.YtbjegfpfmnleeaaGreatDoor

namespace Go.Proofs.YtbjegfpfmnleeaaGreatDoor
open Go.RowKit Go.Sort
set_option maxRecDepth 100000
variable {a:Act} {w:World} {df:List Deferred} {N:Act->World->Prop} {Q:Exit->Act->World->Prop} {l:List (Nat×Value)}
noncomputable def r_zi (n:Nat):Code:=((Tryz.f16.body.bind (findR n)).getD .skip)
noncomputable def ziL0:Code:=(.seq (.seq (r_zi 4) (.cond (.tmp 14) .skip (.exit 0))) (.seq (.block 1 (.seq (r_zi 6) (.cond (.tmp 25) (.seq (r_zi 7) .ret) .skip))) (r_zi 5)))
noncomputable def ziBody:Code:=(.seq (r_zi 0) (.seq (.seq (r_zi 1) (.cond (.tmp 10) (.seq (r_zi 2) .ret) .skip)) (.seq (.seq (r_zi 3) (.block 0 (.loop ziL0))) (.seq (r_zi 8) .ret))))
theorem zi_body:Tryz.f16.body=some ziBody:=by kernel_rfl
theorem zi_r0(hs:Sl 26 a l df)
  (hN: ∀a',Sl 26 a' ((4,.bool false)::dropL [4] l) df->N a' w):Rg N Q a w (r_zi 0):=
 reg (l0:=[]) [4] [4] [] hs trivial hN (by kernel_rfl)
theorem zi_r1{sd td:Option Addr}{sn sc tn tc:Nat}{b10:Bool}(hs:Sl 26 a l df)(e0:Lk l 0 (.slice sd sn sc))(e1:Lk l 1 (.slice td tn tc))(h0:decide ((sn:Int)≠(tn:Int))=b10)
  (hN: ∀a',Sl 26 a' ((10,.bool b10)::dropL [6,7,8,9,10] l) df->N a' w):Rg N Q a w (r_zi 1):=
 reg (l0:=[(0,.slice sd sn sc),(1,.slice td tn tc)]) [10] [6,7,8,9,10] [.bit b10] hs ⟨e0,e1,trivial⟩ (aI h0 hN) (by kernel_rfl)
theorem zi_r2(hs:Sl 26 a l df)
  (hN: ∀a',Sl 26 a' ((4,.bool false)::dropL [4] l) df->N a' w):Rg N Q a w (r_zi 2):=
 reg (l0:=[]) [4] [4] [] hs trivial hN (by kernel_rfl)
theorem zi_r3(hs:Sl 26 a l df)
  (hN: ∀a',Sl 26 a' ((5,ii 0)::dropL [5] l) df->N a' w):Rg N Q a w (r_zi 3):=
 reg (l0:=[]) [5] [5] [] hs trivial hN (by kernel_rfl)
theorem zi_r4{i sn sc:Nat}{sd:Option Addr}{b14:Bool}(hs:Sl 26 a l df)(e5:Lk l 5 (ii (i:Int)))(e0:Lk l 0 (.slice sd sn sc))(h0:decide ((i:Int)<(sn:Int))=b14)
  (hN: ∀a',Sl 26 a' ((14,.bool b14)::dropL [11,12,13,14] l) df->N a' w):Rg N Q a w (r_zi 4):=
 reg (l0:=[(5,ii (i:Int)),(0,.slice sd sn sc)]) [14] [11,12,13,14] [.bit b14] hs ⟨e5,e0,trivial⟩ (aI h0 hN) (by kernel_rfl)
theorem zi_r5{i:Nat}(hs:Sl 26 a l df)(e5:Lk l 5 (ii (i:Int)))(h0: -9223372036854775808<=(i:Int)+1/\(i:Int)+1<=9223372036854775807)
  (hN: ∀a',Sl 26 a' ((5,ii ((i:Int)+1))::dropL [5,15,16] l) df->N a' w):Rg N Q a w (r_zi 5):=
 reg (l0:=[(5,ii (i:Int))]) [5] [5,15,16] [.ari] hs ⟨e5,trivial⟩ (aI h0 hN) (by kernel_rfl)
theorem zi_r6{sd td:Option Addr}{sn sc i g19 o19 tn tc g23 o23:Nat}{x y:Int}{b25:Bool}(hs:Sl 26 a l df)(e0:Lk l 0 (.slice sd sn sc))(e5:Lk l 5 (ii (i:Int)))(e1:Lk l 1 (.slice td tn tc))(i0:Ix 24 (.slice sd sn sc) (ii (i:Int)) (pF g19 o19))(l1:Lp 3 (pF g19 o19) (ii x) w)(i2:Ix 24 (.slice td tn tc) (ii (i:Int)) (pF g23 o23))(l3:Lp 3 (pF g23 o23) (ii y) w)(h4:decide (x≠y)=b25)
  (hN: ∀a' mm,Sl 26 a' ((25,.bool b25)::dropL (List.range' 17 9) l) df->N a' (w.drewN mm)):Rg N Q a w (r_zi 6):=
 regQ (l0:=[(0,.slice sd sn sc),(5,ii (i:Int)),(1,.slice td tn tc)]) [25] (List.range' 17 9) [.val (pF g19 o19),.val (ii x),.val (pF g23 o23),.val (ii y),.bit b25] hs ⟨e0,e5,e1,trivial⟩ (aI i0 (aI l1 (aI i2 (aI l3 (aI h4 hN))))) (by kernel_rfl)
theorem zi_r7(hs:Sl 26 a l df)
  (hN: ∀a',Sl 26 a' ((4,.bool false)::dropL [4] l) df->N a' w):Rg N Q a w (r_zi 7):=
 reg (l0:=[]) [4] [4] [] hs trivial hN (by kernel_rfl)
theorem zi_r8(hs:Sl 26 a l df)
  (hN: ∀a',Sl 26 a' ((4,.bool true)::dropL [4] l) df->N a' w):Rg N Q a w (r_zi 8):=
 reg (l0:=[]) [4] [4] [] hs trivial hN (by kernel_rfl)
noncomputable def r_zt (n:Nat):Code:=((Tryz.f23.body.bind (findR n)).getD .skip)
noncomputable def ztL0:Code:=(.seq (.seq (r_zt 2) (.cond (.tmp 9) .skip (.exit 0))) (.seq (.block 1 (.seq (r_zt 4) (.cond (.tmp 17) (.seq (r_zt 5) .ret) .skip))) (r_zt 3)))
noncomputable def ztBody:Code:=(.seq (r_zt 0) (.seq (.seq (r_zt 1) (.block 0 (.loop ztL0))) (.seq (r_zt 6) .ret)))
theorem zt_body:Tryz.f23.body=some ztBody:=by kernel_rfl
theorem zt_r0(hs:Sl 18 a l df)
  (hN: ∀a',Sl 18 a' ((4,.bool false)::dropL [4] l) df->N a' w):Rg N Q a w (r_zt 0):=
 reg (l0:=[]) [4] [4] [] hs trivial hN (by kernel_rfl)
theorem zt_r1(hs:Sl 18 a l df)
  (hN: ∀a',Sl 18 a' ((5,ii 0)::dropL [5] l) df->N a' w):Rg N Q a w (r_zt 1):=
 reg (l0:=[]) [5] [5] [] hs trivial hN (by kernel_rfl)
theorem zt_r2{i sn sc:Nat}{sd:Option Addr}{b9:Bool}(hs:Sl 18 a l df)(e5:Lk l 5 (ii (i:Int)))(e0:Lk l 0 (.slice sd sn sc))(h0:decide ((i:Int)<(sn:Int))=b9)
  (hN: ∀a',Sl 18 a' ((9,.bool b9)::dropL [6,7,8,9] l) df->N a' w):Rg N Q a w (r_zt 2):=
 reg (l0:=[(5,ii (i:Int)),(0,.slice sd sn sc)]) [9] [6,7,8,9] [.bit b9] hs ⟨e5,e0,trivial⟩ (aI h0 hN) (by kernel_rfl)
theorem zt_r3{i:Nat}(hs:Sl 18 a l df)(e5:Lk l 5 (ii (i:Int)))(h0: -9223372036854775808<=(i:Int)+1/\(i:Int)+1<=9223372036854775807)
  (hN: ∀a',Sl 18 a' ((5,ii ((i:Int)+1))::dropL [5,10,11] l) df->N a' w):Rg N Q a w (r_zt 3):=
 reg (l0:=[(5,ii (i:Int))]) [5] [5,10,11] [.ari] hs ⟨e5,trivial⟩ (aI h0 hN) (by kernel_rfl)
theorem zt_r4{sd:Option Addr}{sn sc i g14 o14:Nat}{x n:Int}{b17:Bool}(hs:Sl 18 a l df)(e0:Lk l 0 (.slice sd sn sc))(e5:Lk l 5 (ii (i:Int)))(e1:Lk l 1 (ii n))(i0:Ix 24 (.slice sd sn sc) (ii (i:Int)) (pF g14 o14))(l1:Lp 3 (pF g14 o14) (ii x) w)(h2:decide (x=n)=b17)
  (hN: ∀a',Sl 18 a' ((17,.bool b17)::dropL [12,13,14,15,16,17] l) df->N a' w):Rg N Q a w (r_zt 4):=
 reg (l0:=[(0,.slice sd sn sc),(5,ii (i:Int)),(1,ii n)]) [17] [12,13,14,15,16,17] [.val (pF g14 o14),.val (ii x),.bit b17] hs ⟨e0,e5,e1,trivial⟩ (aI (i0 w) (aI l1.run (aI h2 hN))) (by kernel_rfl)
theorem zt_r5(hs:Sl 18 a l df)
  (hN: ∀a',Sl 18 a' ((4,.bool true)::dropL [4] l) df->N a' w):Rg N Q a w (r_zt 5):=
 reg (l0:=[]) [4] [4] [] hs trivial hN (by kernel_rfl)
theorem zt_r6(hs:Sl 18 a l df)
  (hN: ∀a',Sl 18 a' ((4,.bool false)::dropL [4] l) df->N a' w):Rg N Q a w (r_zt 6):=
 reg (l0:=[]) [4] [4] [] hs trivial hN (by kernel_rfl)
noncomputable def r_zo (n:Nat):Code:=((Tryz.f8.body.bind (findR n)).getD .skip)
noncomputable def zoL0:Code:=(.seq (.seq (r_zo 5) (.cond (.tmp 20) .skip (.exit 0))) (.seq (.block 1 (r_zo 7)) (r_zo 6)))
noncomputable def zoBody:Code:=(.seq (r_zo 0) (.seq (r_zo 1) (.seq (.seq (r_zo 2) (.cond (.tmp 12) (.seq (r_zo 3) .ret) .skip)) (.seq (.seq (r_zo 4) (.block 0 (.loop zoL0))) (.seq (r_zo 8) .ret)))))
theorem zo_body:Tryz.f8.body=some zoBody:=by kernel_rfl
theorem zo_r0(hs:Sl 30 a l df)
  (hN: ∀a',Sl 30 a' ((2,.pointer none)::dropL [2] l) df->N a' w):Rg N Q a w (r_zo 0):=
 reg (l0:=[]) [2] [2] [] hs trivial hN (by kernel_rfl)
theorem zo_r1{C0:Nat->World->Prop}(hs:Sl 30 a l df)(k0:Ca 25 #[] w fun e w'=> ∃gh:Nat,e=.returned (pT gh)/\C0 gh w')
  (hN: ∀a' (gh:Nat) (w1:World),C0 gh w1->Sl 30 a' ((3,pT w1.heap.size)::dropL [3,5,6,7] l) df->N a' (w1.alloc (.cells #[pT gh,.slice none 0 0,.slice none 0 0] 37))):Rg N Q a w (r_zo 1):=
 reg (l0:=[]) [3] [3,5,6,7] [.ex (Nat) (fun gh=>pT gh) C0,.raw,.raw] hs trivial (aI k0 (fun(gh:Nat) (w1:World) (hc0:C0 gh w1)=>(fun a'=>hN a' gh w1 hc0))) (by kernel_rfl)
theorem zo_r2{wp gh:Nat}{b12:Bool}(hs:Sl 30 a l df)(e3:Lk l 3 (pT wp))(l0:Lp 35 (pT wp) (pT gh) w)(h1: ∀w,(binOp .eql 35 (pT gh) (.pointer none)).run Tryz.prog w=.ok (.bool b12) w)
  (hN: ∀a',Sl 30 a' ((12,.bool b12)::dropL [8,9,10,11,12] l) df->N a' w):Rg N Q a w (r_zo 2):=
 reg (l0:=[(3,pT wp)]) [12] [8,9,10,11,12] [.val (pT gh),.bin (.bool b12)] hs ⟨e3,trivial⟩ (aI l0.run (aI (bin_run (x:=.tmp 11) (y:=.const (.pointer none)) (by kernel_rfl) (h1 w)) hN)) (by kernel_rfl)
theorem zo_r4(hs:Sl 30 a l df)
  (hN: ∀a',Sl 30 a' ((4,ii 0)::dropL [4] l) df->N a' w):Rg N Q a w (r_zo 4):=
 reg (l0:=[]) [4] [4] [] hs trivial hN (by kernel_rfl)
theorem zo_r5_t{i an aq:Nat}{ad:Option Addr}{b19:Bool}(hs:Sl 30 a l df)(e4:Lk l 4 (ii (i:Int)))(e0:Lk l 0 (.slice ad an aq))(h0:decide ((i:Int)<(an:Int))=true)(h1:decide ((i:Int)<80)=b19)
  (hN: ∀a',Sl 30 a' ((20,.bool b19)::dropL (List.range' 13 8) l) df->N a' w):Rg N Q a w (r_zo 5):=
 reg (l0:=[(4,ii (i:Int)),(0,.slice ad an aq)]) [20] (List.range' 13 8) [.bit true,.bit b19] hs ⟨e4,e0,trivial⟩ (aI h0 (aI h1 hN)) (by kernel_rfl)
theorem zo_r5_f{i an aq:Nat}{ad:Option Addr}(hs:Sl 30 a l df)(e4:Lk l 4 (ii (i:Int)))(e0:Lk l 0 (.slice ad an aq))(h0:decide ((i:Int)<(an:Int))=false)
  (hN: ∀a',Sl 30 a' ((20,.bool false)::dropL (List.range' 13 8) l) df->N a' w):Rg N Q a w (r_zo 5):=
 reg (l0:=[(4,ii (i:Int)),(0,.slice ad an aq)]) [20] (List.range' 13 8) [.bit false] hs ⟨e4,e0,trivial⟩ (aI h0 hN) (by kernel_rfl)
theorem zo_r6{i:Nat}(hs:Sl 30 a l df)(e4:Lk l 4 (ii (i:Int)))(h0: -9223372036854775808<=(i:Int)+1/\(i:Int)+1<=9223372036854775807)
  (hN: ∀a',Sl 30 a' ((4,ii ((i:Int)+1))::dropL [4,21,22] l) df->N a' w):Rg N Q a w (r_zo 6):=
 reg (l0:=[(4,ii (i:Int))]) [4] [4,21,22] [.ari] hs ⟨e4,trivial⟩ (aI h0 hN) (by kernel_rfl)
theorem zo_r7{wp an aq i g26 o26:Nat}{ad:Option Addr}{ak aa ab ac:Int}{C0:World->Prop}(hs:Sl 30 a l df)(e3:Lk l 3 (pT wp))(e0:Lk l 0 (.slice ad an aq))(e4:Lk l 4 (ii (i:Int)))(i0:Ix 22 (.slice ad an aq) (ii (i:Int)) (pF g26 o26))(l1:Lp 59 (pF g26 o26) (.agg #[ii ak,ii aa,ii ab,ii ac]) w)(k2:Cl 26 #[pT wp,.agg #[ii ak,ii aa,ii ab,ii ac]] w (.tuple #[]) C0)
  (hN: ∀a' (w1:World),C0 w1->Sl 30 a' (dropL [23,24,25,26,27,28] l) df->N a' w1):Rg N Q a w (r_zo 7):=
 reg (l0:=[(3,pT wp),(0,.slice ad an aq),(4,ii (i:Int))]) [] [23,24,25,26,27,28] [.val (pF g26 o26),.val (.agg #[ii ak,ii aa,ii ab,ii ac]),.ret (.tuple #[]) C0] hs ⟨e3,e0,e4,trivial⟩ (aI (i0 w) (aI l1.run (aI k2 (fun(w1:World) (hc0:C0 w1)=>(fun a'=>hN a' w1 hc0))))) (by kernel_rfl)
theorem zo_r8{wp:Nat}(hs:Sl 30 a l df)(e3:Lk l 3 (pT wp))
  (hN: ∀a',Sl 30 a' ((2,pT wp)::dropL [2,29] l) df->N a' w):Rg N Q a w (r_zo 8):=
 reg (l0:=[(3,pT wp)]) [2] [2,29] [] hs ⟨e3,trivial⟩ hN (by kernel_rfl)
noncomputable def r_zk (n:Nat):Code:=((Tryz.f6.body.bind (findR n)).getD .skip)
noncomputable def zkBody:Code:=(.seq (r_zk 0) (.seq (r_zk 1) (.seq (.seq (r_zk 2) (.cond (.tmp 26) (.seq (r_zk 3) .ret) .skip)) (.seq (r_zk 4) (.seq (r_zk 5) (.seq (r_zk 6) (.seq (r_zk 7) (.seq (r_zk 8) (.seq (r_zk 9) (.seq (r_zk 10) (.seq (r_zk 11) (.seq (r_zk 12) .ret))))))))))))
theorem zk_body:Tryz.f6.body=some zkBody:=by kernel_rfl
theorem zk_r0(hs:Sl 77 a l df)
  (hN: ∀a',Sl 77 a' ((0,.bool false)::dropL [0] l) df->N a' w):Rg N Q a w (r_zk 0):=
 reg (l0:=[]) [0] [0] [] hs trivial hN (by kernel_rfl)
theorem zk_r1{C0:Nat->World->Prop}(hs:Sl 77 a l df)(k0:Ca 8 #[.slice (some ⟨w.heap.size,0,none⟩) 5 5] (w.alloc (.cells #[ii 3,ii 0,ii 3,ii 0,ii 1,ii 1,ii 0,ii 0,ii 2,ii 2,ii 0,ii 0,ii 4,ii 0,ii 0,ii 0,ii 7,ii 0,ii 3,ii 5] 59)) fun e w'=> ∃wp:Nat,e=.returned (pT wp)/\C0 wp w')
  (hN: ∀a' (wp:Nat) (w1:World),C0 wp w1->Sl 77 a' ((1,pT wp)::dropL (1::List.range' 10 7) l) df->N a' w1):Rg N Q a w (r_zk 1):=
 reg (l0:=[]) [1] (1::List.range' 10 7) [.raw,.raw,.raw,.raw,.raw,.raw,.ex (Nat) (fun wp=>pT wp) C0] hs trivial (aI k0 (fun(wp:Nat) (w1:World) (hc0:C0 wp w1)=>(fun a'=>hN a' wp w1 hc0))) (by kernel_rfl)
theorem zk_r2_f{wp dn dc:Nat}{dd:Option Addr}{b25:Bool}(hs:Sl 77 a l df)(e1:Lk l 1 (pT wp))(h0: ∀w,(binOp .eql 27 (pT wp) (.pointer none)).run Tryz.prog w=.ok (.bool false) w)(l1:Lp 23 (pF wp 1) (.slice dd dn dc) w)(h2:decide ((dn:Int)≠4)=b25)
  (hN: ∀a',Sl 77 a' ((26,.bool b25)::dropL (List.range' 17 10) l) df->N a' w):Rg N Q a w (r_zk 2):=
 reg (l0:=[(1,pT wp)]) [26] (List.range' 17 10) [.bin (.bool false),.val (.slice dd dn dc),.bit b25] hs ⟨e1,trivial⟩ (aI (bin_run (x:=.tmp 17) (y:=.const (.pointer none)) (by kernel_rfl) (h0 w)) (aI l1.run (aI h2 hN))) (by kernel_rfl)
theorem zk_r4{wp dn dc g31 o31:Nat}{dd:Option Addr}{d:Dt}{m:Dm}(hs:Sl 77 a l df)(e1:Lk l 1 (pT wp))(l0:Lp 23 (pF wp 1) (.slice dd dn dc) w)(i1:Ix 23 (.slice dd dn dc) (ii 2) (pF g31 o31))(l2:Lp 53 (pF g31 o31) (.agg (d.cs m)) w)
  (hN: ∀a',Sl 77 a' ((2,.slice (some ⟨w.heap.size,0,none⟩) 1 1)::dropL (2::List.range' 27 7) l) df->N a' (w.alloc (.cells #[ii d.h.kind,.string d.h.type,ii d.h.n,.int .u64 d.h.f,.string d.h.s,ii d.h.obj,ii d.h.frm,ii d.h.len,ii d.h.cap,.slice m.pa d.h.path.length m.pc,.slice m.ia d.k.len m.ic] 53))):Rg N Q a w (r_zk 4):=
 reg (l0:=[(1,pT wp)]) [2] (2::List.range' 27 7) [.val (.slice dd dn dc),.val (pF g31 o31),.val (.agg (d.cs m)),.raw] hs ⟨e1,trivial⟩ (aI l0.run (aI (i1 w) (aI l2.run hN))) (by kernel_rfl)
theorem zk_r5{wp gh ln lc:Nat}{ld:Option Addr}{C0:S3->World->Prop}(hs:Sl 77 a l df)(e1:Lk l 1 (pT wp))(e2:Lk l 2 (.slice ld ln lc))(l0:Lp 35 (pT wp) (pT gh) w)(k1:Ca 12 #[pT gh,.slice ld ln lc,.slice none 0 0] w fun e w'=> ∃q:S3,e=.returned (.slice q.d q.n q.c)/\C0 q w')
  (hN: ∀a' (q:S3) (w1:World),C0 q w1->Sl 77 a' ((3,.slice q.d q.n q.c)::dropL (3::List.range' 34 6) l) df->N a' w1):Rg N Q a w (r_zk 5):=
 reg (l0:=[(1,pT wp),(2,.slice ld ln lc)]) [3] (3::List.range' 34 6) [.val (pT gh),.ex (S3) (fun q=>.slice q.d q.n q.c) C0] hs ⟨e1,e2,trivial⟩ (aI l0.run (aI k1 (fun(q:S3) (w1:World) (hc0:C0 q w1)=>(fun a'=>hN a' q w1 hc0)))) (by kernel_rfl)
theorem zk_r6{wp gh ln lc:Nat}{ld:Option Addr}{C0:S3->World->Prop}(hs:Sl 77 a l df)(e1:Lk l 1 (pT wp))(e2:Lk l 2 (.slice ld ln lc))(l0:Lp 35 (pT wp) (pT gh) w)(k1:Ca 13 #[pT gh,.slice ld ln lc,.slice none 0 0,ii 1] w fun e w'=> ∃q:S3,e=.returned (.slice q.d q.n q.c)/\C0 q w')
  (hN: ∀a' (q:S3) (w1:World),C0 q w1->Sl 77 a' ((4,.slice q.d q.n q.c)::dropL (4::List.range' 40 6) l) df->N a' w1):Rg N Q a w (r_zk 6):=
 reg (l0:=[(1,pT wp),(2,.slice ld ln lc)]) [4] (4::List.range' 40 6) [.val (pT gh),.ex (S3) (fun q=>.slice q.d q.n q.c) C0] hs ⟨e1,e2,trivial⟩ (aI l0.run (aI k1 (fun(q:S3) (w1:World) (hc0:C0 q w1)=>(fun a'=>hN a' q w1 hc0)))) (by kernel_rfl)
theorem zk_r7{wp gh ln lc:Nat}{ld:Option Addr}{n:Int}{C0:World->Prop}(hs:Sl 77 a l df)(e1:Lk l 1 (pT wp))(e2:Lk l 2 (.slice ld ln lc))(l0:Lp 35 (pT wp) (pT gh) w)(k1:Cl 18 #[pT gh,.slice ld ln lc,.slice none 0 0] w (ii n) C0)
  (hN: ∀a' (w1:World),C0 w1->Sl 77 a' ((5,ii n)::dropL (5::List.range' 46 6) l) df->N a' w1):Rg N Q a w (r_zk 7):=
 reg (l0:=[(1,pT wp),(2,.slice ld ln lc)]) [5] (5::List.range' 46 6) [.val (pT gh),.ret (ii n) C0] hs ⟨e1,e2,trivial⟩ (aI l0.run (aI k1 (fun(w1:World) (hc0:C0 w1)=>(fun a'=>hN a' w1 hc0)))) (by kernel_rfl)
theorem zk_r8{wp gh:Nat}{C0:S3->World->Prop}(hs:Sl 77 a l df)(e1:Lk l 1 (pT wp))(l0:Lp 35 (pT wp) (pT gh) w)(k1:Ca 19 #[pT gh] w fun e w'=> ∃q:S3,e=.returned (.slice q.d q.n q.c)/\C0 q w')
  (hN: ∀a' (q:S3) (w1:World),C0 q w1->Sl 77 a' ((6,.slice q.d q.n q.c)::dropL [6,52,53,54,55,56] l) df->N a' w1):Rg N Q a w (r_zk 8):=
 reg (l0:=[(1,pT wp)]) [6] [6,52,53,54,55,56] [.val (pT gh),.ex (S3) (fun q=>.slice q.d q.n q.c) C0] hs ⟨e1,trivial⟩ (aI l0.run (aI k1 (fun(q:S3) (w1:World) (hc0:C0 q w1)=>(fun a'=>hN a' q w1 hc0)))) (by kernel_rfl)
theorem zk_r9{ad:Option Addr}{an ac:Nat}{b:Bool}{C0:World->Prop}(hs:Sl 77 a l df)(e3:Lk l 3 (.slice ad an ac))(k0:Cl 16 #[.slice ad an ac,.slice (some ⟨w.heap.size,0,none⟩) 3 3] (w.alloc (.cells #[ii 1,ii 2,ii 3] 3)) (.bool b) C0)
  (hN: ∀a' (w1:World),C0 w1->Sl 77 a' ((7,.bool b)::dropL [7,57,58,59] l) df->N a' w1):Rg N Q a w (r_zk 9):=
 reg (l0:=[(3,.slice ad an ac)]) [7] [7,57,58,59] [.raw,.ret (.bool b) C0] hs ⟨e3,trivial⟩ (aI k0 (fun(w1:World) (hc0:C0 w1)=>(fun a'=>hN a' w1 hc0))) (by kernel_rfl)
theorem zk_r10{bd:Option Addr}{bn bc:Nat}{b:Bool}{C0:World->Prop}(hs:Sl 77 a l df)(e4:Lk l 4 (.slice bd bn bc))(k0:Cl 16 #[.slice bd bn bc,.slice (some ⟨w.heap.size,0,none⟩) 3 3] (w.alloc (.cells #[ii 3,ii 2,ii 1] 3)) (.bool b) C0)
  (hN: ∀a' (w1:World),C0 w1->Sl 77 a' ((8,.bool b)::dropL [8,60,61,62] l) df->N a' w1):Rg N Q a w (r_zk 10):=
 reg (l0:=[(4,.slice bd bn bc)]) [8] [8,60,61,62] [.raw,.ret (.bool b) C0] hs ⟨e4,trivial⟩ (aI k0 (fun(w1:World) (hc0:C0 w1)=>(fun a'=>hN a' w1 hc0))) (by kernel_rfl)
theorem zk_r11{cd:Option Addr}{cn cc:Nat}{b:Bool}{C0:World->Prop}(hs:Sl 77 a l df)(e6:Lk l 6 (.slice cd cn cc))(k0:Cl 16 #[.slice cd cn cc,.slice (some ⟨w.heap.size,0,none⟩) 3 3] (w.alloc (.cells #[ii 1,ii 2,ii 3] 3)) (.bool b) C0)
  (hN: ∀a' (w1:World),C0 w1->Sl 77 a' ((9,.bool b)::dropL [9,63,64,65] l) df->N a' w1):Rg N Q a w (r_zk 11):=
 reg (l0:=[(6,.slice cd cn cc)]) [9] [9,63,64,65] [.raw,.ret (.bool b) C0] hs ⟨e6,trivial⟩ (aI k0 (fun(w1:World) (hc0:C0 w1)=>(fun a'=>hN a' w1 hc0))) (by kernel_rfl)
theorem zk_r12_ttt{n5:Int}{b75:Bool}(hs:Sl 77 a l df)(e7:Lk l 7 (.bool true))(e8:Lk l 8 (.bool true))(e9:Lk l 9 (.bool true))(e5:Lk l 5 (ii n5))(h0:decide (n5=1)=b75)
  (hN: ∀a',Sl 77 a' ((0,.bool b75)::dropL (0::List.range' 66 11) l) df->N a' w):Rg N Q a w (r_zk 12):=
 reg (l0:=[(7,.bool true),(8,.bool true),(9,.bool true),(5,ii n5)]) [0] (0::List.range' 66 11) [.bit b75] hs ⟨e7,e8,e9,e5,trivial⟩ (aI h0 hN) (by kernel_rfl)
noncomputable def r_zy (n:Nat):Code:=((Tryz.f5.body.bind (findR n)).getD .skip)
noncomputable def zyL0:Code:=(.seq (.seq (r_zy 25) (.cond (.tmp 98) .skip (.exit 4))) (.seq (.block 5 (.seq (r_zy 27) (.cond (.tmp 109) (.seq (r_zy 28) .ret) .skip))) (r_zy 26)))
noncomputable def zyL1:Code:=(.seq (.seq (r_zy 20) (.cond (.tmp 88) .skip (.exit 2))) (.seq (.block 3 (.seq (.seq (r_zy 22) (.cond (.tmp 95) (.seq (r_zy 23) .ret) .skip)) (.seq (.seq (r_zy 24) (.block 4 (.loop zyL0))) (.seq (r_zy 29) (.seq (.seq (r_zy 30) (.cond (.tmp 119) (.seq (r_zy 31) .ret) .skip)) (.seq (r_zy 32) (.cond (.tmp 121) (.seq (r_zy 33) (.seq (r_zy 34) (.cond (.tmp 138) (.seq (r_zy 35) .ret) .skip))) .skip))))))) (r_zy 21)))
noncomputable def zyL2:Code:=(.seq (.seq (r_zy 8) (.cond (.tmp 37) .skip (.exit 0))) (.seq (.block 1 (.seq (r_zy 10) (.seq (r_zy 11) (r_zy 12)))) (r_zy 9)))
noncomputable def zyBody:Code:=(.seq (r_zy 0) (.seq (r_zy 1) (.seq (r_zy 2) (.seq (.seq (r_zy 3) (.cond (.tmp 29) (.seq (r_zy 4) .ret) .skip)) (.seq (r_zy 5) (.seq (r_zy 6) (.seq (.seq (r_zy 7) (.block 0 (.loop zyL2))) (.seq (r_zy 13) (.seq (r_zy 14) (.seq (r_zy 15) (.seq (r_zy 16) (.seq (.seq (r_zy 17) (.cond (.tmp 84) (.seq (r_zy 18) .ret) .skip)) (.seq (.seq (r_zy 19) (.block 2 (.loop zyL1))) (.seq (r_zy 36) .ret))))))))))))))
theorem zy_body:Tryz.f5.body=some zyBody:=by kernel_rfl
theorem zy_r0(hs:Sl 152 a l df)
  (hN: ∀a',Sl 152 a' ((6,.bool false)::dropL [6] l) df->N a' w):Rg N Q a w (r_zy 0):=
 reg (l0:=[]) [6] [6] [] hs trivial hN (by kernel_rfl)
theorem zy_r1{b:Bool}{C0:World->Prop}(hs:Sl 152 a l df)(k0:Cl 6 #[] w (.bool b) C0)
  (hN: ∀a' (w1:World),C0 w1->Sl 152 a' ((7,.bool b)::dropL [7,21] l) df->N a' w1):Rg N Q a w (r_zy 1):=
 reg (l0:=[]) [7] [7,21] [.ret (.bool b) C0] hs trivial (aI k0 (fun(w1:World) (hc0:C0 w1)=>(fun a'=>hN a' w1 hc0))) (by kernel_rfl)
theorem zy_r2{ad:Option Addr}{an ac:Nat}{C0:Nat->World->Prop}(hs:Sl 152 a l df)(e0:Lk l 0 (.slice ad an ac))(k0:Ca 8 #[.slice ad an ac] w fun e w'=> ∃wp:Nat,e=.returned (pT wp)/\C0 wp w')
  (hN: ∀a' (wp:Nat) (w1:World),C0 wp w1->Sl 152 a' ((8,pT wp)::dropL [8,22,23] l) df->N a' w1):Rg N Q a w (r_zy 2):=
 reg (l0:=[(0,.slice ad an ac)]) [8] [8,22,23] [.ex (Nat) (fun wp=>pT wp) C0] hs ⟨e0,trivial⟩ (aI k0 (fun(wp:Nat) (w1:World) (hc0:C0 wp w1)=>(fun a'=>hN a' wp w1 hc0))) (by kernel_rfl)
theorem zy_r3_t{wp:Nat}{b28:Bool}(hs:Sl 152 a l df)(e7:Lk l 7 (.bool true))(e8:Lk l 8 (pT wp))(h0: ∀w,(binOp .eql 27 (pT wp) (.pointer none)).run Tryz.prog w=.ok (.bool b28) w)
  (hN: ∀a',Sl 152 a' ((29,.bool b28)::dropL [24,25,26,27,28,29] l) df->N a' w):Rg N Q a w (r_zy 3):=
 reg (l0:=[(7,.bool true),(8,pT wp)]) [29] [24,25,26,27,28,29] [.bin (.bool b28)] hs ⟨e7,e8,trivial⟩ (aI (bin_run (x:=.tmp 27) (y:=.const (.pointer none)) (by kernel_rfl) (h0 w)) hN) (by kernel_rfl)
theorem zy_r5(hs:Sl 152 a l df)
  (hN: ∀a',Sl 152 a' ((9,.slice none 0 0)::dropL [9] l) df->N a' w):Rg N Q a w (r_zy 5):=
 reg (l0:=[]) [9] [9] [] hs trivial hN (by kernel_rfl)
theorem zy_r6(hs:Sl 152 a l df)
  (hN: ∀a',Sl 152 a' ((10,.slice none 0 0)::dropL [10] l) df->N a' w):Rg N Q a w (r_zy 6):=
 reg (l0:=[]) [10] [10] [] hs trivial hN (by kernel_rfl)
theorem zy_r7(hs:Sl 152 a l df)
  (hN: ∀a',Sl 152 a' ((11,ii 0)::dropL [11] l) df->N a' w):Rg N Q a w (r_zy 7):=
 reg (l0:=[]) [11] [11] [] hs trivial hN (by kernel_rfl)
theorem zy_r8_t{i sn sc:Nat}{sd:Option Addr}{b36:Bool}(hs:Sl 152 a l df)(e11:Lk l 11 (ii (i:Int)))(e1:Lk l 1 (.slice sd sn sc))(h0:decide ((i:Int)<(sn:Int))=true)(h1:decide ((i:Int)<20)=b36)
  (hN: ∀a',Sl 152 a' ((37,.bool b36)::dropL (List.range' 30 8) l) df->N a' w):Rg N Q a w (r_zy 8):=
 reg (l0:=[(11,ii (i:Int)),(1,.slice sd sn sc)]) [37] (List.range' 30 8) [.bit true,.bit b36] hs ⟨e11,e1,trivial⟩ (aI h0 (aI h1 hN)) (by kernel_rfl)
theorem zy_r8_f{i sn sc:Nat}{sd:Option Addr}(hs:Sl 152 a l df)(e11:Lk l 11 (ii (i:Int)))(e1:Lk l 1 (.slice sd sn sc))(h0:decide ((i:Int)<(sn:Int))=false)
  (hN: ∀a',Sl 152 a' ((37,.bool false)::dropL (List.range' 30 8) l) df->N a' w):Rg N Q a w (r_zy 8):=
 reg (l0:=[(11,ii (i:Int)),(1,.slice sd sn sc)]) [37] (List.range' 30 8) [.bit false] hs ⟨e11,e1,trivial⟩ (aI h0 hN) (by kernel_rfl)
theorem zy_r9{i:Nat}(hs:Sl 152 a l df)(e11:Lk l 11 (ii (i:Int)))(h0: -9223372036854775808<=(i:Int)+1/\(i:Int)+1<=9223372036854775807)
  (hN: ∀a',Sl 152 a' ((11,ii ((i:Int)+1))::dropL [11,38,39] l) df->N a' w):Rg N Q a w (r_zy 9):=
 reg (l0:=[(11,ii (i:Int))]) [11] [11,38,39] [.ari] hs ⟨e11,trivial⟩ (aI h0 hN) (by kernel_rfl)
theorem zy_r10{wp sn sc i g43 o43:Nat}{sd:Option Addr}{c:Int}{d:Dt}{dm:Dm}{C0:World->Prop}(hs:Sl 152 a l df)(e8:Lk l 8 (pT wp))(e1:Lk l 1 (.slice sd sn sc))(e11:Lk l 11 (ii (i:Int)))(i0:Ix 24 (.slice sd sn sc) (ii (i:Int)) (pF g43 o43))(l1:Lp 3 (pF g43 o43) (ii c) w)(k2:Cl 22 #[pT wp,ii c] w (.agg (d.cs dm)) C0)(s3: ∀(w1:World),C0 w1->So 53 w1.heap.size 0 (.agg (d.cs dm)) (w1.alloc (.cells zA 53)) (d.cs dm).toList)
  (hN: ∀a' (w1:World),C0 w1->Sl 152 a' ((12,pT w1.heap.size)::dropL (12::List.range' 40 6) l) df->N a' ((w1.alloc (.cells zA 53)).setCells w1.heap.size 0 (d.cs dm).toList)):Rg N Q a w (r_zy 10):=
 reg (l0:=[(8,pT wp),(1,.slice sd sn sc),(11,ii (i:Int))]) [12] (12::List.range' 40 6) [.val (pF g43 o43),.val (ii c),.ret (.agg (d.cs dm)) C0,.raw,.sto] hs ⟨e8,e1,e11,trivial⟩ (aI (i0 w) (aI l1.run (aI k2 (fun(w1:World) (hc0:C0 w1)=>(aI (s3 w1 hc0) (fun a'=>hN a' w1 hc0)))))) (by kernel_rfl)
theorem zy_r11{ld:Option Addr}{ln lc g12:Nat}{d:Dt}{dm:Dm}{C0:World->S3->World->Prop}(hs:Sl 152 a l df)(e9:Lk l 9 (.slice ld ln lc))(e12:Lk l 12 (pT g12))(l0:Lp 53 (pT g12) (.agg (d.cs dm)) w)(k1: ∀ty,∃v w',(Builtin.append_ #[23,23] ty #[.slice ld ln lc,.slice (some ⟨w.heap.size,0,none⟩) 1 1]).run Tryz.prog (w.alloc (.cells #[ii d.h.kind,.string d.h.type,ii d.h.n,.int .u64 d.h.f,.string d.h.s,ii d.h.obj,ii d.h.frm,ii d.h.len,ii d.h.cap,.slice dm.pa d.h.path.length dm.pc,.slice dm.ia d.k.len dm.ic] 53))=.ok v.v w'/\C0 (w.alloc (.cells #[ii d.h.kind,.string d.h.type,ii d.h.n,.int .u64 d.h.f,.string d.h.s,ii d.h.obj,ii d.h.frm,ii d.h.len,ii d.h.cap,.slice dm.pa d.h.path.length dm.pc,.slice dm.ia d.k.len dm.ic] 53)) v w')
  (hN: ∀a' (x49:S3) (w1:World),C0 (w.alloc (.cells #[ii d.h.kind,.string d.h.type,ii d.h.n,.int .u64 d.h.f,.string d.h.s,ii d.h.obj,ii d.h.frm,ii d.h.len,ii d.h.cap,.slice dm.pa d.h.path.length dm.pc,.slice dm.ia d.k.len dm.ic] 53)) x49 w1->Sl 152 a' ((9,.slice x49.d x49.n x49.c)::dropL [9,46,47,48,49] l) df->N a' w1):Rg N Q a w (r_zy 11):=
 reg (l0:=[(9,.slice ld ln lc),(12,pT g12)]) [9] [9,46,47,48,49] [.val (.agg (d.cs dm)),.raw,.apxw S3 S3.v C0] hs ⟨e9,e12,trivial⟩ (aI l0.run (aI k1 (fun(x49:S3) (w1:World) (hc0:C0 (w.alloc (.cells #[ii d.h.kind,.string d.h.type,ii d.h.n,.int .u64 d.h.f,.string d.h.s,ii d.h.obj,ii d.h.frm,ii d.h.len,ii d.h.cap,.slice dm.pa d.h.path.length dm.pc,.slice dm.ia d.k.len dm.ic] 53)) x49 w1)=>(fun a'=>hN a' x49 w1 hc0)))) (by kernel_rfl)
theorem zy_r12{rd:Option Addr}{rn rc g12:Nat}{o:Int}{C0:World->S3->World->Prop}(hs:Sl 152 a l df)(e10:Lk l 10 (.slice rd rn rc))(e12:Lk l 12 (pT g12))(l0:Lp 3 (pF g12 (5+0)) (ii o) w)(k1: ∀ty,∃v w',(Builtin.append_ #[24,24] ty #[.slice rd rn rc,.slice (some ⟨w.heap.size,0,none⟩) 1 1]).run Tryz.prog (w.alloc (.cells #[ii o] 3))=.ok v.v w'/\C0 (w.alloc (.cells #[ii o] 3)) v w')
  (hN: ∀a' (x55:S3) (w1:World),C0 (w.alloc (.cells #[ii o] 3)) x55 w1->Sl 152 a' ((10,.slice x55.d x55.n x55.c)::dropL (10::List.range' 50 6) l) df->N a' w1):Rg N Q a w (r_zy 12):=
 reg (l0:=[(10,.slice rd rn rc),(12,pT g12)]) [10] (10::List.range' 50 6) [.val (ii o),.raw,.apxw S3 S3.v C0] hs ⟨e10,e12,trivial⟩ (aI l0.run (aI k1 (fun(x55:S3) (w1:World) (hc0:C0 (w.alloc (.cells #[ii o] 3)) x55 w1)=>(fun a'=>hN a' x55 w1 hc0)))) (by kernel_rfl)
theorem zy_r13{tz:Int}{wp dn dc n:Nat}{dd:Option Addr}{C0:World->Prop}(hs:Sl 152 a l df)(e2:Lk l 2 (ii tz))(e8:Lk l 8 (pT wp))(l0:Lp 23 (pF wp 1) (.slice dd dn dc) w)(h1: -9223372036854775808<=(dn:Int)+2/\(dn:Int)+2<=9223372036854775807)(k2:Cl 10 #[ii tz,ii ((dn:Int)+2)] w (ii (n:Int)) C0)
  (hN: ∀a' (w1:World),C0 w1->Sl 152 a' ((13,ii (n:Int))::dropL (13::List.range' 56 8) l) df->N a' w1):Rg N Q a w (r_zy 13):=
 reg (l0:=[(2,ii tz),(8,pT wp)]) [13] (13::List.range' 56 8) [.val (.slice dd dn dc),.ari,.ret (ii (n:Int)) C0] hs ⟨e2,e8,trivial⟩ (aI l0.run (aI h1 (aI k2 (fun(w1:World) (hc0:C0 w1)=>(fun a'=>hN a' w1 hc0))))) (by kernel_rfl)
theorem zy_r14{wp gh ln lc go:Nat}{ld:Option Addr}{C0:S3->World->Prop}(hs:Sl 152 a l df)(e8:Lk l 8 (pT wp))(e9:Lk l 9 (.slice ld ln lc))(e13:Lk l 13 (ii (go:Int)))(l0:Lp 35 (pT wp) (pT gh) w)(k1:Ca 13 #[pT gh,.slice ld ln lc,.slice none 0 0,ii (go:Int)] w fun e w'=> ∃g:S3,e=.returned (.slice g.d g.n g.c)/\C0 g w')
  (hN: ∀a' (g:S3) (w1:World),C0 g w1->Sl 152 a' ((14,.slice g.d g.n g.c)::dropL (14::List.range' 64 7) l) df->N a' w1):Rg N Q a w (r_zy 14):=
 reg (l0:=[(8,pT wp),(9,.slice ld ln lc),(13,ii (go:Int))]) [14] (14::List.range' 64 7) [.val (pT gh),.ex (S3) (fun g=>.slice g.d g.n g.c) C0] hs ⟨e8,e9,e13,trivial⟩ (aI l0.run (aI k1 (fun(g:S3) (w1:World) (hc0:C0 g w1)=>(fun a'=>hN a' g w1 hc0)))) (by kernel_rfl)
theorem zy_r15{wp gh ln lc:Nat}{ld:Option Addr}{C0:S3->World->Prop}(hs:Sl 152 a l df)(e8:Lk l 8 (pT wp))(e9:Lk l 9 (.slice ld ln lc))(l0:Lp 35 (pT wp) (pT gh) w)(k1:Ca 12 #[pT gh,.slice ld ln lc,.slice none 0 0] w fun e w'=> ∃g:S3,e=.returned (.slice g.d g.n g.c)/\C0 g w')
  (hN: ∀a' (g:S3) (w1:World),C0 g w1->Sl 152 a' ((15,.slice g.d g.n g.c)::dropL (15::List.range' 71 6) l) df->N a' w1):Rg N Q a w (r_zy 15):=
 reg (l0:=[(8,pT wp),(9,.slice ld ln lc)]) [15] (15::List.range' 71 6) [.val (pT gh),.ex (S3) (fun g=>.slice g.d g.n g.c) C0] hs ⟨e8,e9,trivial⟩ (aI l0.run (aI k1 (fun(g:S3) (w1:World) (hc0:C0 g w1)=>(fun a'=>hN a' g w1 hc0)))) (by kernel_rfl)
theorem zy_r16{cd:Option Addr}{cn cc go:Nat}{b:Bool}{C0:World->Prop}(hs:Sl 152 a l df)(e15:Lk l 15 (.slice cd cn cc))(e13:Lk l 13 (ii (go:Int)))(k0:Cl 23 #[.slice cd cn cc,ii (go:Int)] w (.bool b) C0)
  (hN: ∀a' (w1:World),C0 w1->Sl 152 a' ((16,.bool b)::dropL [16,77,78,79] l) df->N a' w1):Rg N Q a w (r_zy 16):=
 reg (l0:=[(15,.slice cd cn cc),(13,ii (go:Int))]) [16] [16,77,78,79] [.ret (.bool b) C0] hs ⟨e15,e13,trivial⟩ (aI k0 (fun(w1:World) (hc0:C0 w1)=>(fun a'=>hN a' w1 hc0))) (by kernel_rfl)
theorem zy_r17{yd:Option Addr}{yn yc:Nat}{b82 is b84:Bool}(hs:Sl 152 a l df)(e14:Lk l 14 (.slice yd yn yc))(e16:Lk l 16 (.bool is))(h0:decide ((0:Int)<(yn:Int))=b82)(h1: ∀w,(binOp .neq 4 (.bool b82) (.bool is)).run Tryz.prog w=.ok (.bool b84) w)
  (hN: ∀a',Sl 152 a' ((84,.bool b84)::dropL [80,81,82,83,84] l) df->N a' w):Rg N Q a w (r_zy 17):=
 reg (l0:=[(14,.slice yd yn yc),(16,.bool is)]) [84] [80,81,82,83,84] [.bit b82,.bin (.bool b84)] hs ⟨e14,e16,trivial⟩ (aI h0 (aI (bin_run (x:=.tmp 82) (y:=.tmp 83) (by kernel_rfl) (h1 w)) hN)) (by kernel_rfl)
theorem zy_r19(hs:Sl 152 a l df)
  (hN: ∀a',Sl 152 a' ((17,ii 0)::dropL [17] l) df->N a' w):Rg N Q a w (r_zy 19):=
 reg (l0:=[]) [17] [17] [] hs trivial hN (by kernel_rfl)
theorem zy_r20{j yn yc:Nat}{yd:Option Addr}{b88:Bool}(hs:Sl 152 a l df)(e17:Lk l 17 (ii (j:Int)))(e14:Lk l 14 (.slice yd yn yc))(h0:decide ((j:Int)<(yn:Int))=b88)
  (hN: ∀a',Sl 152 a' ((88,.bool b88)::dropL [85,86,87,88] l) df->N a' w):Rg N Q a w (r_zy 20):=
 reg (l0:=[(17,ii (j:Int)),(14,.slice yd yn yc)]) [88] [85,86,87,88] [.bit b88] hs ⟨e17,e14,trivial⟩ (aI h0 hN) (by kernel_rfl)
theorem zy_r21{j:Nat}(hs:Sl 152 a l df)(e17:Lk l 17 (ii (j:Int)))(h0: -9223372036854775808<=(j:Int)+1/\(j:Int)+1<=9223372036854775807)
  (hN: ∀a',Sl 152 a' ((17,ii ((j:Int)+1))::dropL [17,89,90] l) df->N a' w):Rg N Q a w (r_zy 21):=
 reg (l0:=[(17,ii (j:Int))]) [17] [17,89,90] [.ari] hs ⟨e17,trivial⟩ (aI h0 hN) (by kernel_rfl)
theorem zy_r22{yd:Option Addr}{yn yc j g93 o93:Nat}{x:Int}{b95:Bool}(hs:Sl 152 a l df)(e14:Lk l 14 (.slice yd yn yc))(e17:Lk l 17 (ii (j:Int)))(i0:Ix 24 (.slice yd yn yc) (ii (j:Int)) (pF g93 o93))(l1:Lp 3 (pF g93 o93) (ii x) w)(h2:decide (x=0)=b95)
  (hN: ∀a',Sl 152 a' ((95,.bool b95)::dropL [91,92,93,94,95] l) df->N a' w):Rg N Q a w (r_zy 22):=
 reg (l0:=[(14,.slice yd yn yc),(17,ii (j:Int))]) [95] [91,92,93,94,95] [.val (pF g93 o93),.val (ii x),.bit b95] hs ⟨e14,e17,trivial⟩ (aI (i0 w) (aI l1.run (aI h2 hN))) (by kernel_rfl)
theorem zy_r24(hs:Sl 152 a l df)
  (hN: ∀a',Sl 152 a' ((18,ii 0)::dropL [18] l) df->N a' w):Rg N Q a w (r_zy 24):=
 reg (l0:=[]) [18] [18] [] hs trivial hN (by kernel_rfl)
theorem zy_r25{k j:Nat}{b98:Bool}(hs:Sl 152 a l df)(e18:Lk l 18 (ii (k:Int)))(e17:Lk l 17 (ii (j:Int)))(h0:decide ((k:Int)<(j:Int))=b98)
  (hN: ∀a',Sl 152 a' ((98,.bool b98)::dropL [96,97,98] l) df->N a' w):Rg N Q a w (r_zy 25):=
 reg (l0:=[(18,ii (k:Int)),(17,ii (j:Int))]) [98] [96,97,98] [.bit b98] hs ⟨e18,e17,trivial⟩ (aI h0 hN) (by kernel_rfl)
theorem zy_r26{k:Nat}(hs:Sl 152 a l df)(e18:Lk l 18 (ii (k:Int)))(h0: -9223372036854775808<=(k:Int)+1/\(k:Int)+1<=9223372036854775807)
  (hN: ∀a',Sl 152 a' ((18,ii ((k:Int)+1))::dropL [18,99,100] l) df->N a' w):Rg N Q a w (r_zy 26):=
 reg (l0:=[(18,ii (k:Int))]) [18] [18,99,100] [.ari] hs ⟨e18,trivial⟩ (aI h0 hN) (by kernel_rfl)
theorem zy_r27{yd:Option Addr}{yn yc k g103 o103 j g107 o107:Nat}{x y:Int}{b109:Bool}(hs:Sl 152 a l df)(e14:Lk l 14 (.slice yd yn yc))(e18:Lk l 18 (ii (k:Int)))(e17:Lk l 17 (ii (j:Int)))(i0:Ix 24 (.slice yd yn yc) (ii (k:Int)) (pF g103 o103))(l1:Lp 3 (pF g103 o103) (ii x) w)(i2:Ix 24 (.slice yd yn yc) (ii (j:Int)) (pF g107 o107))(l3:Lp 3 (pF g107 o107) (ii y) w)(h4:decide (x=y)=b109)
  (hN: ∀a' mm,Sl 152 a' ((109,.bool b109)::dropL (List.range' 101 9) l) df->N a' (w.drewN mm)):Rg N Q a w (r_zy 27):=
 regQ (l0:=[(14,.slice yd yn yc),(18,ii (k:Int)),(17,ii (j:Int))]) [109] (List.range' 101 9) [.val (pF g103 o103),.val (ii x),.val (pF g107 o107),.val (ii y),.bit b109] hs ⟨e14,e18,e17,trivial⟩ (aI i0 (aI l1 (aI i2 (aI l3 (aI h4 hN))))) (by kernel_rfl)
theorem zy_r29{rd yd:Option Addr}{rn rc yn yc j g113 o113:Nat}{x:Int}{b:Bool}{C0:World->Prop}(hs:Sl 152 a l df)(e10:Lk l 10 (.slice rd rn rc))(e14:Lk l 14 (.slice yd yn yc))(e17:Lk l 17 (ii (j:Int)))(i0:Ix 24 (.slice yd yn yc) (ii (j:Int)) (pF g113 o113))(l1:Lp 3 (pF g113 o113) (ii x) w)(k2:Cl 23 #[.slice rd rn rc,ii x] w (.bool b) C0)
  (hN: ∀a' (w1:World),C0 w1->Sl 152 a' ((19,.bool b)::dropL (19::List.range' 110 6) l) df->N a' w1):Rg N Q a w (r_zy 29):=
 reg (l0:=[(10,.slice rd rn rc),(14,.slice yd yn yc),(17,ii (j:Int))]) [19] (19::List.range' 110 6) [.val (pF g113 o113),.val (ii x),.ret (.bool b) C0] hs ⟨e10,e14,e17,trivial⟩ (aI (i0 w) (aI l1.run (aI k2 (fun(w1:World) (hc0:C0 w1)=>(fun a'=>hN a' w1 hc0))))) (by kernel_rfl)
theorem zy_r30{b19 b118 b119:Bool}{j:Nat}(hs:Sl 152 a l df)(e19:Lk l 19 (.bool b19))(e17:Lk l 17 (ii (j:Int)))(h0:decide ((j:Int)=0)=b118)(h1: ∀w,(binOp .neq 4 (.bool b19) (.bool b118)).run Tryz.prog w=.ok (.bool b119) w)
  (hN: ∀a',Sl 152 a' ((119,.bool b119)::dropL [116,117,118,119] l) df->N a' w):Rg N Q a w (r_zy 30):=
 reg (l0:=[(19,.bool b19),(17,ii (j:Int))]) [119] [116,117,118,119] [.bit b118,.bin (.bool b119)] hs ⟨e19,e17,trivial⟩ (aI h0 (aI (bin_run (x:=.tmp 116) (y:=.tmp 118) (by kernel_rfl) (h1 w)) hN)) (by kernel_rfl)
theorem zy_r32{j:Nat}{b121:Bool}(hs:Sl 152 a l df)(e17:Lk l 17 (ii (j:Int)))(h0:decide ((0:Int)<(j:Int))=b121)
  (hN: ∀a',Sl 152 a' ((121,.bool b121)::dropL [120,121] l) df->N a' w):Rg N Q a w (r_zy 32):=
 reg (l0:=[(17,ii (j:Int))]) [121] [120,121] [.bit b121] hs ⟨e17,trivial⟩ (aI h0 hN) (by kernel_rfl)
theorem zy_r33{C C1:World->Prop}{wp gh yn yc j g129 o129 g134 o134:Nat}{yd:Option Addr}{x y:Int}{C0:S3->World->Prop}{b:Bool}(hs:Sl 152 a l df)(e8:Lk l 8 (pT wp))(e14:Lk l 14 (.slice yd yn yc))(e17:Lk l 17 (ii (j:Int)))(c0:C (w.drewN 1))(l1: ∀u,C u->Lp 35 (pT wp) (pT gh) u)(h2: -9223372036854775808<=(j:Int)-1/\(j:Int)-1<=9223372036854775807)(i3:Ix 24 (.slice yd yn yc) (ii ((j:Int)-1)) (pF g129 o129))(l4: ∀u,C u->Lp 3 (pF g129 o129) (ii x) u)(i5:Ix 24 (.slice yd yn yc) (ii (j:Int)) (pF g134 o134))(l6: ∀u,C u->Lp 3 (pF g134 o134) (ii y) u)(k7:Ca 21 #[pT gh,ii x] (w.drewN 1) fun e w'=> ∃g:S3,e=.returned (.slice g.d g.n g.c)/\C0 g w')(c8: ∀(g:S3) (w1:World),C0 g w1->C w1)(k9: ∀(g:S3) (w1:World),C0 g w1->Cl 23 #[.slice g.d g.n g.c,ii y] w1 (.bool b) C1)
  (hN: ∀a' (g:S3) (w1:World) (w2:World),C0 g w1->C1 w2->Sl 152 a' ((20,.bool b)::dropL (20::List.range' 122 15) l) df->N a' w2):Rg N Q a w (r_zy 33):=
 regP (l0:=[(8,pT wp),(14,.slice yd yn yc),(17,ii (j:Int))]) 14 [(true,0),(true,1),(true,2),(true,3),(true,4),(true,5),(true,6),(true,7),(true,8),(true,10),(true,11),(true,12),(true,13),(false,9)] C [20] (20::List.range' 122 15) [.val (pT gh),.ari,.val (pF g129 o129),.val (ii x),.val (pF g134 o134),.val (ii y),.ex (S3) (fun g=>.slice g.d g.n g.c) C0,.ret (.bool b) C1] hs ⟨e8,e14,e17,trivial⟩ (aI c0 (aI c0 (aI c0 (aI c0 (aI (fun u hu=>(l1 u hu).run) (aI c0 (aI c0 (aI c0 (aI h2 (aI c0 (aI i3 (aI c0 (aI (fun u hu=>(l4 u hu).run) (aI c0 (aI c0 (aI c0 (aI i5 (aI c0 (aI (fun u hu=>(l6 u hu).run) (aI c0 (aI k7 (fun(g:S3) (w1:World) (hc0:C0 g w1)=>(aI (c8 g w1 hc0) (aI (k9 g w1 hc0) (fun(w2:World) (hc1:C1 w2)=>(fun a'=>hN a' g w1 w2 hc0 hc1)))))))))))))))))))))))))) (by kernel_rfl)
theorem zy_r34{b20:Bool}(hs:Sl 152 a l df)(e20:Lk l 20 (.bool b20))
  (hN: ∀a',Sl 152 a' ((138,.bool (!b20))::dropL [137,138] l) df->N a' w):Rg N Q a w (r_zy 34):=
 reg (l0:=[(20,.bool b20)]) [138] [137,138] [] hs ⟨e20,trivial⟩ hN (by kernel_rfl)
theorem zy_r36_t{yd:Option Addr}{yn yc:Nat}(hs:Sl 152 a l df)(e14:Lk l 14 (.slice yd yn yc))(h0:decide ((yn:Int)=0)=true)
  (hN: ∀a',Sl 152 a' ((6,.bool true)::dropL (6::List.range' 139 13) l) df->N a' w):Rg N Q a w (r_zy 36):=
 reg (l0:=[(14,.slice yd yn yc)]) [6] (6::List.range' 139 13) [.bit true] hs ⟨e14,trivial⟩ (aI h0 hN) (by kernel_rfl)
theorem zy_r36_f{yd:Option Addr}{yn yc g147 o147 go:Nat}{x:Int}{b150:Bool}(hs:Sl 152 a l df)(e14:Lk l 14 (.slice yd yn yc))(e13:Lk l 13 (ii (go:Int)))(h0:decide ((yn:Int)=0)=false)(h1: -9223372036854775808<=(yn:Int)-1/\(yn:Int)-1<=9223372036854775807)(i2:Ix 24 (.slice yd yn yc) (ii ((yn:Int)-1)) (pF g147 o147))(l3:Lp 3 (pF g147 o147) (ii x) w)(h4:decide (x=(go:Int))=b150)
  (hN: ∀a',Sl 152 a' ((6,.bool b150)::dropL (6::List.range' 139 13) l) df->N a' w):Rg N Q a w (r_zy 36):=
 reg (l0:=[(14,.slice yd yn yc),(13,ii (go:Int))]) [6] (6::List.range' 139 13) [.bit false,.ari,.val (pF g147 o147),.val (ii x),.bit b150] hs ⟨e14,e13,trivial⟩ (aI h0 (aI h1 (aI (i2 w) (aI l3.run (aI h4 hN))))) (by kernel_rfl)
end Go.Proofs.YtbjegfpfmnleeaaGreatDoor
