/-
   Written by an AI agent.
-/
import Derived.Test.YtlhfickniegooaaDoorProg
import Derived.Test.YtlhfickniegooaaDoorPk04
import Derived.Test.YtlhfickniegooaaDoorPk05
import Derived.Test.YtlhfickniegooaaDoorPk18
import Derived.Test.YtlhfickniegooaaDoorPk21
import Derived.Test.YtlhfickniegooaaDoorPk10
import Derived.Test.YtlhfickniegooaaDoorPk07
import Derived.Laws.Bits64b
import Derived.Test.YtlhfickniegooaaDoorPk08
namespace Go.Proofs.YtlhfickniegooaaDoor
open Go.RowKit Go.Sort
set_option maxRecDepth 100000
variable {a:Act} {w:World} {df:List Deferred} {N:Act->World->Prop} {Q:Exit->Act->World->Prop} {l:List (Nat×Value)}
noncomputable def r_to (n:Nat):Code:=((Tryd.f45.body.bind (findR n)).getD .skip)
noncomputable def toBody:Code:=(.seq (r_to 0) (.seq (r_to 1) (.seq (.seq (r_to 2) (.cond (.tmp 10) (.seq (r_to 3) .ret) .skip)) (.seq (.seq (r_to 4) (.block 0 (.seq (r_to 5) (.cond (.tmp 15) (.seq (r_to 6) (.seq (r_to 7) .ret)) (.seq (r_to 8) (.cond (.tmp 34) (.seq (r_to 9) (.seq (r_to 10) .ret)) .skip)))))) (.seq (r_to 11) .ret)))))
theorem to_body:Tryd.f45.body=some toBody:=by kernel_rfl
theorem to_r0{e:E9}(hs:Sl 52 a l df)(e1:Lk l 1 (.agg e.cs))
  (hN: ∀a',Sl 52 a' ((3,pT w.heap.size)::(4,.bool false)::dropL [3,4] l) df->N a' (w.alloc (.cells e.cs 116))):Rg N Q a w (r_to 0):=
 reg (l0:=[(1,.agg e.cs)]) [3,4] [3,4] [.raw] hs ⟨e1,trivial⟩ hN (by kernel_rfl)
theorem to_r1{g3:Nat}{e:E9}{b5:Bool}{C0:World->Prop}(hs:Sl 52 a l df)(e3:Lk l 3 (pT g3))(l0:Lp 116 (pT g3) (.agg e.cs) w)(k1:Cl 60 #[.agg e.cs] w (.bool b5) C0)
  (hN: ∀a' (w1:World),C0 w1->Sl 52 a' ((5,.bool b5)::dropL [5,8,9] l) df->N a' w1):Rg N Q a w (r_to 1):=
 reg (l0:=[(3,pT g3)]) [5] [5,8,9] [.val (.agg e.cs),.ret (.bool b5) C0] hs ⟨e3,trivial⟩ (aI l0.run (aI k1 (fun(w1:World) (hc0:C0 w1)=>(fun a'=>hN a' w1 hc0)))) (by kernel_rfl)
theorem to_r2{b5:Bool}(hs:Sl 52 a l df)(e5:Lk l 5 (.bool b5))
  (hN: ∀a',Sl 52 a' ((10,.bool b5)::dropL [10] l) df->N a' w):Rg N Q a w (r_to 2):=
 reg (l0:=[(5,.bool b5)]) [10] [10] [] hs ⟨e5,trivial⟩ hN (by kernel_rfl)
theorem to_r3(hs:Sl 52 a l df)(e0:Lk l 0 (.nilIface))
  (hN: ∀a',Sl 52 a' ((4,.bool true)::dropL [4,11,12] l) df->N a' w):Rg N Q a w (r_to 3):=
 reg (l0:=[(0,.nilIface)]) [4] [4,11,12] [.raw] hs ⟨e0,trivial⟩ hN (by kernel_rfl)
theorem to_r4w{g6:Nat}(hs:Sl 52 a l df)(e0:Lk l 0 (.iface 95 (pT g6)))
  (hN: ∀a',Sl 52 a' ((13,.iface 95 (pT g6))::dropL [13] l) df->N a' w):Rg N Q a w (r_to 4):=
 reg (l0:=[(0,.iface 95 (pT g6))]) [13] [13] [] hs ⟨e0,trivial⟩ hN (by kernel_rfl)
theorem to_r4f{g7:Nat}(hs:Sl 52 a l df)(e0:Lk l 0 (.iface 68 (pT g7)))
  (hN: ∀a',Sl 52 a' ((13,.iface 68 (pT g7))::dropL [13] l) df->N a' w):Rg N Q a w (r_to 4):=
 reg (l0:=[(0,.iface 68 (pT g7))]) [13] [13] [] hs ⟨e0,trivial⟩ hN (by kernel_rfl)
theorem to_r5w{g6:Nat}(hs:Sl 52 a l df)(e13:Lk l 13 (.iface 95 (pT g6)))(i0: ∀w,(Instr.typeAssert (.iface 95 (pT g6)) 34 95 true).run Tryd.prog w=.ok (.tuple #[pT g6,.bool true]) w)
  (hN: ∀a',Sl 52 a' ((15,.bool true)::(16,pT g6)::dropL [14,15,16] l) df->N a' w):Rg N Q a w (r_to 5):=
 reg (l0:=[(13,.iface 95 (pT g6))]) [15,16] [14,15,16] [.val (.tuple #[pT g6,.bool true])] hs ⟨e13,trivial⟩ (aI (i0 w) hN) (by kernel_rfl)
theorem to_r5f{g7:Nat}(hs:Sl 52 a l df)(e13:Lk l 13 (.iface 68 (pT g7)))(i0: ∀w,(Instr.typeAssert (.iface 68 (pT g7)) 34 95 true).run Tryd.prog w=.ok (.tuple #[.pointer none,.bool false]) w)
  (hN: ∀a',Sl 52 a' ((15,.bool false)::(16,.pointer none)::dropL [14,15,16] l) df->N a' w):Rg N Q a w (r_to 5):=
 reg (l0:=[(13,.iface 68 (pT g7))]) [15,16] [14,15,16] [.val (.tuple #[.pointer none,.bool false])] hs ⟨e13,trivial⟩ (aI (i0 w) hN) (by kernel_rfl)
theorem to_r6{g6:Nat}(hs:Sl 52 a l df)(e16:Lk l 16 (pT g6))
  (hN: ∀a',Sl 52 a' ((6,pT g6)::dropL [6] l) df->N a' w):Rg N Q a w (r_to 6):=
 reg (l0:=[(16,pT g6)]) [6] [6] [] hs ⟨e16,trivial⟩ hN (by kernel_rfl)
theorem to_r7_tt{g6 g3:Nat}{ec ep:Int}{es:ByteArray}{b31:Bool}(hs:Sl 52 a l df)(e6:Lk l 6 (pT g6))(e3:Lk l 3 (pT g3))(h0: ∀w,(binOp .neq 95 (pT g6) (.pointer none)).run Tryd.prog w=.ok (.bool true) w)(l1:Lp 98 (pT g6) (.agg #[ii ec,ii ep,.string es]) w)(l2:Lp 98 (pT g3) (.agg #[ii ec,ii ep,.string es]) w)(h3: ∀w,(binOp .eql 98 (.agg #[ii ec,ii ep,.string es]) (.agg #[ii ec,ii ep,.string es])).run Tryd.prog w=.ok (.bool true) w)(l4:Lp 96 (pT g3) (ii ec) w)(h5:decide (ec≠0)=b31)
  (hN: ∀a' mm,Sl 52 a' ((4,.bool b31)::dropL (4::List.range' 17 16) l) df->N a' (w.drewN mm)):Rg N Q a w (r_to 7):=
 regQ (l0:=[(6,pT g6),(3,pT g3)]) [4] (4::List.range' 17 16) [.bin (.bool true),.val (.agg #[ii ec,ii ep,.string es]),.val (.agg #[ii ec,ii ep,.string es]),.bin (.bool true),.val (ii ec),.bit b31] hs ⟨e6,e3,trivial⟩ (aI (fun w'=>bin_run (x:=.tmp 17) (y:=.const (.pointer none)) (by kernel_rfl) (h0 w')) (aI l1 (aI l2 (aI (fun w'=>bin_run (x:=.tmp 22) (y:=.tmp 24) (by kernel_rfl) (h3 w')) (aI l4 (aI h5 hN)))))) (by kernel_rfl)
theorem to_r8f{g7:Nat}(hs:Sl 52 a l df)(e13:Lk l 13 (.iface 68 (pT g7)))(i0: ∀w,(Instr.typeAssert (.iface 68 (pT g7)) 34 68 true).run Tryd.prog w=.ok (.tuple #[pT g7,.bool true]) w)
  (hN: ∀a',Sl 52 a' ((34,.bool true)::(35,pT g7)::dropL [33,34,35] l) df->N a' w):Rg N Q a w (r_to 8):=
 reg (l0:=[(13,.iface 68 (pT g7))]) [34,35] [33,34,35] [.val (.tuple #[pT g7,.bool true])] hs ⟨e13,trivial⟩ (aI (i0 w) hN) (by kernel_rfl)
theorem to_r9{g7:Nat}(hs:Sl 52 a l df)(e35:Lk l 35 (pT g7))
  (hN: ∀a',Sl 52 a' ((7,pT g7)::dropL [7] l) df->N a' w):Rg N Q a w (r_to 9):=
 reg (l0:=[(35,pT g7)]) [7] [7] [] hs ⟨e35,trivial⟩ hN (by kernel_rfl)
theorem to_r10_tt{g7 g3:Nat}{ew em:ByteArray}{ec:Int}{b50:Bool}(hs:Sl 52 a l df)(e7:Lk l 7 (pT g7))(e3:Lk l 3 (pT g3))(h0: ∀w,(binOp .neq 68 (pT g7) (.pointer none)).run Tryd.prog w=.ok (.bool true) w)(l1:Lp 71 (pT g7) (.agg #[.string ew,.string em]) w)(l2:Lp 71 (pF g3 3) (.agg #[.string ew,.string em]) w)(h3: ∀w,(binOp .eql 71 (.agg #[.string ew,.string em]) (.agg #[.string ew,.string em])).run Tryd.prog w=.ok (.bool true) w)(l4:Lp 96 (pT g3) (ii ec) w)(h5:decide (ec=0)=b50)
  (hN: ∀a' mm,Sl 52 a' ((4,.bool b50)::dropL (4::List.range' 36 16) l) df->N a' (w.drewN mm)):Rg N Q a w (r_to 10):=
 regQ (l0:=[(7,pT g7),(3,pT g3)]) [4] (4::List.range' 36 16) [.bin (.bool true),.val (.agg #[.string ew,.string em]),.val (.agg #[.string ew,.string em]),.bin (.bool true),.val (ii ec),.bit b50] hs ⟨e7,e3,trivial⟩ (aI (fun w'=>bin_run (x:=.tmp 36) (y:=.const (.pointer none)) (by kernel_rfl) (h0 w')) (aI l1 (aI l2 (aI (fun w'=>bin_run (x:=.tmp 41) (y:=.tmp 43) (by kernel_rfl) (h3 w')) (aI l4 (aI h5 hN)))))) (by kernel_rfl)
noncomputable def r_le (n:Nat):Code:=((Tryd.f43.body.bind (findR n)).getD .skip)
noncomputable def leL0:Code:=(.seq (.seq (r_le 12) (.cond (.tmp 58) .skip (.exit 0))) (.seq (.block 1 (r_le 14)) (r_le 13)))
noncomputable def leBody:Code:=(.seq (r_le 0) (.seq (r_le 1) (.seq (.seq (r_le 2) (.cond (.tmp 10) (.seq (r_le 3) .ret) .skip)) (.seq (r_le 4) (.seq (r_le 5) (.seq (r_le 6) (.seq (r_le 7) (.seq (r_le 8) (.seq (r_le 9) (.seq (r_le 10) (.seq (.seq (r_le 11) (.block 0 (.loop leL0))) (.seq (r_le 15) (.seq (r_le 16) (.seq (r_le 17) .ret))))))))))))))
theorem le_body:Tryd.f43.body=some leBody:=by kernel_rfl
theorem le_r0{d:Dt}{m:Dm}(hs:Sl 85 a l df)(e0:Lk l 0 (.agg (d.cs m)))
  (hN: ∀a',Sl 85 a' ((1,pT w.heap.size)::(2,pT ((w.alloc (.cells (d.cs m) 31)).heap.size))::dropL [1,2] l) df->N a' ((w.alloc (.cells (d.cs m) 31)).alloc (.cells zA 31))):Rg N Q a w (r_le 0):=
 reg (l0:=[(0,.agg (d.cs m))]) [1,2] [1,2] [.raw,.raw] hs ⟨e0,trivial⟩ hN (by kernel_rfl)
theorem le_r1{g1:Nat}{d:Dt}{m:Dm}{b3:Bool}{C0:World->Prop}(hs:Sl 85 a l df)(e1:Lk l 1 (pT g1))(l0:Lp 31 (pT g1) (.agg (d.cs m)) w)(k1:Cl 58 #[.agg (d.cs m)] w (.bool b3) C0)
  (hN: ∀a' (w1:World),C0 w1->Sl 85 a' ((3,.bool b3)::dropL [3,7,8] l) df->N a' w1):Rg N Q a w (r_le 1):=
 reg (l0:=[(1,pT g1)]) [3] [3,7,8] [.val (.agg (d.cs m)),.ret (.bool b3) C0] hs ⟨e1,trivial⟩ (aI l0.run (aI k1 (fun(w1:World) (hc0:C0 w1)=>(fun a'=>hN a' w1 hc0)))) (by kernel_rfl)
theorem le_r2{b3:Bool}(hs:Sl 85 a l df)(e3:Lk l 3 (.bool b3))
  (hN: ∀a',Sl 85 a' ((10,.bool (!b3))::dropL [9,10] l) df->N a' w):Rg N Q a w (r_le 2):=
 reg (l0:=[(3,.bool b3)]) [10] [9,10] [] hs ⟨e3,trivial⟩ hN (by kernel_rfl)
theorem le_r3{g1 g2:Nat}{d:Dt}{m:Dm}(hs:Sl 85 a l df)(e1:Lk l 1 (pT g1))(e2:Lk l 2 (pT g2))(l0:Lp 31 (pT g1) (.agg (d.cs m)) w)(s1:So 31 g2 0 (.agg (d.cs m)) w (d.cs m).toList)
  (hN: ∀a',Sl 85 a' (dropL [11] l) df->N a' (w.setCells g2 0 (d.cs m).toList)):Rg N Q a w (r_le 3):=
 reg (l0:=[(1,pT g1),(2,pT g2)]) [] [11] [.val (.agg (d.cs m)),.sto] hs ⟨e1,e2,trivial⟩ (aI l0.run (aI s1 hN)) (by kernel_rfl)
theorem le_r4{g1 pl pc np:Nat}{pa:Option Addr}{wm17:World}(hs:Sl 85 a l df)(e1:Lk l 1 (pT g1))(l0:Lp 22 (pF g1 (5+4)) (.slice pa pl pc) w)(h1: -9223372036854775808<=(pl:Int)+2/\(pl:Int)+2<=9223372036854775807)(m2:(Instr.makeSlice 22 (ii ((pl:Int)+2)) (ii ((pl:Int)+2))).run Tryd.prog w=.ok (.slice (some ⟨w.heap.size,0,none⟩) np np) wm17)
  (hN: ∀a',Sl 85 a' ((4,.slice (some ⟨w.heap.size,0,none⟩) np np)::dropL (4::List.range' 12 6) l) df->N a' wm17):Rg N Q a w (r_le 4):=
 reg (l0:=[(1,pT g1)]) [4] (4::List.range' 12 6) [.val (.slice pa pl pc),.ari,.vw (.slice (some ⟨w.heap.size,0,none⟩) np np) wm17] hs ⟨e1,trivial⟩ (aI l0.run (aI h1 (aI m2 hN))) (by kernel_rfl)
theorem le_r5{gp np g1 pl pc:Nat}{pa:Option Addr}{wy4:World}{v22:Value}(hs:Sl 85 a l df)(e4:Lk l 4 (.slice (some ⟨gp,0,none⟩) np np))(e1:Lk l 1 (pT g1))(l0:Lp 22 (pF g1 (5+4)) (.slice pa pl pc) w)(m1:(Builtin.copy_ #[22,22] 3 #[.slice (some ⟨gp,0,none⟩) np np,.slice pa pl pc]).run Tryd.prog w=.ok v22 wy4)
  (hN: ∀a',Sl 85 a' (dropL [18,19,20,21,22] l) df->N a' wy4):Rg N Q a w (r_le 5):=
 reg (l0:=[(4,.slice (some ⟨gp,0,none⟩) np np),(1,pT g1)]) [] [18,19,20,21,22] [.val (.slice pa pl pc),.gen v22 wy4] hs ⟨e4,e1,trivial⟩ (aI l0.run (aI (copy_run m1) hN)) (by kernel_rfl)
theorem le_r6{gp np g1 pl pc g28 o28:Nat}{pa:Option Addr}(hs:Sl 85 a l df)(e4:Lk l 4 (.slice (some ⟨gp,0,none⟩) np np))(e1:Lk l 1 (pT g1))(l0:Lp 22 (pF g1 (5+4)) (.slice pa pl pc) w)(i1:Ix 22 (.slice (some ⟨gp,0,none⟩) np np) (ii (pl:Int)) (pF g28 o28))(s2:So 3 g28 o28 (ii (-71)) w [ii (-71)])
  (hN: ∀a',Sl 85 a' (dropL [23,24,25,26,27,28] l) df->N a' (w.setCells g28 o28 [ii (-71)])):Rg N Q a w (r_le 6):=
 reg (l0:=[(4,.slice (some ⟨gp,0,none⟩) np np),(1,pT g1)]) [] [23,24,25,26,27,28] [.val (.slice pa pl pc),.val (pF g28 o28),.sto] hs ⟨e4,e1,trivial⟩ (aI l0.run (aI (i1 w) (aI s2 hN))) (by kernel_rfl)
theorem le_r7{gp np g1 pl pc g35 o35:Nat}{pa:Option Addr}(hs:Sl 85 a l df)(e4:Lk l 4 (.slice (some ⟨gp,0,none⟩) np np))(e1:Lk l 1 (pT g1))(l0:Lp 22 (pF g1 (5+4)) (.slice pa pl pc) w)(h1: -9223372036854775808<=(pl:Int)+1/\(pl:Int)+1<=9223372036854775807)(i2:Ix 22 (.slice (some ⟨gp,0,none⟩) np np) (ii ((pl:Int)+1)) (pF g35 o35))(s3:So 3 g35 o35 (ii (-72)) w [ii (-72)])
  (hN: ∀a',Sl 85 a' (dropL (List.range' 29 7) l) df->N a' (w.setCells g35 o35 [ii (-72)])):Rg N Q a w (r_le 7):=
 reg (l0:=[(4,.slice (some ⟨gp,0,none⟩) np np),(1,pT g1)]) [] (List.range' 29 7) [.val (.slice pa pl pc),.ari,.val (pF g35 o35),.sto] hs ⟨e4,e1,trivial⟩ (aI l0.run (aI h1 (aI (i2 w) (aI s3 hN)))) (by kernel_rfl)
theorem le_r8{g1 il ic nl:Nat}{ia:Option Addr}{wm40:World}(hs:Sl 85 a l df)(e1:Lk l 1 (pT g1))(l0:Lp 29 (pF g1 10) (.slice ia il ic) w)(h1: -9223372036854775808<=(il:Int)+2/\(il:Int)+2<=9223372036854775807)(m2:(Instr.makeSlice 29 (ii ((il:Int)+2)) (ii ((il:Int)+2))).run Tryd.prog w=.ok (.slice (some ⟨w.heap.size,0,none⟩) nl nl) wm40)
  (hN: ∀a',Sl 85 a' ((5,.slice (some ⟨w.heap.size,0,none⟩) nl nl)::dropL [5,36,37,38,39,40] l) df->N a' wm40):Rg N Q a w (r_le 8):=
 reg (l0:=[(1,pT g1)]) [5] [5,36,37,38,39,40] [.val (.slice ia il ic),.ari,.vw (.slice (some ⟨w.heap.size,0,none⟩) nl nl) wm40] hs ⟨e1,trivial⟩ (aI l0.run (aI h1 (aI m2 hN))) (by kernel_rfl)
theorem le_r9{gl nl g1 il ic g45 o45:Nat}{ia:Option Addr}(hs:Sl 85 a l df)(e5:Lk l 5 (.slice (some ⟨gl,0,none⟩) nl nl))(e1:Lk l 1 (pT g1))(l0:Lp 29 (pF g1 10) (.slice ia il ic) w)(i1:Ix 29 (.slice (some ⟨gl,0,none⟩) nl nl) (ii (il:Int)) (pF g45 o45))(s2:So 3 g45 (o45+2) (ii 71) w [ii 71])
  (hN: ∀a',Sl 85 a' (dropL [41,42,43,44,45,46] l) df->N a' (w.setCells g45 (o45+2) [ii 71])):Rg N Q a w (r_le 9):=
 reg (l0:=[(5,.slice (some ⟨gl,0,none⟩) nl nl),(1,pT g1)]) [] [41,42,43,44,45,46] [.val (.slice ia il ic),.val (pF g45 o45),.sto] hs ⟨e5,e1,trivial⟩ (aI l0.run (aI (i1 w) (aI s2 hN))) (by kernel_rfl)
theorem le_r10{gl nl g1 il ic g52 o52:Nat}{ia:Option Addr}(hs:Sl 85 a l df)(e5:Lk l 5 (.slice (some ⟨gl,0,none⟩) nl nl))(e1:Lk l 1 (pT g1))(l0:Lp 29 (pF g1 10) (.slice ia il ic) w)(h1: -9223372036854775808<=(il:Int)+1/\(il:Int)+1<=9223372036854775807)(i2:Ix 29 (.slice (some ⟨gl,0,none⟩) nl nl) (ii ((il:Int)+1)) (pF g52 o52))(s3:So 3 g52 (o52+2) (ii 72) w [ii 72])
  (hN: ∀a',Sl 85 a' (dropL (List.range' 47 7) l) df->N a' (w.setCells g52 (o52+2) [ii 72])):Rg N Q a w (r_le 10):=
 reg (l0:=[(5,.slice (some ⟨gl,0,none⟩) nl nl),(1,pT g1)]) [] (List.range' 47 7) [.val (.slice ia il ic),.ari,.val (pF g52 o52),.sto] hs ⟨e5,e1,trivial⟩ (aI l0.run (aI h1 (aI (i2 w) (aI s3 hN)))) (by kernel_rfl)
theorem le_r11(hs:Sl 85 a l df)
  (hN: ∀a',Sl 85 a' ((6,ii 0)::dropL [6] l) df->N a' w):Rg N Q a w (r_le 11):=
 reg (l0:=[]) [6] [6] [] hs trivial hN (by kernel_rfl)
theorem le_r12{i g1 il ic:Nat}{ia:Option Addr}{b58:Bool}(hs:Sl 85 a l df)(e6:Lk l 6 (ii (i:Int)))(e1:Lk l 1 (pT g1))(l0:Lp 29 (pF g1 10) (.slice ia il ic) w)(h1:decide ((i:Int)<(il:Int))=b58)
  (hN: ∀a',Sl 85 a' ((58,.bool b58)::dropL [54,55,56,57,58] l) df->N a' w):Rg N Q a w (r_le 12):=
 reg (l0:=[(6,ii (i:Int)),(1,pT g1)]) [58] [54,55,56,57,58] [.val (.slice ia il ic),.bit b58] hs ⟨e6,e1,trivial⟩ (aI l0.run (aI h1 hN)) (by kernel_rfl)
theorem le_r13{i:Nat}(hs:Sl 85 a l df)(e6:Lk l 6 (ii (i:Int)))(h0: -9223372036854775808<=(i:Int)+1/\(i:Int)+1<=9223372036854775807)
  (hN: ∀a',Sl 85 a' ((6,ii ((i:Int)+1))::dropL [6,59,60] l) df->N a' w):Rg N Q a w (r_le 13):=
 reg (l0:=[(6,ii (i:Int))]) [6] [6,59,60] [.ari] hs ⟨e6,trivial⟩ (aI h0 hN) (by kernel_rfl)
theorem le_r14{gl nl i g1 il ic g66 o66 g69 o69:Nat}{ia:Option Addr}{dx:Dt}{mx:Dm}{C0:Dm->World->Prop}(hs:Sl 85 a l df)(e5:Lk l 5 (.slice (some ⟨gl,0,none⟩) nl nl))(e6:Lk l 6 (ii (i:Int)))(e1:Lk l 1 (pT g1))(l0:Lp 29 (pF g1 10) (.slice ia il ic) w)(i1:Ix 29 (.slice ia il ic) (ii (i:Int)) (pF g66 o66))(l2:Lp 31 (pF g66 o66) (.agg (dx.cs mx)) w)(k3:Ca 43 #[.agg (dx.cs mx)] w fun e w'=> ∃xm:Dm,e=.returned (.agg (dx.cs xm))/\C0 xm w')(i4:Ix 29 (.slice (some ⟨gl,0,none⟩) nl nl) (ii (i:Int)) (pF g69 o69))(s5: ∀(xm:Dm) (w1:World),C0 xm w1->So 31 g69 o69 (.agg (dx.cs xm)) w1 (dx.cs xm).toList)
  (hN: ∀a' (xm:Dm) (w1:World),C0 xm w1->Sl 85 a' (dropL (List.range' 61 9) l) df->N a' (w1.setCells g69 o69 (dx.cs xm).toList)):Rg N Q a w (r_le 14):=
 reg (l0:=[(5,.slice (some ⟨gl,0,none⟩) nl nl),(6,ii (i:Int)),(1,pT g1)]) [] (List.range' 61 9) [.val (.slice ia il ic),.val (pF g66 o66),.val (.agg (dx.cs mx)),.ex (Dm) (fun xm=>.agg (dx.cs xm)) C0,.val (pF g69 o69),.sto] hs ⟨e5,e6,e1,trivial⟩ (aI l0.run (aI (i1 w) (aI l2.run (aI k3 (fun(xm:Dm) (w1:World) (hc0:C0 xm w1)=>(aI (i4 w1) (aI (s5 xm w1 hc0) (fun a'=>hN a' xm w1 hc0)))))))) (by kernel_rfl)
theorem le_r15{gp np g1 pl pc n75 q75:Nat}{pa d75:Option Addr}(hs:Sl 85 a l df)(e4:Lk l 4 (.slice (some ⟨gp,0,none⟩) np np))(e1:Lk l 1 (pT g1))(l0:Lp 22 (pF g1 (5+4)) (.slice pa pl pc) w)(i1: ∀w,(Instr.sliceAt 22 (.slice (some ⟨gp,0,none⟩) np np) none (some (ii (pl:Int))) none).run Tryd.prog w=.ok (.slice d75 n75 q75) w)(s2:So 22 g1 (5+4) (.slice d75 n75 q75) w [.slice d75 n75 q75])
  (hN: ∀a',Sl 85 a' (dropL (List.range' 70 8) l) df->N a' (w.setCells g1 (5+4) [.slice d75 n75 q75])):Rg N Q a w (r_le 15):=
 reg (l0:=[(4,.slice (some ⟨gp,0,none⟩) np np),(1,pT g1)]) [] (List.range' 70 8) [.val (.slice pa pl pc),.val (.slice d75 n75 q75),.sto] hs ⟨e4,e1,trivial⟩ (aI l0.run (aI (i1 w) (aI s2 hN))) (by kernel_rfl)
theorem le_r16{gl nl g1 il ic n82 q82:Nat}{ia d82:Option Addr}(hs:Sl 85 a l df)(e5:Lk l 5 (.slice (some ⟨gl,0,none⟩) nl nl))(e1:Lk l 1 (pT g1))(l0:Lp 29 (pF g1 10) (.slice ia il ic) w)(i1: ∀w,(Instr.sliceAt 29 (.slice (some ⟨gl,0,none⟩) nl nl) none (some (ii (il:Int))) none).run Tryd.prog w=.ok (.slice d82 n82 q82) w)(s2:So 29 g1 10 (.slice d82 n82 q82) w [.slice d82 n82 q82])
  (hN: ∀a',Sl 85 a' (dropL [78,79,80,81,82,83] l) df->N a' (w.setCells g1 10 [.slice d82 n82 q82])):Rg N Q a w (r_le 16):=
 reg (l0:=[(5,.slice (some ⟨gl,0,none⟩) nl nl),(1,pT g1)]) [] [78,79,80,81,82,83] [.val (.slice ia il ic),.val (.slice d82 n82 q82),.sto] hs ⟨e5,e1,trivial⟩ (aI l0.run (aI (i1 w) (aI s2 hN))) (by kernel_rfl)
theorem le_r17{g1 g2:Nat}{d:Dt}{m:Dm}(hs:Sl 85 a l df)(e1:Lk l 1 (pT g1))(e2:Lk l 2 (pT g2))(l0:Lp 31 (pT g1) (.agg (d.cs m)) w)(s1:So 31 g2 0 (.agg (d.cs m)) w (d.cs m).toList)
  (hN: ∀a',Sl 85 a' (dropL [84] l) df->N a' (w.setCells g2 0 (d.cs m).toList)):Rg N Q a w (r_le 17):=
 reg (l0:=[(1,pT g1),(2,pT g2)]) [] [84] [.val (.agg (d.cs m)),.sto] hs ⟨e1,e2,trivial⟩ (aI l0.run (aI s1 hN)) (by kernel_rfl)
noncomputable def r_bk (n:Nat):Code:=((Tryd.f48.body.bind (findR n)).getD .skip)
noncomputable def bkL0:Code:=(.seq (.seq (r_bk 17) (.cond (.tmp 130) .skip (.exit 2))) (.seq (.block 3 (.seq (.seq (r_bk 19) (.cond (.tmp 135) (.seq (r_bk 20) (r_bk 21)) .skip)) (r_bk 22))) (r_bk 18)))
noncomputable def bkL1:Code:=(.seq (.seq (r_bk 8) (.cond (.tmp 79) .skip (.exit 0))) (.seq (.block 1 (.seq (.seq (r_bk 10) (.cond (.tmp 97) (r_bk 11) .skip)) (r_bk 12))) (r_bk 9)))
noncomputable def bkBody:Code:=(.seq (r_bk 0) (.seq (r_bk 1) (.seq (.seq (r_bk 2) (.cond (.tmp 17) (.seq (r_bk 3) .ret) .skip)) (.seq (r_bk 4) (.seq (r_bk 5) (.seq (r_bk 6) (.seq (.seq (r_bk 7) (.block 0 (.loop bkL1))) (.seq (r_bk 13) (.seq (r_bk 14) (.seq (r_bk 15) (.seq (.seq (r_bk 16) (.block 2 (.loop bkL0))) (.seq (r_bk 23) .ret))))))))))))
theorem bk_body:Tryd.f48.body=some bkBody:=by kernel_rfl
theorem bk_r0{od d:Dt}{mo m:Dm}(hs:Sl 155 a l df)(e0:Lk l 0 (.agg (od.cs mo)))(e1:Lk l 1 (.agg (d.cs m)))
  (hN: ∀a',Sl 155 a' ((2,pT w.heap.size)::(3,pT ((w.alloc (.cells (od.cs mo) 31)).heap.size))::(4,.bool false)::dropL [2,3,4] l) df->N a' ((w.alloc (.cells (od.cs mo) 31)).alloc (.cells (d.cs m) 31))):Rg N Q a w (r_bk 0):=
 reg (l0:=[(0,.agg (od.cs mo)),(1,.agg (d.cs m))]) [2,3,4] [2,3,4] [.raw,.raw] hs ⟨e0,e1,trivial⟩ hN (by kernel_rfl)
theorem bk_r1{g3:Nat}{d:Dt}{m:Dm}{b5:Bool}{C0:World->Prop}(hs:Sl 155 a l df)(e3:Lk l 3 (pT g3))(l0:Lp 31 (pT g3) (.agg (d.cs m)) w)(k1:Cl 58 #[.agg (d.cs m)] w (.bool b5) C0)
  (hN: ∀a' (w1:World),C0 w1->Sl 155 a' ((5,.bool b5)::dropL [5,14,15] l) df->N a' w1):Rg N Q a w (r_bk 1):=
 reg (l0:=[(3,pT g3)]) [5] [5,14,15] [.val (.agg (d.cs m)),.ret (.bool b5) C0] hs ⟨e3,trivial⟩ (aI l0.run (aI k1 (fun(w1:World) (hc0:C0 w1)=>(fun a'=>hN a' w1 hc0)))) (by kernel_rfl)
theorem bk_r2{b5:Bool}(hs:Sl 155 a l df)(e5:Lk l 5 (.bool b5))
  (hN: ∀a',Sl 155 a' ((17,.bool (!b5))::dropL [16,17] l) df->N a' w):Rg N Q a w (r_bk 2):=
 reg (l0:=[(5,.bool b5)]) [17] [16,17] [] hs ⟨e5,trivial⟩ hN (by kernel_rfl)
theorem bk_r3(hs:Sl 155 a l df)
  (hN: ∀a',Sl 155 a' ((4,.bool true)::dropL [4] l) df->N a' w):Rg N Q a w (r_bk 3):=
 reg (l0:=[]) [4] [4] [] hs trivial hN (by kernel_rfl)
theorem bk_r4{g3 pl pc:Nat}{pa:Option Addr}(hs:Sl 155 a l df)(e3:Lk l 3 (pT g3))(l0:Lp 22 (pF g3 (5+4)) (.slice pa pl pc) w)
  (hN: ∀a',Sl 155 a' ((6,ii (pl:Int))::dropL [6,18,19,20,21] l) df->N a' w):Rg N Q a w (r_bk 4):=
 reg (l0:=[(3,pT g3)]) [6] [6,18,19,20,21] [.val (.slice pa pl pc)] hs ⟨e3,trivial⟩ (aI l0.run hN) (by kernel_rfl)
theorem bk_r5{g2 ql qc np gp n7 c7:Nat}{qa:Option Addr}(hs:Sl 155 a l df)(e2:Lk l 2 (pT g2))(e6:Lk l 6 (ii (np:Int)))(l0:Lp 22 (pF g2 (5+4)) (.slice qa ql qc) w)(h1: -9223372036854775808<=(np:Int)+2/\(np:Int)+2<=9223372036854775807)(i2: ∀w,(Instr.sliceAt 22 (.slice qa ql qc) none (some (ii ((np:Int)+2))) none).run Tryd.prog w=.ok (.slice (some ⟨gp,0,none⟩) n7 c7) w)
  (hN: ∀a',Sl 155 a' ((7,.slice (some ⟨gp,0,none⟩) n7 c7)::dropL (7::List.range' 22 6) l) df->N a' w):Rg N Q a w (r_bk 5):=
 reg (l0:=[(2,pT g2),(6,ii (np:Int))]) [7] (7::List.range' 22 6) [.val (.slice qa ql qc),.ari,.val (.slice (some ⟨gp,0,none⟩) n7 c7)] hs ⟨e2,e6,trivial⟩ (aI l0.run (aI h1 (aI (i2 w) hN))) (by kernel_rfl)
theorem bk_r6_tttttt{g2 g3 gp n7 c7 np g64 o64 g72 o72:Nat}{kd nn ff m1 m2:Int}{ty ss:ByteArray}{b74:Bool}(hs:Sl 155 a l df)(e2:Lk l 2 (pT g2))(e3:Lk l 3 (pT g3))(e7:Lk l 7 (.slice (some ⟨gp,0,none⟩) n7 c7))(e6:Lk l 6 (ii (np:Int)))(l0:Lp 3 (pT g2) (ii kd) w)(l1:Lp 3 (pT g3) (ii kd) w)(h2:decide (kd=kd)=true)(l3:Lp 9 (pF g2 1) (.string ty) w)(l4:Lp 9 (pF g3 1) (.string ty) w)(h5:decide (ty=ty)=true)(l6:Lp 3 (pF g2 2) (ii nn) w)(l7:Lp 3 (pF g3 2) (ii nn) w)(h8:decide (nn=nn)=true)(l9:Lp 26 (pF g2 3) (.int .u64 ff) w)(l10:Lp 26 (pF g3 3) (.int .u64 ff) w)(h11:decide (ff=ff)=true)(l12:Lp 9 (pF g2 4) (.string ss) w)(l13:Lp 9 (pF g3 4) (.string ss) w)(h14:decide (ss=ss)=true)(i15:Ix 22 (.slice (some ⟨gp,0,none⟩) n7 c7) (ii (np:Int)) (pF g64 o64))(l16:Lp 3 (pF g64 o64) (ii m1) w)(h17:decide (m1=(-71))=true)(h18: -9223372036854775808<=(np:Int)+1/\(np:Int)+1<=9223372036854775807)(i19:Ix 22 (.slice (some ⟨gp,0,none⟩) n7 c7) (ii ((np:Int)+1)) (pF g72 o72))(l20:Lp 3 (pF g72 o72) (ii m2) w)(h21:decide (m2=(-72))=b74)
  (hN: ∀a',Sl 155 a' ((8,.bool b74)::dropL (8::List.range' 28 48) l) df->N a' w):Rg N Q a w (r_bk 6):=
 reg (l0:=[(2,pT g2),(3,pT g3),(7,.slice (some ⟨gp,0,none⟩) n7 c7),(6,ii (np:Int))]) [8] (8::List.range' 28 48) [.val (ii kd),.val (ii kd),.bit true,.val (.string ty),.val (.string ty),.bit true,.val (ii nn),.val (ii nn),.bit true,.val (.int .u64 ff),.val (.int .u64 ff),.bit true,.val (.string ss),.val (.string ss),.bit true,.val (pF g64 o64),.val (ii m1),.bit true,.ari,.val (pF g72 o72),.val (ii m2),.bit b74] hs ⟨e2,e3,e7,e6,trivial⟩ (aI l0.run (aI l1.run (aI h2 (aI l3.run (aI l4.run (aI h5 (aI l6.run (aI l7.run (aI h8 (aI l9.run (aI l10.run (aI h11 (aI l12.run (aI l13.run (aI h14 (aI (i15 w) (aI l16.run (aI h17 (aI h18 (aI (i19 w) (aI l20.run (aI h21 hN)))))))))))))))))))))) (by kernel_rfl)
theorem bk_r7(hs:Sl 155 a l df)
  (hN: ∀a',Sl 155 a' ((9,ii 0)::dropL [9] l) df->N a' w):Rg N Q a w (r_bk 7):=
 reg (l0:=[]) [9] [9] [] hs trivial hN (by kernel_rfl)
theorem bk_r8{i np:Nat}{b79:Bool}(hs:Sl 155 a l df)(e9:Lk l 9 (ii (i:Int)))(e6:Lk l 6 (ii (np:Int)))(h0: -9223372036854775808<=(np:Int)+2/\(np:Int)+2<=9223372036854775807)(h1:decide ((i:Int)<((np:Int)+2))=b79)
  (hN: ∀a',Sl 155 a' ((79,.bool b79)::dropL [76,77,78,79] l) df->N a' w):Rg N Q a w (r_bk 8):=
 reg (l0:=[(9,ii (i:Int)),(6,ii (np:Int))]) [79] [76,77,78,79] [.ari,.bit b79] hs ⟨e9,e6,trivial⟩ (aI h0 (aI h1 hN)) (by kernel_rfl)
theorem bk_r9{i:Nat}(hs:Sl 155 a l df)(e9:Lk l 9 (ii (i:Int)))(h0: -9223372036854775808<=(i:Int)+1/\(i:Int)+1<=9223372036854775807)
  (hN: ∀a',Sl 155 a' ((9,ii ((i:Int)+1))::dropL [9,80,81] l) df->N a' w):Rg N Q a w (r_bk 9):=
 reg (l0:=[(9,ii (i:Int))]) [9] [9,80,81] [.ari] hs ⟨e9,trivial⟩ (aI h0 hN) (by kernel_rfl)
theorem bk_r10_t{i np gp n7 c7 g88 o88 g3 pl pc g94 o94:Nat}{x y:Int}{pa:Option Addr}{b96:Bool}(hs:Sl 155 a l df)(e9:Lk l 9 (ii (i:Int)))(e6:Lk l 6 (ii (np:Int)))(e7:Lk l 7 (.slice (some ⟨gp,0,none⟩) n7 c7))(e3:Lk l 3 (pT g3))(h0:decide ((i:Int)<(np:Int))=true)(i1:Ix 22 (.slice (some ⟨gp,0,none⟩) n7 c7) (ii (i:Int)) (pF g88 o88))(l2:Lp 3 (pF g88 o88) (ii x) w)(l3:Lp 22 (pF g3 (5+4)) (.slice pa pl pc) w)(i4:Ix 22 (.slice pa pl pc) (ii (i:Int)) (pF g94 o94))(l5:Lp 3 (pF g94 o94) (ii y) w)(h6:decide (x≠y)=b96)
  (hN: ∀a' mm,Sl 155 a' ((97,.bool b96)::dropL (List.range' 82 16) l) df->N a' (w.drewN mm)):Rg N Q a w (r_bk 10):=
 regQ (l0:=[(9,ii (i:Int)),(6,ii (np:Int)),(7,.slice (some ⟨gp,0,none⟩) n7 c7),(3,pT g3)]) [97] (List.range' 82 16) [.bit true,.val (pF g88 o88),.val (ii x),.val (.slice pa pl pc),.val (pF g94 o94),.val (ii y),.bit b96] hs ⟨e9,e6,e7,e3,trivial⟩ (aI h0 (aI i1 (aI l2 (aI l3 (aI i4 (aI l5 (aI h6 hN))))))) (by kernel_rfl)
theorem bk_r10_f{i np:Nat}(hs:Sl 155 a l df)(e9:Lk l 9 (ii (i:Int)))(e6:Lk l 6 (ii (np:Int)))(h0:decide ((i:Int)<(np:Int))=false)
  (hN: ∀a' mm,Sl 155 a' ((97,.bool false)::dropL (List.range' 82 16) l) df->N a' (w.drewN mm)):Rg N Q a w (r_bk 10):=
 regQ (l0:=[(9,ii (i:Int)),(6,ii (np:Int))]) [97] (List.range' 82 16) [.bit false] hs ⟨e9,e6,trivial⟩ (aI h0 hN) (by kernel_rfl)
theorem bk_r12{gp n7 c7 i g100 o100:Nat}(hs:Sl 155 a l df)(e7:Lk l 7 (.slice (some ⟨gp,0,none⟩) n7 c7))(e9:Lk l 9 (ii (i:Int)))(i0:Ix 22 (.slice (some ⟨gp,0,none⟩) n7 c7) (ii (i:Int)) (pF g100 o100))(s1:So 3 g100 o100 (ii (-5)) w [ii (-5)])
  (hN: ∀a',Sl 155 a' (dropL [98,99,100] l) df->N a' (w.setCells g100 o100 [ii (-5)])):Rg N Q a w (r_bk 12):=
 reg (l0:=[(7,.slice (some ⟨gp,0,none⟩) n7 c7),(9,ii (i:Int))]) [] [98,99,100] [.val (pF g100 o100),.sto] hs ⟨e7,e9,trivial⟩ (aI (i0 w) (aI s1 hN)) (by kernel_rfl)
theorem bk_r13{g3 il ic:Nat}{ia:Option Addr}(hs:Sl 155 a l df)(e3:Lk l 3 (pT g3))(l0:Lp 29 (pF g3 10) (.slice ia il ic) w)
  (hN: ∀a',Sl 155 a' ((10,ii (il:Int))::dropL [10,101,102,103] l) df->N a' w):Rg N Q a w (r_bk 13):=
 reg (l0:=[(3,pT g3)]) [10] [10,101,102,103] [.val (.slice ia il ic)] hs ⟨e3,trivial⟩ (aI l0.run hN) (by kernel_rfl)
theorem bk_r14{g2 jl jc nk gl n11 c11:Nat}{ja:Option Addr}(hs:Sl 155 a l df)(e2:Lk l 2 (pT g2))(e10:Lk l 10 (ii (nk:Int)))(l0:Lp 29 (pF g2 10) (.slice ja jl jc) w)(h1: -9223372036854775808<=(nk:Int)+2/\(nk:Int)+2<=9223372036854775807)(i2: ∀w,(Instr.sliceAt 29 (.slice ja jl jc) none (some (ii ((nk:Int)+2))) none).run Tryd.prog w=.ok (.slice (some ⟨gl,0,none⟩) n11 c11) w)
  (hN: ∀a',Sl 155 a' ((11,.slice (some ⟨gl,0,none⟩) n11 c11)::dropL [11,104,105,106,107,108] l) df->N a' w):Rg N Q a w (r_bk 14):=
 reg (l0:=[(2,pT g2),(10,ii (nk:Int))]) [11] [11,104,105,106,107,108] [.val (.slice ja jl jc),.ari,.val (.slice (some ⟨gl,0,none⟩) n11 c11)] hs ⟨e2,e10,trivial⟩ (aI l0.run (aI h1 (aI (i2 w) hN))) (by kernel_rfl)
theorem bk_r15_ttt{gl n11 c11 nk g113 o113 g122 o122:Nat}{m1 m2:Int}(hs:Sl 155 a l df)(e8:Lk l 8 (.bool true))(e11:Lk l 11 (.slice (some ⟨gl,0,none⟩) n11 c11))(e10:Lk l 10 (ii (nk:Int)))(i0:Ix 29 (.slice (some ⟨gl,0,none⟩) n11 c11) (ii (nk:Int)) (pF g113 o113))(l1:Lp 3 (pF g113 (o113+2)) (ii m1) w)(h2:decide (m1=71)=true)(h3: -9223372036854775808<=(nk:Int)+1/\(nk:Int)+1<=9223372036854775807)(i4:Ix 29 (.slice (some ⟨gl,0,none⟩) n11 c11) (ii ((nk:Int)+1)) (pF g122 o122))(l5:Lp 3 (pF g122 (o122+2)) (ii m2) w)(h6:decide (m2=72)=true)
  (hN: ∀a',Sl 155 a' ((8,.bool true)::dropL (8::List.range' 109 18) l) df->N a' w):Rg N Q a w (r_bk 15):=
 reg (l0:=[(8,.bool true),(11,.slice (some ⟨gl,0,none⟩) n11 c11),(10,ii (nk:Int))]) [8] (8::List.range' 109 18) [.val (pF g113 o113),.val (ii m1),.bit true,.ari,.val (pF g122 o122),.val (ii m2),.bit true] hs ⟨e8,e11,e10,trivial⟩ (aI (i0 w) (aI l1.run (aI h2 (aI h3 (aI (i4 w) (aI l5.run (aI h6 hN))))))) (by kernel_rfl)
theorem bk_r16(hs:Sl 155 a l df)
  (hN: ∀a',Sl 155 a' ((12,ii 0)::dropL [12] l) df->N a' w):Rg N Q a w (r_bk 16):=
 reg (l0:=[]) [12] [12] [] hs trivial hN (by kernel_rfl)
theorem bk_r17{i nk:Nat}{b130:Bool}(hs:Sl 155 a l df)(e12:Lk l 12 (ii (i:Int)))(e10:Lk l 10 (ii (nk:Int)))(h0: -9223372036854775808<=(nk:Int)+2/\(nk:Int)+2<=9223372036854775807)(h1:decide ((i:Int)<((nk:Int)+2))=b130)
  (hN: ∀a',Sl 155 a' ((130,.bool b130)::dropL [127,128,129,130] l) df->N a' w):Rg N Q a w (r_bk 17):=
 reg (l0:=[(12,ii (i:Int)),(10,ii (nk:Int))]) [130] [127,128,129,130] [.ari,.bit b130] hs ⟨e12,e10,trivial⟩ (aI h0 (aI h1 hN)) (by kernel_rfl)
theorem bk_r18{i:Nat}(hs:Sl 155 a l df)(e12:Lk l 12 (ii (i:Int)))(h0: -9223372036854775808<=(i:Int)+1/\(i:Int)+1<=9223372036854775807)
  (hN: ∀a',Sl 155 a' ((12,ii ((i:Int)+1))::dropL [12,131,132] l) df->N a' w):Rg N Q a w (r_bk 18):=
 reg (l0:=[(12,ii (i:Int))]) [12] [12,131,132] [.ari] hs ⟨e12,trivial⟩ (aI h0 hN) (by kernel_rfl)
theorem bk_r19{i nk:Nat}{b135:Bool}(hs:Sl 155 a l df)(e12:Lk l 12 (ii (i:Int)))(e10:Lk l 10 (ii (nk:Int)))(h0:decide ((i:Int)<(nk:Int))=b135)
  (hN: ∀a',Sl 155 a' ((135,.bool b135)::dropL [133,134,135] l) df->N a' w):Rg N Q a w (r_bk 19):=
 reg (l0:=[(12,ii (i:Int)),(10,ii (nk:Int))]) [135] [133,134,135] [.bit b135] hs ⟨e12,e10,trivial⟩ (aI h0 hN) (by kernel_rfl)
theorem bk_r20{C C0:World->Prop}{gl n11 c11 i g138 o138 g3 il ic g143 o143:Nat}{ax dx:Dt}{max mx:Dm}{ia:Option Addr}{b13:Bool}(hs:Sl 155 a l df)(e11:Lk l 11 (.slice (some ⟨gl,0,none⟩) n11 c11))(e12:Lk l 12 (ii (i:Int)))(e3:Lk l 3 (pT g3))(c0:C (w.drewN 1))(i1:Ix 29 (.slice (some ⟨gl,0,none⟩) n11 c11) (ii (i:Int)) (pF g138 o138))(l2: ∀u,C u->Lp 31 (pF g138 o138) (.agg (ax.cs max)) u)(l3: ∀u,C u->Lp 29 (pF g3 10) (.slice ia il ic) u)(i4:Ix 29 (.slice ia il ic) (ii (i:Int)) (pF g143 o143))(l5: ∀u,C u->Lp 31 (pF g143 o143) (.agg (dx.cs mx)) u)(k6:Cl 48 #[.agg (ax.cs max),.agg (dx.cs mx)] (w.drewN 1) (.bool b13) C0)(c7: ∀(w1:World),C0 w1->C w1)
  (hN: ∀a' (w1:World),C0 w1->Sl 155 a' ((13,.bool b13)::dropL (13::List.range' 136 10) l) df->N a' w1):Rg N Q a w (r_bk 20):=
 regP (l0:=[(11,.slice (some ⟨gl,0,none⟩) n11 c11),(12,ii (i:Int)),(3,pT g3)]) 10 [(true,0),(true,1),(true,2),(true,3),(true,4),(true,5),(true,6),(true,7),(true,8),(false,9)] C [13] (13::List.range' 136 10) [.val (pF g138 o138),.val (.agg (ax.cs max)),.val (.slice ia il ic),.val (pF g143 o143),.val (.agg (dx.cs mx)),.ret (.bool b13) C0] hs ⟨e11,e12,e3,trivial⟩ (aI c0 (aI c0 (aI c0 (aI i1 (aI c0 (aI (fun u hu=>(l2 u hu).run) (aI c0 (aI c0 (aI (fun u hu=>(l3 u hu).run) (aI c0 (aI c0 (aI i4 (aI c0 (aI (fun u hu=>(l5 u hu).run) (aI c0 (aI k6 (fun(w1:World) (hc0:C0 w1)=>(aI (c7 w1 hc0) (fun a'=>hN a' w1 hc0))))))))))))))))))) (by kernel_rfl)
theorem bk_r21_tt(hs:Sl 155 a l df)(e8:Lk l 8 (.bool true))(e13:Lk l 13 (.bool true))
  (hN: ∀a',Sl 155 a' ((8,.bool true)::dropL [8,146,147,148,149] l) df->N a' w):Rg N Q a w (r_bk 21):=
 reg (l0:=[(8,.bool true),(13,.bool true)]) [8] [8,146,147,148,149] [] hs ⟨e8,e13,trivial⟩ hN (by kernel_rfl)
theorem bk_r22{gl n11 c11 i g153 o153:Nat}(hs:Sl 155 a l df)(e11:Lk l 11 (.slice (some ⟨gl,0,none⟩) n11 c11))(e12:Lk l 12 (ii (i:Int)))(i0:Ix 29 (.slice (some ⟨gl,0,none⟩) n11 c11) (ii (i:Int)) (pF g153 o153))(s1:So 31 g153 o153 (.agg #[ii (-5),.string (⟨#[]⟩),ii 0,.int .u64 0,.string (⟨#[]⟩),ii 0,ii 0,ii 0,ii 0,.slice none 0 0,.slice none 0 0]) w [ii (-5),.string (⟨#[]⟩),ii 0,.int .u64 0,.string (⟨#[]⟩),ii 0,ii 0,ii 0,ii 0,.slice none 0 0,.slice none 0 0])
  (hN: ∀a',Sl 155 a' (dropL [150,151,152,153] l) df->N a' (w.setCells g153 o153 [ii (-5),.string (⟨#[]⟩),ii 0,.int .u64 0,.string (⟨#[]⟩),ii 0,ii 0,ii 0,ii 0,.slice none 0 0,.slice none 0 0])):Rg N Q a w (r_bk 22):=
 reg (l0:=[(11,.slice (some ⟨gl,0,none⟩) n11 c11),(12,ii (i:Int))]) [] [150,151,152,153] [.raw,.val (pF g153 o153),.sto] hs ⟨e11,e12,trivial⟩ (aI (i0 w) (aI s1 hN)) (by kernel_rfl)
theorem bk_r23{b8:Bool}(hs:Sl 155 a l df)(e8:Lk l 8 (.bool b8))
  (hN: ∀a',Sl 155 a' ((4,.bool b8)::dropL [4,154] l) df->N a' w):Rg N Q a w (r_bk 23):=
 reg (l0:=[(8,.bool b8)]) [4] [4,154] [] hs ⟨e8,trivial⟩ hN (by kernel_rfl)
end Go.Proofs.YtlhfickniegooaaDoor

namespace Go.Proofs.YtlhfickniegooaaDoor
open Go.RowKit Go.Sort
theorem mask11(x:Nat)(h:x<18446744073709551616):bits .and .u64 (x:Int) 2047=((x % 2048:Nat):Int):=by
 have:=bits_and_u64_nat x 2047 h (by decide)
 rw[show((2047:Nat):Int)=2047 from rfl] at this
 rw[this]
 congr 1
 exact Nat.and_two_pow_sub_one_eq_mod x 11
set_option maxHeartbeats 400000 in
theorem risNaN_any(f:Int)(h0:0<=f)(h1:f<=18446744073709551615)(w:World):
  Calls Tryd.prog 78 #[.int .u64 f] w fun e w'=>e=.returned (.bool (nanB f.toNat))/\w=w':=by
 obtain⟨n,rfl⟩: ∃n:Nat,f=n:=⟨f.toNat,by omega⟩
 have hm:=mask11 (n / 4503599627370496) (by omega)
 have hx:bits .and .u64 ((n:Int) / 4503599627370496) 2047=((n / 4503599627370496 % 2048:Nat):Int):=by rw[<-hm];congr 1
 have HX:=Lib.hid hx
 have hwr:IntKind.u64.wrap ((n:Int)*4096)=((n*4096 % 18446744073709551616:Nat):Int):=by simp[IntKind.wrap,IntKind.signed,IntKind.bits]
 have HW:=Lib.hid hwr
 clear hx hm hwr
 go_enter Tryd.func78,Tryd.ntmps78
 go_wp2
 ·go_ret
  refine⟨ret_bool ?_,rfl⟩
  rename_i hb
  rw[HX.out] at hb
  rw[HW.out,nanB,Bool.eq_iff_iff,bne_iff_ne,decide_eq_true_iff]
  simp only[Int.toNat_natCast]
  omega
 ·go_ret
  refine⟨ret_bool ?_,rfl⟩
  rename_i hb
  rw[HX.out] at hb
  rw[nanB]
  symm
  rw[decide_eq_false_iff_not]
  simp only[Int.toNat_natCast]
  omega
end Go.Proofs.YtlhfickniegooaaDoor

namespace Go.Proofs.YtlhfickniegooaaDoor
open Go.RowKit Go.Sort
set_option maxRecDepth 100000 in
set_option maxHeartbeats 1000000 in
theorem rone_any(h h':Hd)(n n':Nat)(pa:Option Addr)(pc:Nat)(ia:Option Addr)(ic:Nat)(pa':Option Addr)(pc':Nat)(ia':Option Addr)(ic':Nat)(w:World):
  Calls Tryd.prog 77 #[.agg (h.cells pa pc ia n ic),.agg (h'.cells pa' pc' ia' n' ic')] w fun e w'=>e=.returned (.bool (oneB h h'))/\Below w.heap.size w w':=by
 unfold Hd.cells
 by_cases hk:h.kind=h'.kind
 ·have HO:Hid (oneB h h'=(h.type.toList==h'.type.toList)):=Lib.hid (by rw[beq_str,oneB];simp[hk])
  have hkk:(h.kind==h'.kind)=true:=by simpa using hk
  clear hk
  go_enter Tryd.func77,Tryd.ntmps77
  go_wp2_with fail
  go_ret
  exact⟨ret_bool HO.out.symm,bz⟩
 ·have HO:Hid (oneB h h'=false):=Lib.hid (by rw[oneB];simp[hk])
  have hkk:(h.kind==h'.kind)=false:=by simpa using hk
  clear hk
  go_enter Tryd.func77,Tryd.ntmps77
  go_wp2_with fail
  go_ret
  exact⟨ret_bool HO.out.symm,bz⟩
theorem mask63(x:Nat)(h:x<18446744073709551616):bits .and .u64 (x:Int) 9223372036854775807=((x % 9223372036854775808:Nat):Int):=by
 have:=bits_and_u64_nat x 9223372036854775807 h (by decide)
 rw[show((9223372036854775807:Nat):Int)=9223372036854775807 from rfl] at this
 rw[this]
 congr 1
 exact Nat.and_two_pow_sub_one_eq_mod x 63
set_option maxHeartbeats 1000000 in
theorem rrank_any(f:Int)(h0:0<=f)(h1:f<=18446744073709551615)(w:World):
  Calls Tryd.prog 79 #[.int .u64 f] w fun e w'=>e=.returned (.int .i64 (placeF f.toNat))/\w=w':=by
 obtain⟨n,rfl⟩: ∃n:Nat,f=n:=⟨f.toNat,by omega⟩
 have HX:=Lib.hid (mask63 n (by omega))
 go_enter Tryd.func79,Tryd.ntmps79
 go_wp2
 all_goals
  rename_i hb
  go_ret
  refine⟨ret_int ?_,rfl⟩
  rw[HX.out]
  have hp:placeF ((n:Int).toNat)=if n / 9223372036854775808 % 2=1 then-((n % 9223372036854775808:Nat):Int) else((n % 9223372036854775808:Nat):Int):=by rw[Int.toNat_natCast];rfl
  rw[hp]
  simp at hb
 ·rw[if_pos (by omega)]
  unfold wrap64
  omega
 ·rw[if_neg (by omega)]
  unfold wrap64
  omega
theorem drop_dec{l m:List Int}{j:Nat}{x y:Int}(hx:l[j]? =some x)(hy:m[j]? =some y):decide (l.drop j=m.drop j)=((x==y)&&decide (l.drop (j+1)=m.drop (j+1))):=by
 obtain⟨hj1,rfl⟩:=List.getElem?_eq_some_iff.1 hx
 obtain⟨hj2,rfl⟩:=List.getElem?_eq_some_iff.1 hy
 rw[List.drop_eq_getElem_cons hj1,List.drop_eq_getElem_cons hj2,Bool.eq_iff_iff]
 simp only[decide_eq_true_iff,Bool.and_eq_true,beq_iff_eq,List.cons.injEq]
theorem rrank_below(f:Int)(h0:0<=f)(h1:f<=18446744073709551615)(w:World):
  Calls Tryd.prog 79 #[.int .u64 f] w fun e w'=>e=.returned (.int .i64 (placeF f.toNat))/\Below w.heap.size w w':=
 (rrank_any f h0 h1 w).mono fun _ _ ⟨h1,h2⟩=>⟨h1,h2 ▸ Below.refl _ _⟩
end Go.Proofs.YtlhfickniegooaaDoor
