/-
   Written by an AI agent.
-/
import Derived.Test.YtbjegfpfmnleeaaGreatDoorProg
import Derived.Test.YtbjegfpfmnleeaaGreatDoorQw04
namespace Go.Proofs.YtbjegfpfmnleeaaGreatDoor
open Go.RowKit Go.Sort
set_option maxRecDepth 100000
variable {a:Act} {w:World} {df:List Deferred} {N:Act->World->Prop} {Q:Exit->Act->World->Prop} {l:List (Nat×Value)}
noncomputable def r_kn (n:Nat):Code:=((Tryz.f91.body.bind (findR n)).getD .skip)
noncomputable def knBody:Code:=(.seq (r_kn 0) (.seq (r_kn 1) (.seq (r_kn 2) (.seq (r_kn 3) .ret))))
theorem kn_body:Tryz.f91.body=some knBody:=by kernel_rfl
theorem kn_r0(hs:Sl 12 a l df)
  (hN: ∀a',Sl 12 a' ((0,.pointer none)::dropL [0] l) df->N a' w):Rg N Q a w (r_kn 0):=
 reg (l0:=[]) [0] [0] [] hs trivial hN (by kernel_rfl)
theorem kn_r1(hs:Sl 12 a l df)
  (hN: ∀a',Sl 12 a' ((1,pT w.heap.size)::dropL [1,2,3] l) df->N a' (w.alloc (.cells #[.pointer none,.pointer none,.pointer none,.pointer none,.pointer none,.pointer none,.pointer none,.pointer none,.slice none 0 0,.pointer none,.pointer none,ii 0] 169))):Rg N Q a w (r_kn 1):=
 reg (l0:=[]) [1] [1,2,3] [.raw,.raw] hs trivial hN (by kernel_rfl)
theorem kn_r2{g1 gs ns cs:Nat}(hs:Sl 12 a l df)(e1:Lk l 1 (pT g1))(i0: ∀w,(Instr.sliceAt 166 (pT g1) none none none).run Tryz.prog w=.ok (.slice (some ⟨gs,0,none⟩) ns cs) w)(s1:So 167 g1 8 (.slice (some ⟨gs,0,none⟩) ns cs) w [.slice (some ⟨gs,0,none⟩) ns cs])
  (hN: ∀a',Sl 12 a' (dropL (List.range' 4 7) l) df->N a' (w.setCells g1 8 [.slice (some ⟨gs,0,none⟩) ns cs])):Rg N Q a w (r_kn 2):=
 reg (l0:=[(1,pT g1)]) [] (List.range' 4 7) [.val (.slice (some ⟨gs,0,none⟩) ns cs),.sto] hs ⟨e1,trivial⟩ (aI (i0 w) (aI s1 hN)) (by kernel_rfl)
theorem kn_r3{g1:Nat}(hs:Sl 12 a l df)(e1:Lk l 1 (pT g1))
  (hN: ∀a',Sl 12 a' ((0,pT g1)::dropL [0,11] l) df->N a' w):Rg N Q a w (r_kn 3):=
 reg (l0:=[(1,pT g1)]) [0] [0,11] [] hs ⟨e1,trivial⟩ hN (by kernel_rfl)
noncomputable def r_kc (n:Nat):Code:=((Tryz.f97.body.bind (findR n)).getD .skip)
noncomputable def kcL0:Code:=(.seq (r_kc 4) (.seq (.cond (.tmp 17) .skip (.exit 0)) (.seq (.block 1 (.seq (r_kc 5) (r_kc 6))) (r_kc 7))))
noncomputable def kcBody:Code:=(.seq (r_kc 0) (.seq (.seq (r_kc 1) (.cond (.tmp 8) (.seq (r_kc 2) (.seq (.seq (r_kc 3) (.block 0 (.loop kcL0))) (r_kc 8))) .skip)) (.seq (.seq (r_kc 9) (.cond (.tmp 32) (r_kc 10) .skip)) (.seq (r_kc 11) .ret))))
theorem kc_body:Tryz.f97.body=some kcBody:=by kernel_rfl
theorem kc_r0{d:Dt}{m:Dm}(hs:Sl 40 a l df)(e0:Lk l 0 (.agg (d.cs m)))
  (hN: ∀a',Sl 40 a' ((1,pT w.heap.size)::(2,pT ((w.alloc (.cells (d.cs m) 53)).heap.size))::dropL [1,2] l) df->N a' ((w.alloc (.cells (d.cs m) 53)).alloc (.cells zA 53))):Rg N Q a w (r_kc 0):=
 reg (l0:=[(0,.agg (d.cs m))]) [1,2] [1,2] [.raw,.raw] hs ⟨e0,trivial⟩ hN (by kernel_rfl)
theorem kc_r1{g1 il ic:Nat}{ia:Option Addr}{b8:Bool}(hs:Sl 40 a l df)(e1:Lk l 1 (pT g1))(l0:Lp 23 (pF g1 10) (.slice ia il ic) w)(h1: ∀w,(binOp .neq 23 (.slice ia il ic) (.slice none 0 0)).run Tryz.prog w=.ok (.bool b8) w)
  (hN: ∀a',Sl 40 a' ((8,.bool b8)::dropL [6,7,8] l) df->N a' w):Rg N Q a w (r_kc 1):=
 reg (l0:=[(1,pT g1)]) [8] [6,7,8] [.val (.slice ia il ic),.bin (.bool b8)] hs ⟨e1,trivial⟩ (aI l0.run (aI (bin_run (x:=.tmp 7) (y:=.const (.slice none 0 0)) (by kernel_rfl) (h1 w)) hN)) (by kernel_rfl)
theorem kc_r2{g1 il ic n12:Nat}{ia:Option Addr}{wm12:World}(hs:Sl 40 a l df)(e1:Lk l 1 (pT g1))(l0:Lp 23 (pF g1 10) (.slice ia il ic) w)(m1:(Instr.makeSlice 23 (ii (il:Int)) (ii (il:Int))).run Tryz.prog w=.ok (.slice (some ⟨w.heap.size,0,none⟩) n12 n12) wm12)
  (hN: ∀a',Sl 40 a' ((3,.slice (some ⟨w.heap.size,0,none⟩) n12 n12)::dropL [3,9,10,11,12] l) df->N a' wm12):Rg N Q a w (r_kc 2):=
 reg (l0:=[(1,pT g1)]) [3] [3,9,10,11,12] [.val (.slice ia il ic),.vw (.slice (some ⟨w.heap.size,0,none⟩) n12 n12) wm12] hs ⟨e1,trivial⟩ (aI l0.run (aI m1 hN)) (by kernel_rfl)
theorem kc_r3{g1 il ic:Nat}{ia:Option Addr}(hs:Sl 40 a l df)(e1:Lk l 1 (pT g1))(l0:Lp 23 (pF g1 10) (.slice ia il ic) w)
  (hN: ∀a',Sl 40 a' ((14,.slice ia il ic)::(15,ii (il:Int))::(16,ii 0)::dropL [13,14,15,16] l) df->N a' w):Rg N Q a w (r_kc 3):=
 reg (l0:=[(1,pT g1)]) [14,15,16] [13,14,15,16] [.val (.slice ia il ic)] hs ⟨e1,trivial⟩ (aI l0.run hN) (by kernel_rfl)
theorem kc_r4{j n15:Nat}{b17:Bool}(hs:Sl 40 a l df)(e16:Lk l 16 (ii (j:Int)))(e15:Lk l 15 (ii (n15:Int)))(h0:decide ((j:Int)<(n15:Int))=b17)
  (hN: ∀a',Sl 40 a' ((17,.bool b17)::dropL [17] l) df->N a' w):Rg N Q a w (r_kc 4):=
 reg (l0:=[(16,ii (j:Int)),(15,ii (n15:Int))]) [17] [17] [.bit b17] hs ⟨e16,e15,trivial⟩ (aI h0 hN) (by kernel_rfl)
theorem kc_r5{j n14 c14 g19 o19:Nat}{d14:Option Addr}{d20:Dt}{m20:Dm}(hs:Sl 40 a l df)(e16:Lk l 16 (ii (j:Int)))(e14:Lk l 14 (.slice d14 n14 c14))(i0:Ix 23 (.slice d14 n14 c14) (ii (j:Int)) (pF g19 o19))(l1:Lp 53 (pF g19 o19) (.agg (d20.cs m20)) w)(s2:So 53 w.heap.size 0 (.agg (d20.cs m20)) (w.alloc (.cells zA 53)) (d20.cs m20).toList)
  (hN: ∀a',Sl 40 a' ((4,ii (j:Int))::(5,pT w.heap.size)::dropL [4,5,18,19,20] l) df->N a' ((w.alloc (.cells zA 53)).setCells w.heap.size 0 (d20.cs m20).toList)):Rg N Q a w (r_kc 5):=
 reg (l0:=[(16,ii (j:Int)),(14,.slice d14 n14 c14)]) [4,5] [4,5,18,19,20] [.val (pF g19 o19),.val (.agg (d20.cs m20)),.raw,.sto] hs ⟨e16,e14,trivial⟩ (aI (i0 w) (aI l1.run (aI s2 hN))) (by kernel_rfl)
theorem kc_r6{g3 n3 c3 j4 g5 g25 o25:Nat}{d23:Dt}{m23:Dm}{C0:Dm->World->Prop}(hs:Sl 40 a l df)(e3:Lk l 3 (.slice (some ⟨g3,0,none⟩) n3 c3))(e4:Lk l 4 (ii (j4:Int)))(e5:Lk l 5 (pT g5))(l0:Lp 53 (pT g5) (.agg (d23.cs m23)) w)(k1:Ca 97 #[.agg (d23.cs m23)] w fun e w'=> ∃x24:Dm,e=.returned (.agg (d23.cs x24))/\C0 x24 w')(i2:Ix 23 (.slice (some ⟨g3,0,none⟩) n3 c3) (ii (j4:Int)) (pF g25 o25))(s3: ∀(x24:Dm) (w1:World),C0 x24 w1->So 53 g25 o25 (.agg (d23.cs x24)) w1 (d23.cs x24).toList)
  (hN: ∀a' (x24:Dm) (w1:World),C0 x24 w1->Sl 40 a' (dropL [21,22,23,24,25] l) df->N a' (w1.setCells g25 o25 (d23.cs x24).toList)):Rg N Q a w (r_kc 6):=
 reg (l0:=[(3,.slice (some ⟨g3,0,none⟩) n3 c3),(4,ii (j4:Int)),(5,pT g5)]) [] [21,22,23,24,25] [.val (.agg (d23.cs m23)),.ex (Dm) (fun x24=>.agg (d23.cs x24)) C0,.val (pF g25 o25),.sto] hs ⟨e3,e4,e5,trivial⟩ (aI l0.run (aI k1 (fun(x24:Dm) (w1:World) (hc0:C0 x24 w1)=>(aI (i2 w1) (aI (s3 x24 w1 hc0) (fun a'=>hN a' x24 w1 hc0)))))) (by kernel_rfl)
theorem kc_r7{j:Nat}(hs:Sl 40 a l df)(e16:Lk l 16 (ii (j:Int)))(h0: -9223372036854775808<=(j:Int)+1/\(j:Int)+1<=9223372036854775807)
  (hN: ∀a',Sl 40 a' ((16,ii ((j:Int)+1))::dropL [16,26] l) df->N a' w):Rg N Q a w (r_kc 7):=
 reg (l0:=[(16,ii (j:Int))]) [16] [16,26] [.ari] hs ⟨e16,trivial⟩ (aI h0 hN) (by kernel_rfl)
theorem kc_r8{g3 n3 c3 g1:Nat}(hs:Sl 40 a l df)(e3:Lk l 3 (.slice (some ⟨g3,0,none⟩) n3 c3))(e1:Lk l 1 (pT g1))(s0:So 23 g1 10 (.slice (some ⟨g3,0,none⟩) n3 c3) w [.slice (some ⟨g3,0,none⟩) n3 c3])
  (hN: ∀a',Sl 40 a' (dropL [27,28] l) df->N a' (w.setCells g1 10 [.slice (some ⟨g3,0,none⟩) n3 c3])):Rg N Q a w (r_kc 8):=
 reg (l0:=[(3,.slice (some ⟨g3,0,none⟩) n3 c3),(1,pT g1)]) [] [27,28] [.sto] hs ⟨e3,e1,trivial⟩ (aI s0 hN) (by kernel_rfl)
theorem kc_r9{g1 pl pc:Nat}{pa:Option Addr}{b32:Bool}(hs:Sl 40 a l df)(e1:Lk l 1 (pT g1))(l0:Lp 24 (pF g1 (5+4)) (.slice pa pl pc) w)(h1: ∀w,(binOp .neq 24 (.slice pa pl pc) (.slice none 0 0)).run Tryz.prog w=.ok (.bool b32) w)
  (hN: ∀a',Sl 40 a' ((32,.bool b32)::dropL [29,30,31,32] l) df->N a' w):Rg N Q a w (r_kc 9):=
 reg (l0:=[(1,pT g1)]) [32] [29,30,31,32] [.val (.slice pa pl pc),.bin (.bool b32)] hs ⟨e1,trivial⟩ (aI l0.run (aI (bin_run (x:=.tmp 31) (y:=.const (.slice none 0 0)) (by kernel_rfl) (h1 w)) hN)) (by kernel_rfl)
theorem kc_r10{g1 pl pc:Nat}{pa:Option Addr}{C0:S3->World->Prop}(hs:Sl 40 a l df)(e1:Lk l 1 (pT g1))(l0:Lp 24 (pF g1 (5+4)) (.slice pa pl pc) w)(k1: ∀ty,∃v w',(Builtin.append_ #[24,24] ty #[.slice none 0 0,.slice pa pl pc]).run Tryz.prog w=.ok v.v w'/\C0 v w')(s2: ∀(x36:S3) (w1:World),C0 x36 w1->So 24 g1 (5+4) (.slice x36.d x36.n x36.c) w1 [.slice x36.d x36.n x36.c])
  (hN: ∀a' (x36:S3) (w1:World),C0 x36 w1->Sl 40 a' (dropL [33,34,35,36,37,38] l) df->N a' (w1.setCells g1 (5+4) [.slice x36.d x36.n x36.c])):Rg N Q a w (r_kc 10):=
 reg (l0:=[(1,pT g1)]) [] [33,34,35,36,37,38] [.val (.slice pa pl pc),.apx S3 S3.v C0,.sto] hs ⟨e1,trivial⟩ (aI l0.run (aI k1 (fun(x36:S3) (w1:World) (hc0:C0 x36 w1)=>(aI (s2 x36 w1 hc0) (fun a'=>hN a' x36 w1 hc0))))) (by kernel_rfl)
theorem kc_r11{g1 g2:Nat}{d39:Dt}{m39:Dm}(hs:Sl 40 a l df)(e1:Lk l 1 (pT g1))(e2:Lk l 2 (pT g2))(l0:Lp 53 (pT g1) (.agg (d39.cs m39)) w)(s1:So 53 g2 0 (.agg (d39.cs m39)) w (d39.cs m39).toList)
  (hN: ∀a',Sl 40 a' (dropL [39] l) df->N a' (w.setCells g2 0 (d39.cs m39).toList)):Rg N Q a w (r_kc 11):=
 reg (l0:=[(1,pT g1),(2,pT g2)]) [] [39] [.val (.agg (d39.cs m39)),.sto] hs ⟨e1,e2,trivial⟩ (aI l0.run (aI s1 hN)) (by kernel_rfl)
noncomputable def r_ki (n:Nat):Code:=((Tryz.f95.body.bind (findR n)).getD .skip)
noncomputable def kiL0:Code:=(.seq (r_ki 2) (.seq (.cond (.tmp 8) .skip (.exit 0)) (.seq (.block 1 (.seq (r_ki 3) (.seq (r_ki 4) (.cond (.tmp 13) (.seq (r_ki 5) .ret) .skip)))) (r_ki 6))))
noncomputable def kiBody:Code:=(.seq (r_ki 0) (.seq (.seq (r_ki 1) (.block 0 (.loop kiL0))) (.seq (r_ki 7) .ret)))
theorem ki_body:Tryz.f95.body=some kiBody:=by kernel_rfl
theorem ki_r0(hs:Sl 18 a l df)
  (hN: ∀a',Sl 18 a' ((2,.nilIface)::dropL [2] l) df->N a' w):Rg N Q a w (r_ki 0):=
 reg (l0:=[]) [2] [2] [] hs trivial hN (by kernel_rfl)
theorem ki_r1{g0 n0 c0:Nat}(hs:Sl 18 a l df)(e0:Lk l 0 (.slice (some ⟨g0,0,none⟩) n0 c0))
  (hN: ∀a',Sl 18 a' ((5,.slice (some ⟨g0,0,none⟩) n0 c0)::(6,ii (n0:Int))::(7,ii 0)::dropL [5,6,7] l) df->N a' w):Rg N Q a w (r_ki 1):=
 reg (l0:=[(0,.slice (some ⟨g0,0,none⟩) n0 c0)]) [5,6,7] [5,6,7] [] hs ⟨e0,trivial⟩ hN (by kernel_rfl)
theorem ki_r2{j n0:Nat}{b8:Bool}(hs:Sl 18 a l df)(e7:Lk l 7 (ii (j:Int)))(e6:Lk l 6 (ii (n0:Int)))(h0:decide ((j:Int)<(n0:Int))=b8)
  (hN: ∀a',Sl 18 a' ((8,.bool b8)::dropL [8] l) df->N a' w):Rg N Q a w (r_ki 2):=
 reg (l0:=[(7,ii (j:Int)),(6,ii (n0:Int))]) [8] [8] [.bit b8] hs ⟨e7,e6,trivial⟩ (aI h0 hN) (by kernel_rfl)
theorem ki_r3{g0 n0 c0 j g9 o9:Nat}{d:Dt}{m:Dm}(hs:Sl 18 a l df)(e5:Lk l 5 (.slice (some ⟨g0,0,none⟩) n0 c0))(e7:Lk l 7 (ii (j:Int)))(i0:Ix 23 (.slice (some ⟨g0,0,none⟩) n0 c0) (ii (j:Int)) (pF g9 o9))(l1:Lp 53 (pF g9 o9) (.agg (d.cs m)) w)(s2:So 53 w.heap.size 0 (.agg (d.cs m)) (w.alloc (.cells zA 53)) (d.cs m).toList)
  (hN: ∀a',Sl 18 a' ((4,pT w.heap.size)::dropL [4,9,10] l) df->N a' ((w.alloc (.cells zA 53)).setCells w.heap.size 0 (d.cs m).toList)):Rg N Q a w (r_ki 3):=
 reg (l0:=[(5,.slice (some ⟨g0,0,none⟩) n0 c0),(7,ii (j:Int))]) [4] [4,9,10] [.val (pF g9 o9),.val (.agg (d.cs m)),.raw,.sto] hs ⟨e5,e7,trivial⟩ (aI (i0 w) (aI l1.run (aI s2 hN))) (by kernel_rfl)
theorem ki_r4{g4:Nat}{d:Dt}{m:Dm}{b12:Bool}{C0:World->Prop}(hs:Sl 18 a l df)(e4:Lk l 4 (pT g4))(l0:Lp 53 (pT g4) (.agg (d.cs m)) w)(k1:Cl 65 #[.agg (d.cs m)] w (.bool b12) C0)
  (hN: ∀a' (w1:World),C0 w1->Sl 18 a' ((13,.bool (!b12))::dropL [11,12,13] l) df->N a' w1):Rg N Q a w (r_ki 4):=
 reg (l0:=[(4,pT g4)]) [13] [11,12,13] [.val (.agg (d.cs m)),.ret (.bool b12) C0] hs ⟨e4,trivial⟩ (aI l0.run (aI k1 (fun(w1:World) (hc0:C0 w1)=>(fun a'=>hN a' w1 hc0)))) (by kernel_rfl)
theorem ki_r5(hs:Sl 18 a l df)
  (hN: ∀a',Sl 18 a' ((2,.iface 156 (pT w.heap.size))::dropL [2,14,15,16] l) df->N a' (w.alloc (.cells #[ii 1,ii 0,.string (⟨#[]⟩)] 158))):Rg N Q a w (r_ki 5):=
 reg (l0:=[]) [2] [2,14,15,16] [.raw,.raw,.raw] hs trivial hN (by kernel_rfl)
theorem ki_r6{j:Nat}(hs:Sl 18 a l df)(e7:Lk l 7 (ii (j:Int)))(h0: -9223372036854775808<=(j:Int)+1/\(j:Int)+1<=9223372036854775807)
  (hN: ∀a',Sl 18 a' ((7,ii ((j:Int)+1))::dropL [7,17] l) df->N a' w):Rg N Q a w (r_ki 6):=
 reg (l0:=[(7,ii (j:Int))]) [7] [7,17] [.ari] hs ⟨e7,trivial⟩ (aI h0 hN) (by kernel_rfl)
theorem ki_r7(hs:Sl 18 a l df)
  (hN: ∀a',Sl 18 a' ((2,.nilIface)::dropL [2] l) df->N a' w):Rg N Q a w (r_ki 7):=
 reg (l0:=[]) [2] [2] [] hs trivial hN (by kernel_rfl)
noncomputable def r_kf (n:Nat):Code:=((Tryz.f96.body.bind (findR n)).getD .skip)
noncomputable def kfL0:Code:=(.seq (.seq (r_kf 8) (.cond (.tmp 41) .skip (.exit 0))) (.seq (.block 1 (.seq (r_kf 10) (.cond (.tmp 51) (.seq (r_kf 11) (.seq (r_kf 12) (.cond (.tmp 65) (.seq (r_kf 13) .ret) .skip))) .skip))) (r_kf 9)))
noncomputable def kfBody:Code:=(.seq (r_kf 0) (.seq (.seq (r_kf 1) (.seq (r_kf 2) (.cond (.tmp 16) (.seq (r_kf 3) .ret) .skip))) (.seq (r_kf 4) (.seq (.seq (r_kf 5) (.cond (.tmp 24) (.seq (r_kf 6) .ret) .skip)) (.seq (.seq (r_kf 7) (.block 0 (.loop kfL0))) (.seq (r_kf 14) .ret))))))
theorem kf_body:Tryz.f96.body=some kfBody:=by kernel_rfl
theorem kf_r0{d:Dt}{m:Dm}(hs:Sl 69 a l df)(e1:Lk l 1 (.agg (d.cs m)))
  (hN: ∀a',Sl 69 a' ((3,pT w.heap.size)::(4,.pointer none)::(5,.int .u64 0)::(6,.nilIface)::dropL [3,4,5,6] l) df->N a' (w.alloc (.cells (d.cs m) 53))):Rg N Q a w (r_kf 0):=
 reg (l0:=[(1,.agg (d.cs m))]) [3,4,5,6] [3,4,5,6] [.raw] hs ⟨e1,trivial⟩ hN (by kernel_rfl)
theorem kf_r1{g3:Nat}{d:Dt}{m:Dm}{C0:Value->World->Prop}(hs:Sl 69 a l df)(e3:Lk l 3 (pT g3))(l0:Lp 53 (pT g3) (.agg (d.cs m)) w)(k1:Ca 115 #[.agg (d.cs m)] w fun e w'=> ∃x14,e=.returned x14/\C0 x14 w')
  (hN: ∀a' (x14:Value) (w1:World),C0 x14 w1->Sl 69 a' ((7,x14)::dropL [7,13,14] l) df->N a' w1):Rg N Q a w (r_kf 1):=
 reg (l0:=[(3,pT g3)]) [7] [7,13,14] [.val (.agg (d.cs m)),.con C0] hs ⟨e3,trivial⟩ (aI l0.run (aI k1 (fun(x14:Value) (w1:World) (hc0:C0 x14 w1)=>(fun a'=>hN a' x14 w1 hc0)))) (by kernel_rfl)
theorem kf_r2n(hs:Sl 69 a l df)(e7:Lk l 7 (.nilIface))
  (hN: ∀a',Sl 69 a' ((16,.bool false)::dropL [15,16] l) df->N a' w):Rg N Q a w (r_kf 2):=
 reg (l0:=[(7,.nilIface)]) [16] [15,16] [.raw] hs ⟨e7,trivial⟩ hN (by kernel_rfl)
theorem kf_r2e{T7:TypeId}{v7:Value}(hs:Sl 69 a l df)(e7:Lk l 7 (.iface T7 v7))
  (hN: ∀a',Sl 69 a' ((16,.bool true)::dropL [15,16] l) df->N a' w):Rg N Q a w (r_kf 2):=
 reg (l0:=[(7,.iface T7 v7)]) [16] [15,16] [.raw] hs ⟨e7,trivial⟩ hN (by kernel_rfl)
theorem kf_r3{er7:Value}(hs:Sl 69 a l df)(e7:Lk l 7 (er7))
  (hN: ∀a',Sl 69 a' ((4,.pointer none)::(5,.int .u64 0)::(6,er7)::dropL [4,5,6,17] l) df->N a' w):Rg N Q a w (r_kf 3):=
 reg (l0:=[(7,er7)]) [4,5,6] [4,5,6,17] [] hs ⟨e7,trivial⟩ hN (by kernel_rfl)
theorem kf_r4{g3:Nat}{d:Dt}{m:Dm}{h:Int}{C0:Value->World->Prop}(hs:Sl 69 a l df)(e3:Lk l 3 (pT g3))(l0:Lp 53 (pT g3) (.agg (d.cs m)) w)(k1:Ca 116 #[.agg (d.cs m)] w fun e w'=> ∃x20:Value,e=.returned (.tuple #[.int .u64 h,x20])/\C0 x20 w')
  (hN: ∀a' (x20:Value) (w1:World),C0 x20 w1->Sl 69 a' ((8,.int .u64 h)::(9,x20)::dropL [8,9,18,19,20,21,22] l) df->N a' w1):Rg N Q a w (r_kf 4):=
 reg (l0:=[(3,pT g3)]) [8,9] [8,9,18,19,20,21,22] [.val (.agg (d.cs m)),.ex (Value) (fun x20=>.tuple #[.int .u64 h,x20]) C0] hs ⟨e3,trivial⟩ (aI l0.run (aI k1 (fun(x20:Value) (w1:World) (hc0:C0 x20 w1)=>(fun a'=>hN a' x20 w1 hc0)))) (by kernel_rfl)
theorem kf_r5n(hs:Sl 69 a l df)(e9:Lk l 9 (.nilIface))
  (hN: ∀a',Sl 69 a' ((24,.bool false)::dropL [23,24] l) df->N a' w):Rg N Q a w (r_kf 5):=
 reg (l0:=[(9,.nilIface)]) [24] [23,24] [.raw] hs ⟨e9,trivial⟩ hN (by kernel_rfl)
theorem kf_r7{gm gh nh ch g38 o38:Nat}{h v36 v37:Int}{p39:Option Addr}(hs:Sl 69 a l df)(e0:Lk l 0 (pT gm))(e8:Lk l 8 (.int .u64 h))(l0:Lp 167 (pF gm 8) (.slice (some ⟨gh,0,none⟩) nh ch) w)(i1: ∀w,(convert 3 49 (ii (nh:Int))).run Tryz.prog w=.ok (.int .u64 v36) w)(h2: ∀w,(binOp .rem 49 (.int .u64 h) (.int .u64 v36)).run Tryz.prog w=.ok (.int .u64 v37) w)(i3:Ix 167 (.slice (some ⟨gh,0,none⟩) nh ch) (.int .u64 v37) (pF g38 o38))(l4:Lp 161 (pF g38 o38) (.pointer p39) w)
  (hN: ∀a' mm,Sl 69 a' ((10,.pointer p39)::dropL (10::List.range' 26 14) l) df->N a' (w.drewN mm)):Rg N Q a w (r_kf 7):=
 regQ (l0:=[(0,pT gm),(8,.int .u64 h)]) [10] (10::List.range' 26 14) [.val (.slice (some ⟨gh,0,none⟩) nh ch),.val (.slice (some ⟨gh,0,none⟩) nh ch),.val (.int .u64 v36),.bin (.int .u64 v37),.val (pF g38 o38),.val (.pointer p39)] hs ⟨e0,e8,trivial⟩ (aI l0 (aI l0 (aI i1 (aI (fun w'=>bin_run (x:=.tmp 30) (y:=.tmp 36) (by kernel_rfl) (h2 w')) (aI i3 (aI l4 hN)))))) (by kernel_rfl)
theorem kf_r8n{b41:Bool}(hs:Sl 69 a l df)(e10:Lk l 10 (.pointer none))(h0: ∀w,(binOp .neq 161 (.pointer none) (.pointer none)).run Tryz.prog w=.ok (.bool b41) w)
  (hN: ∀a',Sl 69 a' ((41,.bool b41)::dropL [40,41] l) df->N a' w):Rg N Q a w (r_kf 8):=
 reg (l0:=[(10,.pointer none)]) [41] [40,41] [.bin (.bool b41)] hs ⟨e10,trivial⟩ (aI (bin_run (x:=.tmp 40) (y:=.const (.pointer none)) (by kernel_rfl) (h0 w)) hN) (by kernel_rfl)
theorem kf_r8e{g10:Nat}{b41:Bool}(hs:Sl 69 a l df)(e10:Lk l 10 (pT g10))(h0: ∀w,(binOp .neq 161 (pT g10) (.pointer none)).run Tryz.prog w=.ok (.bool b41) w)
  (hN: ∀a',Sl 69 a' ((41,.bool b41)::dropL [40,41] l) df->N a' w):Rg N Q a w (r_kf 8):=
 reg (l0:=[(10,pT g10)]) [41] [40,41] [.bin (.bool b41)] hs ⟨e10,trivial⟩ (aI (bin_run (x:=.tmp 40) (y:=.const (.pointer none)) (by kernel_rfl) (h0 w)) hN) (by kernel_rfl)
theorem kf_r9{g10:Nat}{p45:Option Addr}(hs:Sl 69 a l df)(e10:Lk l 10 (pT g10))(l0:Lp 161 (pF g10 23) (.pointer p45) w)
  (hN: ∀a',Sl 69 a' ((10,.pointer p45)::dropL [10,42,43,44,45] l) df->N a' w):Rg N Q a w (r_kf 9):=
 reg (l0:=[(10,pT g10)]) [10] [10,42,43,44,45] [.val (.pointer p45)] hs ⟨e10,trivial⟩ (aI l0.run hN) (by kernel_rfl)
theorem kf_r10{g10:Nat}{he h:Int}{b51:Bool}(hs:Sl 69 a l df)(e10:Lk l 10 (pT g10))(e8:Lk l 8 (.int .u64 h))(l0:Lp 49 (pF g10 22) (.int .u64 he) w)(h1:decide (he=h)=b51)
  (hN: ∀a',Sl 69 a' ((51,.bool b51)::dropL [46,47,48,49,50,51] l) df->N a' w):Rg N Q a w (r_kf 10):=
 reg (l0:=[(10,pT g10),(8,.int .u64 h)]) [51] [46,47,48,49,50,51] [.val (.int .u64 he),.bit b51] hs ⟨e10,e8,trivial⟩ (aI l0.run (aI h1 hN)) (by kernel_rfl)
theorem kf_r11{C:World->Prop}{g10 g3:Nat}{de d:Dt}{me m:Dm}{b11:Bool}{er12:Value}(hs:Sl 69 a l df)(e10:Lk l 10 (pT g10))(e3:Lk l 3 (pT g3))(l0: ∀u,C u->Lp 53 (pT g10) (.agg (de.cs me)) u)(l1: ∀u,C u->Lp 53 (pT g3) (.agg (d.cs m)) u)(k2: ∀u,C u->Cl 99 #[.agg (de.cs me),.agg (d.cs m)] u (.tuple #[.bool b11,er12]) C)
  (hC:C (w.drewN 1)) (hN: ∀a' u,C u->Sl 69 a' ((11,.bool b11)::(12,er12)::dropL (11::12::List.range' 52 9) l) df->N a' u):Rg N Q a w (r_kf 11):=
 regB (l0:=[(10,pT g10),(3,pT g3)]) C [11,12] (11::12::List.range' 52 9) [.val (.agg (de.cs me)),.val (.agg (d.cs m)),.val (.tuple #[.bool b11,er12])] hs ⟨e10,e3,trivial⟩ (aI hC (aI (fun u hu=>(l0 u hu).run) (aI (fun u hu=>(l1 u hu).run) (aI k2 (fun a' u hu=>hN a' u hu))))) (by kernel_rfl)
theorem kf_r12n_t(hs:Sl 69 a l df)(e11:Lk l 11 (.bool true))(e12:Lk l 12 (.nilIface))
  (hN: ∀a',Sl 69 a' ((65,.bool true)::dropL [61,62,63,64,65] l) df->N a' w):Rg N Q a w (r_kf 12):=
 reg (l0:=[(11,.bool true),(12,.nilIface)]) [65] [61,62,63,64,65] [.raw] hs ⟨e11,e12,trivial⟩ hN (by kernel_rfl)
theorem kf_r12n_f(hs:Sl 69 a l df)(e11:Lk l 11 (.bool false))
  (hN: ∀a',Sl 69 a' ((65,.bool false)::dropL [61,62,63,64,65] l) df->N a' w):Rg N Q a w (r_kf 12):=
 reg (l0:=[(11,.bool false)]) [65] [61,62,63,64,65] [] hs ⟨e11,trivial⟩ hN (by kernel_rfl)
theorem kf_r13{g10:Nat}{h:Int}(hs:Sl 69 a l df)(e10:Lk l 10 (pT g10))(e8:Lk l 8 (.int .u64 h))
  (hN: ∀a',Sl 69 a' ((4,pT g10)::(5,.int .u64 h)::(6,.nilIface)::dropL [4,5,6,66,67] l) df->N a' w):Rg N Q a w (r_kf 13):=
 reg (l0:=[(10,pT g10),(8,.int .u64 h)]) [4,5,6] [4,5,6,66,67] [] hs ⟨e10,e8,trivial⟩ hN (by kernel_rfl)
theorem kf_r14{h:Int}(hs:Sl 69 a l df)(e8:Lk l 8 (.int .u64 h))
  (hN: ∀a',Sl 69 a' ((4,.pointer none)::(5,.int .u64 h)::(6,.nilIface)::dropL [4,5,6,68] l) df->N a' w):Rg N Q a w (r_kf 14):=
 reg (l0:=[(8,.int .u64 h)]) [4,5,6] [4,5,6,68] [] hs ⟨e8,trivial⟩ hN (by kernel_rfl)
noncomputable def r_kp (n:Nat):Code:=((Tryz.f70.body.bind (findR n)).getD .skip)
noncomputable def kpBody:Code:=(.seq (r_kp 0) (.seq (.seq (r_kp 1) (.seq (r_kp 2) (.cond (.tmp 18) (.seq (r_kp 3) .ret) .skip))) (.seq (r_kp 4) (.seq (.seq (r_kp 5) (.cond (.tmp 28) (.seq (r_kp 6) .ret) .skip)) (.seq (.seq (r_kp 7) (.cond (.tmp 31) (.seq (r_kp 8) (.seq (r_kp 9) .ret)) .skip)) (.seq (.seq (r_kp 10) (.cond (.tmp 46) (r_kp 11) .skip)) (.seq (r_kp 12) (.seq (r_kp 13) (.seq (r_kp 14) (.seq (.seq (r_kp 15) (.cond (.tmp 74) (r_kp 16) (r_kp 17))) (.seq (r_kp 18) (.seq (r_kp 19) (.seq (r_kp 20) .ret)))))))))))))
theorem kp_body:Tryz.f70.body=some kpBody:=by kernel_rfl
theorem kp_r0{d v:Dt}{m mv:Dm}(hs:Sl 97 a l df)(e1:Lk l 1 (.agg (d.cs m)))(e2:Lk l 2 (.agg (v.cs mv)))
  (hN: ∀a',Sl 97 a' ((4,pT w.heap.size)::(5,pT ((w.alloc (.cells (d.cs m) 53)).heap.size))::(6,.nilIface)::dropL [4,5,6] l) df->N a' ((w.alloc (.cells (d.cs m) 53)).alloc (.cells (v.cs mv) 53))):Rg N Q a w (r_kp 0):=
 reg (l0:=[(1,.agg (d.cs m)),(2,.agg (v.cs mv))]) [4,5,6] [4,5,6] [.raw,.raw] hs ⟨e1,e2,trivial⟩ hN (by kernel_rfl)
theorem kp_r1{g4 g5:Nat}{d v:Dt}{m mv:Dm}{C0:Value->World->Prop}(hs:Sl 97 a l df)(e4:Lk l 4 (pT g4))(e5:Lk l 5 (pT g5))(l0:Lp 53 (pT g4) (.agg (d.cs m)) w)(l1:Lp 53 (pT g5) (.agg (v.cs mv)) w)(k2:Ca 95 #[.slice (some ⟨w.heap.size,0,none⟩) 2 2] (w.alloc (.cells #[ii d.h.kind,.string d.h.type,ii d.h.n,.int .u64 d.h.f,.string d.h.s,ii d.h.obj,ii d.h.frm,ii d.h.len,ii d.h.cap,.slice m.pa d.h.path.length m.pc,.slice m.ia d.k.len m.ic,ii v.h.kind,.string v.h.type,ii v.h.n,.int .u64 v.h.f,.string v.h.s,ii v.h.obj,ii v.h.frm,ii v.h.len,ii v.h.cap,.slice mv.pa v.h.path.length mv.pc,.slice mv.ia v.k.len mv.ic] 53)) fun e w'=> ∃x16,e=.returned x16/\C0 x16 w')
  (hN: ∀a' (x16:Value) (w1:World),C0 x16 w1->Sl 97 a' ((7,x16)::dropL [7,13,14,15,16] l) df->N a' w1):Rg N Q a w (r_kp 1):=
 reg (l0:=[(4,pT g4),(5,pT g5)]) [7] [7,13,14,15,16] [.val (.agg (d.cs m)),.val (.agg (v.cs mv)),.raw,.con C0] hs ⟨e4,e5,trivial⟩ (aI l0.run (aI l1.run (aI k2 (fun(x16:Value) (w1:World) (hc0:C0 x16 w1)=>(fun a'=>hN a' x16 w1 hc0))))) (by kernel_rfl)
theorem kp_r2n(hs:Sl 97 a l df)(e7:Lk l 7 (.nilIface))
  (hN: ∀a',Sl 97 a' ((18,.bool false)::dropL [17,18] l) df->N a' w):Rg N Q a w (r_kp 2):=
 reg (l0:=[(7,.nilIface)]) [18] [17,18] [.raw] hs ⟨e7,trivial⟩ hN (by kernel_rfl)
theorem kp_r2e{T7:TypeId}{v7:Value}(hs:Sl 97 a l df)(e7:Lk l 7 (.iface T7 v7))
  (hN: ∀a',Sl 97 a' ((18,.bool true)::dropL [17,18] l) df->N a' w):Rg N Q a w (r_kp 2):=
 reg (l0:=[(7,.iface T7 v7)]) [18] [17,18] [.raw] hs ⟨e7,trivial⟩ hN (by kernel_rfl)
theorem kp_r3{er7:Value}(hs:Sl 97 a l df)(e7:Lk l 7 (er7))
  (hN: ∀a',Sl 97 a' ((6,er7)::dropL [6,19] l) df->N a' w):Rg N Q a w (r_kp 3):=
 reg (l0:=[(7,er7)]) [6] [6,19] [] hs ⟨e7,trivial⟩ hN (by kernel_rfl)
theorem kp_r4{gm g4:Nat}{d:Dt}{m:Dm}{C0:Value->Value->Value->World->Prop}(hs:Sl 97 a l df)(e0:Lk l 0 (pT gm))(e4:Lk l 4 (pT g4))(l0:Lp 53 (pT g4) (.agg (d.cs m)) w)(k1:Ca 96 #[pT gm,.agg (d.cs m)] w fun e w'=> ∃x23a x23b x23c,e=.returned (.tuple #[x23a,x23b,x23c])/\C0 x23a x23b x23c w')
  (hN: ∀a' (x23a:Value) (x23b:Value) (x23c:Value) (w1:World),C0 x23a x23b x23c w1->Sl 97 a' ((8,x23a)::(9,x23b)::(10,x23c)::dropL (8::9::10::List.range' 20 7) l) df->N a' w1):Rg N Q a w (r_kp 4):=
 reg (l0:=[(0,pT gm),(4,pT g4)]) [8,9,10] (8::9::10::List.range' 20 7) [.val (.agg (d.cs m)),.con3 C0] hs ⟨e0,e4,trivial⟩ (aI l0.run (aI k1 (fun(x23a:Value) (x23b:Value) (x23c:Value) (w1:World) (hc0:C0 x23a x23b x23c w1)=>(fun a'=>hN a' x23a x23b x23c w1 hc0)))) (by kernel_rfl)
theorem kp_r5n(hs:Sl 97 a l df)(e10:Lk l 10 (.nilIface))
  (hN: ∀a',Sl 97 a' ((28,.bool false)::dropL [27,28] l) df->N a' w):Rg N Q a w (r_kp 5):=
 reg (l0:=[(10,.nilIface)]) [28] [27,28] [.raw] hs ⟨e10,trivial⟩ hN (by kernel_rfl)
theorem kp_r5e{T10:TypeId}{v10:Value}(hs:Sl 97 a l df)(e10:Lk l 10 (.iface T10 v10))
  (hN: ∀a',Sl 97 a' ((28,.bool true)::dropL [27,28] l) df->N a' w):Rg N Q a w (r_kp 5):=
 reg (l0:=[(10,.iface T10 v10)]) [28] [27,28] [.raw] hs ⟨e10,trivial⟩ hN (by kernel_rfl)
theorem kp_r6{er10:Value}(hs:Sl 97 a l df)(e10:Lk l 10 (er10))
  (hN: ∀a',Sl 97 a' ((6,er10)::dropL [6,29] l) df->N a' w):Rg N Q a w (r_kp 6):=
 reg (l0:=[(10,er10)]) [6] [6,29] [] hs ⟨e10,trivial⟩ hN (by kernel_rfl)
theorem kp_r7n{b31:Bool}(hs:Sl 97 a l df)(e8:Lk l 8 (.pointer none))(h0: ∀w,(binOp .neq 161 (.pointer none) (.pointer none)).run Tryz.prog w=.ok (.bool b31) w)
  (hN: ∀a',Sl 97 a' ((31,.bool b31)::dropL [30,31] l) df->N a' w):Rg N Q a w (r_kp 7):=
 reg (l0:=[(8,.pointer none)]) [31] [30,31] [.bin (.bool b31)] hs ⟨e8,trivial⟩ (aI (bin_run (x:=.tmp 30) (y:=.const (.pointer none)) (by kernel_rfl) (h0 w)) hN) (by kernel_rfl)
theorem kp_r7e{g8:Nat}{b31:Bool}(hs:Sl 97 a l df)(e8:Lk l 8 (pT g8))(h0: ∀w,(binOp .neq 161 (pT g8) (.pointer none)).run Tryz.prog w=.ok (.bool b31) w)
  (hN: ∀a',Sl 97 a' ((31,.bool b31)::dropL [30,31] l) df->N a' w):Rg N Q a w (r_kp 7):=
 reg (l0:=[(8,pT g8)]) [31] [30,31] [.bin (.bool b31)] hs ⟨e8,trivial⟩ (aI (bin_run (x:=.tmp 30) (y:=.const (.pointer none)) (by kernel_rfl) (h0 w)) hN) (by kernel_rfl)
theorem kp_r8{g8 g5:Nat}{v:Dt}{mv:Dm}{C0:Dm->World->Prop}(hs:Sl 97 a l df)(e8:Lk l 8 (pT g8))(e5:Lk l 5 (pT g5))(l0:Lp 53 (pT g5) (.agg (v.cs mv)) w)(k1:Ca 97 #[.agg (v.cs mv)] w fun e w'=> ∃x34:Dm,e=.returned (.agg (v.cs x34))/\C0 x34 w')(s2: ∀(x34:Dm) (w1:World),C0 x34 w1->So 53 g8 11 (.agg (v.cs x34)) w1 (v.cs x34).toList)
  (hN: ∀a' (x34:Dm) (w1:World),C0 x34 w1->Sl 97 a' (dropL [32,33,34,35,36] l) df->N a' (w1.setCells g8 11 (v.cs x34).toList)):Rg N Q a w (r_kp 8):=
 reg (l0:=[(8,pT g8),(5,pT g5)]) [] [32,33,34,35,36] [.val (.agg (v.cs mv)),.ex (Dm) (fun x34=>.agg (v.cs x34)) C0,.sto] hs ⟨e8,e5,trivial⟩ (aI l0.run (aI k1 (fun(x34:Dm) (w1:World) (hc0:C0 x34 w1)=>(aI (s2 x34 w1 hc0) (fun a'=>hN a' x34 w1 hc0))))) (by kernel_rfl)
theorem kp_r9(hs:Sl 97 a l df)
  (hN: ∀a',Sl 97 a' ((6,.nilIface)::dropL [6] l) df->N a' w):Rg N Q a w (r_kp 9):=
 reg (l0:=[]) [6] [6] [] hs trivial hN (by kernel_rfl)
theorem kp_r10{gm ny gh nh ch:Nat}{b46:Bool}(hs:Sl 97 a l df)(e0:Lk l 0 (pT gm))(l0:Lp 3 (pF gm 11) (ii (ny:Int)) w)(l1:Lp 167 (pF gm 8) (.slice (some ⟨gh,0,none⟩) nh ch) w)(h2:decide ((nh:Int)<=(ny:Int))=b46)
  (hN: ∀a' mm,Sl 97 a' ((46,.bool b46)::dropL (List.range' 37 10) l) df->N a' (w.drewN mm)):Rg N Q a w (r_kp 10):=
 regQ (l0:=[(0,pT gm)]) [46] (List.range' 37 10) [.val (ii (ny:Int)),.val (.slice (some ⟨gh,0,none⟩) nh ch),.bit b46] hs ⟨e0,trivial⟩ (aI l0 (aI l1 (aI h2 hN))) (by kernel_rfl)
theorem kp_r11{gm:Nat}{C0:World->Prop}(hs:Sl 97 a l df)(e0:Lk l 0 (pT gm))(k0:Cl 98 #[pT gm] w (.tuple #[]) C0)
  (hN: ∀a' (w1:World),C0 w1->Sl 97 a' (dropL [47,48] l) df->N a' w1):Rg N Q a w (r_kp 11):=
 reg (l0:=[(0,pT gm)]) [] [47,48] [.ret (.tuple #[]) C0] hs ⟨e0,trivial⟩ (aI k0 (fun(w1:World) (hc0:C0 w1)=>(fun a'=>hN a' w1 hc0))) (by kernel_rfl)
theorem kp_r12{g4:Nat}{d:Dt}{m:Dm}{ow:Bool}{C0:Value->World->Prop}(hs:Sl 97 a l df)(e4:Lk l 4 (pT g4))(l0:Lp 53 (pT g4) (.agg (d.cs m)) w)(k1:Ca 99 #[.agg (d.cs m),.agg (d.cs m)] w fun e w'=> ∃x52:Value,e=.returned (.tuple #[.bool ow,x52])/\C0 x52 w')
  (hN: ∀a' (x52:Value) (w1:World),C0 x52 w1->Sl 97 a' ((11,.bool ow)::dropL (11::12::List.range' 49 6) l) df->N a' w1):Rg N Q a w (r_kp 12):=
 reg (l0:=[(4,pT g4)]) [11] (11::12::List.range' 49 6) [.val (.agg (d.cs m)),.val (.agg (d.cs m)),.ex (Value) (fun x52=>.tuple #[.bool ow,x52]) C0] hs ⟨e4,trivial⟩ (aI l0.run (aI l0.run (aI k1 (fun(x52:Value) (w1:World) (hc0:C0 x52 w1)=>(fun a'=>hN a' x52 w1 hc0))))) (by kernel_rfl)
theorem kp_r13{C:World->Prop}{g4 g5 gm:Nat}{d v:Dt}{m mv:Dm}{h:Int}{pt:Option Addr}{ow:Bool}{C0:Dm->World->Prop}{C1:World->Dm->World->Prop}(hs:Sl 97 a l df)(e4:Lk l 4 (pT g4))(e5:Lk l 5 (pT g5))(e9:Lk l 9 (.int .u64 h))(e0:Lk l 0 (pT gm))(e11:Lk l 11 (.bool ow))(l0: ∀u,C u->Lp 53 (pT g4) (.agg (d.cs m)) u)(l1: ∀u,C u->Lp 53 (pT g5) (.agg (v.cs mv)) u)(l2: ∀u,C u->Lp 161 (pF gm 10) (.pointer pt) u)(c3:C (w.drewN 1))(k4:Ca 97 #[.agg (d.cs m)] (w.drewN 1) fun e w'=> ∃x56:Dm,e=.returned (.agg (d.cs x56))/\C0 x56 w')(c5: ∀(x56:Dm) (w1:World),C0 x56 w1->C w1)(k6: ∀(x56:Dm) (w1:World),C0 x56 w1->Ca 97 #[.agg (v.cs mv)] w1 fun e w'=> ∃x58:Dm,e=.returned (.agg (v.cs x58))/\C1 w1 x58 w')(c7: ∀(x56:Dm) (w1:World),C0 x56 w1->∀(x58:Dm) (w2:World),C1 w1 x58 w2->C w2)(c8: ∀(x56:Dm) (w1:World),C0 x56 w1->∀(x58:Dm) (w2:World),C1 w1 x58 w2->C (w2.alloc (.cells #[ii d.h.kind,.string d.h.type,ii d.h.n,.int .u64 d.h.f,.string d.h.s,ii d.h.obj,ii d.h.frm,ii d.h.len,ii d.h.cap,.slice x56.pa d.h.path.length x56.pc,.slice x56.ia d.k.len x56.ic,ii v.h.kind,.string v.h.type,ii v.h.n,.int .u64 v.h.f,.string v.h.s,ii v.h.obj,ii v.h.frm,ii v.h.len,ii v.h.cap,.slice x58.pa v.h.path.length x58.pc,.slice x58.ia v.k.len x58.ic,.int .u64 h,.pointer none,.pointer pt,.pointer none,.bool ow] 165)))
  (hN: ∀a' (x56:Dm) (w1:World) (x58:Dm) (w2:World),C0 x56 w1->C1 w1 x58 w2->Sl 97 a' ((8,pT w2.heap.size)::dropL (8::List.range' 55 12) l) df->N a' (w2.alloc (.cells #[ii d.h.kind,.string d.h.type,ii d.h.n,.int .u64 d.h.f,.string d.h.s,ii d.h.obj,ii d.h.frm,ii d.h.len,ii d.h.cap,.slice x56.pa d.h.path.length x56.pc,.slice x56.ia d.k.len x56.ic,ii v.h.kind,.string v.h.type,ii v.h.n,.int .u64 v.h.f,.string v.h.s,ii v.h.obj,ii v.h.frm,ii v.h.len,ii v.h.cap,.slice x58.pa v.h.path.length x58.pc,.slice x58.ia v.k.len x58.ic,.int .u64 h,.pointer none,.pointer pt,.pointer none,.bool ow] 165))):Rg N Q a w (r_kp 13):=
 regE (l0:=[(4,pT g4),(5,pT g5),(9,.int .u64 h),(0,pT gm),(11,.bool ow)]) 12 [0,2,4,5,6,7,8,9] [1,3,10,11] C [8] (8::List.range' 55 12) [.val (.agg (d.cs m)),.val (.agg (v.cs mv)),.val (.pointer pt)] [.ex (Dm) (fun x56=>.agg (d.cs x56)) C0,.exw (Dm) (fun x58=>.agg (v.cs x58)) C1,.raw,.raw] hs ⟨e4,e5,e9,e0,e11,trivial⟩ (aI (fun u hu=>(l0 u hu).run) (aI (fun u hu=>(l1 u hu).run) (aI (fun u hu=>(l2 u hu).run) (aI c3 (aI k4 (fun(x56:Dm) (w1:World) (hc0:C0 x56 w1)=>(aI (c5 x56 w1 hc0) (aI (k6 x56 w1 hc0) (fun(x58:Dm) (w2:World) (hc1:C1 w1 x58 w2)=>(aI (c7 x56 w1 hc0 x58 w2 hc1) (aI (c7 x56 w1 hc0 x58 w2 hc1) (aI (c8 x56 w1 hc0 x58 w2 hc1) (fun a'=>hN a' x56 w1 x58 w2 hc0 hc1))))))))))))) (by kernel_rfl)
theorem kp_r14{gm g8:Nat}{C0:World->Prop}(hs:Sl 97 a l df)(e0:Lk l 0 (pT gm))(e8:Lk l 8 (pT g8))(k0:Cl 100 #[pT gm,pT g8] w (.tuple #[]) C0)
  (hN: ∀a' (w1:World),C0 w1->Sl 97 a' (dropL [67,68,69] l) df->N a' w1):Rg N Q a w (r_kp 14):=
 reg (l0:=[(0,pT gm),(8,pT g8)]) [] [67,68,69] [.ret (.tuple #[]) C0] hs ⟨e0,e8,trivial⟩ (aI k0 (fun(w1:World) (hc0:C0 w1)=>(fun a'=>hN a' w1 hc0))) (by kernel_rfl)
theorem kp_r15n{gm:Nat}{b74:Bool}(hs:Sl 97 a l df)(e0:Lk l 0 (pT gm))(l0:Lp 161 (pF gm 10) (.pointer none) w)(h1: ∀w,(binOp .eql 161 (.pointer none) (.pointer none)).run Tryz.prog w=.ok (.bool b74) w)
  (hN: ∀a',Sl 97 a' ((74,.bool b74)::dropL [70,71,72,73,74] l) df->N a' w):Rg N Q a w (r_kp 15):=
 reg (l0:=[(0,pT gm)]) [74] [70,71,72,73,74] [.val (.pointer none),.bin (.bool b74)] hs ⟨e0,trivial⟩ (aI l0.run (aI (bin_run (x:=.tmp 73) (y:=.const (.pointer none)) (by kernel_rfl) (h1 w)) hN)) (by kernel_rfl)
theorem kp_r15e{gm gt:Nat}{b74:Bool}(hs:Sl 97 a l df)(e0:Lk l 0 (pT gm))(l0:Lp 161 (pF gm 10) (pT gt) w)(h1: ∀w,(binOp .eql 161 (pT gt) (.pointer none)).run Tryz.prog w=.ok (.bool b74) w)
  (hN: ∀a',Sl 97 a' ((74,.bool b74)::dropL [70,71,72,73,74] l) df->N a' w):Rg N Q a w (r_kp 15):=
 reg (l0:=[(0,pT gm)]) [74] [70,71,72,73,74] [.val (pT gt),.bin (.bool b74)] hs ⟨e0,trivial⟩ (aI l0.run (aI (bin_run (x:=.tmp 73) (y:=.const (.pointer none)) (by kernel_rfl) (h1 w)) hN)) (by kernel_rfl)
theorem kp_r16{gm g8:Nat}(hs:Sl 97 a l df)(e0:Lk l 0 (pT gm))(e8:Lk l 8 (pT g8))(s0:So 161 gm 9 (pT g8) w [pT g8])
  (hN: ∀a',Sl 97 a' (dropL [75,76,77,78] l) df->N a' (w.setCells gm 9 [pT g8])):Rg N Q a w (r_kp 16):=
 reg (l0:=[(0,pT gm),(8,pT g8)]) [] [75,76,77,78] [.sto] hs ⟨e0,e8,trivial⟩ (aI s0 hN) (by kernel_rfl)
theorem kp_r17{gm gt g8:Nat}(hs:Sl 97 a l df)(e0:Lk l 0 (pT gm))(e8:Lk l 8 (pT g8))(l0:Lp 161 (pF gm 10) (pT gt) w)(s1:So 161 gt 25 (pT g8) w [pT g8])
  (hN: ∀a',Sl 97 a' (dropL (List.range' 79 7) l) df->N a' (w.setCells gt 25 [pT g8])):Rg N Q a w (r_kp 17):=
 reg (l0:=[(0,pT gm),(8,pT g8)]) [] (List.range' 79 7) [.val (pT gt),.sto] hs ⟨e0,e8,trivial⟩ (aI l0.run (aI s1 hN)) (by kernel_rfl)
theorem kp_r18{gm g8:Nat}(hs:Sl 97 a l df)(e0:Lk l 0 (pT gm))(e8:Lk l 8 (pT g8))(s0:So 161 gm 10 (pT g8) w [pT g8])
  (hN: ∀a',Sl 97 a' (dropL [86,87,88,89] l) df->N a' (w.setCells gm 10 [pT g8])):Rg N Q a w (r_kp 18):=
 reg (l0:=[(0,pT gm),(8,pT g8)]) [] [86,87,88,89] [.sto] hs ⟨e0,e8,trivial⟩ (aI s0 hN) (by kernel_rfl)
theorem kp_r19{gm ny:Nat}(hs:Sl 97 a l df)(e0:Lk l 0 (pT gm))(l0:Lp 3 (pF gm 11) (ii (ny:Int)) w)(h1: -9223372036854775808<=(ny:Int)+1/\(ny:Int)+1<=9223372036854775807)(s2:So 3 gm 11 (ii ((ny:Int)+1)) w [ii ((ny:Int)+1)])
  (hN: ∀a',Sl 97 a' (dropL (List.range' 90 7) l) df->N a' (w.setCells gm 11 [ii ((ny:Int)+1)])):Rg N Q a w (r_kp 19):=
 reg (l0:=[(0,pT gm)]) [] (List.range' 90 7) [.val (ii (ny:Int)),.ari,.sto] hs ⟨e0,trivial⟩ (aI l0.run (aI h1 (aI s2 hN))) (by kernel_rfl)
theorem kp_r20(hs:Sl 97 a l df)
  (hN: ∀a',Sl 97 a' ((6,.nilIface)::dropL [6] l) df->N a' w):Rg N Q a w (r_kp 20):=
 reg (l0:=[]) [6] [6] [] hs trivial hN (by kernel_rfl)
noncomputable def r_kh (n:Nat):Code:=((Tryz.f100.body.bind (findR n)).getD .skip)
noncomputable def khBody:Code:=(.seq (r_kh 0) (r_kh 1))
theorem kh_body:Tryz.f100.body=some khBody:=by kernel_rfl
theorem kh_r0{ge gm gh nh ch:Nat}{h v14 b:Int}(hs:Sl 33 a l df)(e1:Lk l 1 (pT ge))(e0:Lk l 0 (pT gm))(l0:Lp 49 (pF ge 22) (.int .u64 h) w)(l1:Lp 167 (pF gm 8) (.slice (some ⟨gh,0,none⟩) nh ch) w)(i2: ∀w,(convert 3 49 (ii (nh:Int))).run Tryz.prog w=.ok (.int .u64 v14) w)(h3: ∀w,(binOp .rem 49 (.int .u64 h) (.int .u64 v14)).run Tryz.prog w=.ok (.int .u64 b) w)
  (hN: ∀a' mm,Sl 33 a' ((4,.int .u64 b)::dropL (List.range' 4 12) l) df->N a' (w.drewN mm)):Rg N Q a w (r_kh 0):=
 regQ (l0:=[(1,pT ge),(0,pT gm)]) [4] (List.range' 4 12) [.val (.int .u64 h),.val (.slice (some ⟨gh,0,none⟩) nh ch),.val (.int .u64 v14),.bin (.int .u64 b)] hs ⟨e1,e0,trivial⟩ (aI l0 (aI l1 (aI i2 (aI (fun w'=>bin_run (x:=.tmp 8) (y:=.tmp 14) (by kernel_rfl) (h3 w')) hN)))) (by kernel_rfl)
theorem kh_r1{C:World->Prop}{ge gm gh nh ch g27 o27:Nat}{b:Int}{p28:Option Addr}(hs:Sl 33 a l df)(e1:Lk l 1 (pT ge))(e0:Lk l 0 (pT gm))(e4:Lk l 4 (.int .u64 b))(l0: ∀u,C u->Lp 167 (pF gm 8) (.slice (some ⟨gh,0,none⟩) nh ch) u)(i1:Ix 167 (.slice (some ⟨gh,0,none⟩) nh ch) (.int .u64 b) (pF g27 o27))(l2: ∀u,C u->Lp 161 (pF g27 o27) (.pointer p28) u)(c3:C (w.drewN 1))(s4:So 161 ge 23 (.pointer p28) (w.drewN 1) [.pointer p28])(c5:C ((w.drewN 1).setCells ge 23 [.pointer p28]))(s6:So 161 g27 o27 (pT ge) ((w.drewN 1).setCells ge 23 [.pointer p28]) [pT ge])
  (hN: ∀a',Sl 33 a' (dropL (List.range' 16 17) l) df->N a' (((w.drewN 1).setCells ge 23 [.pointer p28]).setCells g27 o27 [pT ge])):Rg N Q a w (r_kh 1):=
 regE (l0:=[(1,pT ge),(0,pT gm),(4,.int .u64 b)]) 18 [0,1,2,3,4,5,6,7,8,9,10,11,12,13,14,15] [16,17] C [] (List.range' 16 17) [.val (.slice (some ⟨gh,0,none⟩) nh ch),.val (.slice (some ⟨gh,0,none⟩) nh ch),.val (pF g27 o27),.val (.pointer p28)] [.sto,.val (pF g27 o27),.sto] hs ⟨e1,e0,e4,trivial⟩ (aI (fun u hu=>(l0 u hu).run) (aI (fun u hu=>(l0 u hu).run) (aI i1 (aI (fun u hu=>(l2 u hu).run) (aI c3 (aI s4 (aI c5 (aI (i1 ((w.drewN 1).setCells ge 23 [.pointer p28])) (aI c5 (aI s6 hN)))))))))) (by kernel_rfl)
noncomputable def r_ke (n:Nat):Code:=((Tryz.f117.body.bind (findR n)).getD .skip)
noncomputable def keBody:Code:=(.seq (r_ke 0) (.seq (r_ke 1) .ret))
theorem ke_body:Tryz.f117.body=some keBody:=by kernel_rfl
theorem ke_r0{gm:Nat}(hs:Sl 4 a l df)(e0:Lk l 0 (pT gm))
  (hN: ∀a',Sl 4 a' ((1,pT w.heap.size)::(2,.nilFunc)::dropL [1,2] l) df->N a' (w.alloc (.cells #[pT gm] 117))):Rg N Q a w (r_ke 0):=
 reg (l0:=[(0,pT gm)]) [1,2] [1,2] [.raw] hs ⟨e0,trivial⟩ hN (by kernel_rfl)
theorem ke_r1{g1:Nat}(hs:Sl 4 a l df)(e1:Lk l 1 (pT g1))
  (hN: ∀a',Sl 4 a' ((2,.func (.func 130) #[] #[pT g1])::dropL [2,3] l) df->N a' w):Rg N Q a w (r_ke 1):=
 reg (l0:=[(1,pT g1)]) [2] [2,3] [] hs ⟨e1,trivial⟩ hN (by kernel_rfl)
noncomputable def r_kl (n:Nat):Code:=((Tryz.f166.body.bind (findR n)).getD .skip)
noncomputable def klBody:Code:=(.seq (r_kl 0) (.seq (r_kl 1) .ret))
theorem kl_body:Tryz.f166.body=some klBody:=by kernel_rfl
theorem kl_r0{gm:Nat}(hs:Sl 4 a l df)(e0:Lk l 0 (pT gm))
  (hN: ∀a',Sl 4 a' ((1,pT w.heap.size)::(2,.nilFunc)::dropL [1,2] l) df->N a' (w.alloc (.cells #[pT gm] 117))):Rg N Q a w (r_kl 0):=
 reg (l0:=[(0,pT gm)]) [1,2] [1,2] [.raw] hs ⟨e0,trivial⟩ hN (by kernel_rfl)
theorem kl_r1{g1:Nat}(hs:Sl 4 a l df)(e1:Lk l 1 (pT g1))
  (hN: ∀a',Sl 4 a' ((2,.func (.func 167) #[] #[pT g1])::dropL [2,3] l) df->N a' w):Rg N Q a w (r_kl 1):=
 reg (l0:=[(1,pT g1)]) [2] [2,3] [] hs ⟨e1,trivial⟩ hN (by kernel_rfl)
noncomputable def r_kr (n:Nat):Code:=((Tryz.f98.body.bind (findR n)).getD .skip)
noncomputable def krBody:Code:=(.seq (r_kr 0) (.seq (r_kr 1) (.seq (r_kr 2) (.seq (r_kr 3) (.block 0 (.rangeFunc (.tmp 18) #[19] (r_kr 4) (.block 1 (r_kr 5))))))))
theorem kr_body:Tryz.f98.body=some krBody:=by kernel_rfl
theorem kr_r0{gm:Nat}(hs:Sl 23 a l df)(e0:Lk l 0 (pT gm))
  (hN: ∀a',Sl 23 a' ((1,pT w.heap.size)::dropL [1] l) df->N a' (w.alloc (.cells #[pT gm] 117))):Rg N Q a w (r_kr 0):=
 reg (l0:=[(0,pT gm)]) [1] [1] [.raw] hs ⟨e0,trivial⟩ hN (by kernel_rfl)
theorem kr_r1{C:World->Prop}{g1 gm gh nh ch:Nat}{wm10:World}(hs:Sl 23 a l df)(e1:Lk l 1 (pT g1))(l0: ∀u,C u->Lp 117 (pT g1) (pT gm) u)(l1: ∀u,C u->Lp 167 (pF gm 8) (.slice (some ⟨gh,0,none⟩) nh ch) u)(h2: -9223372036854775808<=(2:Int)*(nh:Int)/\(2:Int)*(nh:Int)<=9223372036854775807)(c3:C (w.drewN 1))(m4:(Instr.makeSlice 167 (ii ((2:Int)*(nh:Int))) (ii ((2:Int)*(nh:Int)))).run Tryz.prog (w.drewN 1)=.ok (.slice (some ⟨(w.drewN 1).heap.size,0,none⟩) (2*nh) (2*nh)) wm10)(c5:C wm10)(s6:So 167 gm 8 (.slice (some ⟨(w.drewN 1).heap.size,0,none⟩) (2*nh) (2*nh)) wm10 [.slice (some ⟨(w.drewN 1).heap.size,0,none⟩) (2*nh) (2*nh)])
  (hN: ∀a',Sl 23 a' (dropL (List.range' 3 10) l) df->N a' (wm10.setCells gm 8 [.slice (some ⟨(w.drewN 1).heap.size,0,none⟩) (2*nh) (2*nh)])):Rg N Q a w (r_kr 1):=
 regE (l0:=[(1,pT g1)]) 8 [0,1,2,3,4,5,6] [7] C [] (List.range' 3 10) [.val (pT gm),.val (pT gm),.val (.slice (some ⟨gh,0,none⟩) nh ch),.ari] [.vw (.slice (some ⟨(w.drewN 1).heap.size,0,none⟩) (2*nh) (2*nh)) wm10,.sto] hs ⟨e1,trivial⟩ (aI (fun u hu=>(l0 u hu).run) (aI (fun u hu=>(l0 u hu).run) (aI (fun u hu=>(l1 u hu).run) (aI h2 (aI c3 (aI m4 (aI c5 (aI s6 hN)))))))) (by kernel_rfl)
theorem kr_r2{g1 gm n16 c16:Nat}{wc4:World}(hs:Sl 23 a l df)(e1:Lk l 1 (pT g1))(l0:Lp 117 (pT g1) (pT gm) w)(i1: ∀w,(Instr.sliceAt 166 (pT gm) none none none).run Tryz.prog w=.ok (.slice (some ⟨gm,0,none⟩) n16 c16) w)(m2: ∀ty,∃v,(Builtin.clear_ #[167] ty #[.slice (some ⟨gm,0,none⟩) n16 c16]).run Tryz.prog w=.ok v wc4)
  (hN: ∀a',Sl 23 a' (dropL [13,14,15,16] l) df->N a' wc4):Rg N Q a w (r_kr 2):=
 reg (l0:=[(1,pT g1)]) [] [13,14,15,16] [.val (pT gm),.val (.slice (some ⟨gm,0,none⟩) n16 c16),.wld wc4] hs ⟨e1,trivial⟩ (aI l0.run (aI (i1 w) (aI m2 (fun(_:Value)=>hN)))) (by kernel_rfl)
theorem kr_r3{g1 gm:Nat}{C0:Value->World->Prop}(hs:Sl 23 a l df)(e1:Lk l 1 (pT g1))(l0:Lp 117 (pT g1) (pT gm) w)(k1:Ca 117 #[pT gm] w fun e w'=> ∃x18,e=.returned x18/\C0 x18 w')
  (hN: ∀a' (x18:Value) (w1:World),C0 x18 w1->Sl 23 a' ((18,x18)::dropL [17,18] l) df->N a' w1):Rg N Q a w (r_kr 3):=
 reg (l0:=[(1,pT g1)]) [18] [17,18] [.val (pT gm),.con C0] hs ⟨e1,trivial⟩ (aI l0.run (aI k1 (fun(x18:Value) (w1:World) (hc0:C0 x18 w1)=>(fun a'=>hN a' x18 w1 hc0)))) (by kernel_rfl)
theorem kr_r4{ge:Nat}(hs:Sl 23 a l df)(e19:Lk l 19 (pT ge))
  (hN: ∀a',Sl 23 a' ((2,pT ge)::dropL [2] l) df->N a' w):Rg N Q a w (r_kr 4):=
 reg (l0:=[(19,pT ge)]) [2] [2] [] hs ⟨e19,trivial⟩ hN (by kernel_rfl)
theorem kr_r5{g1 gm ge:Nat}{C0:World->Prop}(hs:Sl 23 a l df)(e1:Lk l 1 (pT g1))(e2:Lk l 2 (pT ge))(l0:Lp 117 (pT g1) (pT gm) w)(k1:Cl 100 #[pT gm,pT ge] w (.tuple #[]) C0)
  (hN: ∀a' (w1:World),C0 w1->Sl 23 a' (dropL [20,21,22] l) df->N a' w1):Rg N Q a w (r_kr 5):=
 reg (l0:=[(1,pT g1),(2,pT ge)]) [] [20,21,22] [.val (pT gm),.ret (.tuple #[]) C0] hs ⟨e1,e2,trivial⟩ (aI l0.run (aI k1 (fun(w1:World) (hc0:C0 w1)=>(fun a'=>hN a' w1 hc0)))) (by kernel_rfl)
noncomputable def r_kq (n:Nat):Code:=((Tryz.f168.body.bind (findR n)).getD .skip)
noncomputable def kqBody:Code:=(.seq (r_kq 0) (.seq (r_kq 1) (.seq (.seq (r_kq 2) (.block 0 (.rangeFunc (.tmp 6) #[7] (r_kq 3) (.block 1 (r_kq 4))))) (.seq (r_kq 5) .ret))))
theorem kq_body:Tryz.f168.body=some kqBody:=by kernel_rfl
theorem kq_r0(hs:Sl 27 a l df)
  (hN: ∀a',Sl 27 a' ((2,.slice none 0 0)::dropL [2] l) df->N a' w):Rg N Q a w (r_kq 0):=
 reg (l0:=[]) [2] [2] [] hs trivial hN (by kernel_rfl)
theorem kq_r1(hs:Sl 27 a l df)
  (hN: ∀a',Sl 27 a' ((3,pT w.heap.size)::dropL [3] l) df->N a' (w.alloc (.cells #[.slice none 0 0] 264))):Rg N Q a w (r_kq 1):=
 reg (l0:=[]) [3] [3] [.raw] hs trivial hN (by kernel_rfl)
theorem kq_r2{gm:Nat}{C0:Value->World->Prop}(hs:Sl 27 a l df)(e0:Lk l 0 (pT gm))(k0:Ca 117 #[pT gm] w fun e w'=> ∃x6,e=.returned x6/\C0 x6 w')
  (hN: ∀a' (x6:Value) (w1:World),C0 x6 w1->Sl 27 a' ((6,x6)::dropL [5,6] l) df->N a' w1):Rg N Q a w (r_kq 2):=
 reg (l0:=[(0,pT gm)]) [6] [5,6] [.con C0] hs ⟨e0,trivial⟩ (aI k0 (fun(x6:Value) (w1:World) (hc0:C0 x6 w1)=>(fun a'=>hN a' x6 w1 hc0))) (by kernel_rfl)
theorem kq_r3{ge:Nat}(hs:Sl 27 a l df)(e7:Lk l 7 (pT ge))
  (hN: ∀a',Sl 27 a' ((4,pT ge)::dropL [4] l) df->N a' w):Rg N Q a w (r_kq 3):=
 reg (l0:=[(7,pT ge)]) [4] [4] [] hs ⟨e7,trivial⟩ hN (by kernel_rfl)
theorem kq_r4{C:World->Prop}{g3 ge:Nat}{l8:Value}{dk dv:Dt}{mk mv:Dm}{ow:Bool}{C0:Dm->World->Prop}{C1:World->Dm->World->Prop}{C2:World->S3->World->Prop}(hs:Sl 27 a l df)(e3:Lk l 3 (pT g3))(e4:Lk l 4 (pT ge))(l0: ∀u,C u->Lp 264 (pT g3) (l8) u)(l1: ∀u,C u->Lp 53 (pT ge) (.agg (dk.cs mk)) u)(l2: ∀u,C u->Lp 53 (pF ge 11) (.agg (dv.cs mv)) u)(l3: ∀u,C u->Lp 4 (pF ge 26) (.bool ow) u)(c4:C (w.drewN 1))(k5:Ca 97 #[.agg (dk.cs mk)] (w.drewN 1) fun e w'=> ∃x13:Dm,e=.returned (.agg (dk.cs x13))/\C0 x13 w')(c6: ∀(x13:Dm) (w1:World),C0 x13 w1->C w1)(k7: ∀(x13:Dm) (w1:World),C0 x13 w1->Ca 97 #[.agg (dv.cs mv)] w1 fun e w'=> ∃x18:Dm,e=.returned (.agg (dv.cs x18))/\C1 w1 x18 w')(c8: ∀(x13:Dm) (w1:World),C0 x13 w1->∀(x18:Dm) (w2:World),C1 w1 x18 w2->C w2)(c9: ∀(x13:Dm) (w1:World),C0 x13 w1->∀(x18:Dm) (w2:World),C1 w1 x18 w2->C (w2.alloc (.cells #[ii dk.h.kind,.string dk.h.type,ii dk.h.n,.int .u64 dk.h.f,.string dk.h.s,ii dk.h.obj,ii dk.h.frm,ii dk.h.len,ii dk.h.cap,.slice x13.pa dk.h.path.length x13.pc,.slice x13.ia dk.k.len x13.ic,ii dv.h.kind,.string dv.h.type,ii dv.h.n,.int .u64 dv.h.f,.string dv.h.s,ii dv.h.obj,ii dv.h.frm,ii dv.h.len,ii dv.h.cap,.slice x18.pa dv.h.path.length x18.pc,.slice x18.ia dv.k.len x18.ic,.bool ow] 267)))(k10: ∀(x13:Dm) (w1:World),C0 x13 w1->∀(x18:Dm) (w2:World),C1 w1 x18 w2->∀ty,∃v w',(Builtin.append_ #[264,264] ty #[l8,.slice (some ⟨w2.heap.size,0,none⟩) 1 1]).run Tryz.prog (w2.alloc (.cells #[ii dk.h.kind,.string dk.h.type,ii dk.h.n,.int .u64 dk.h.f,.string dk.h.s,ii dk.h.obj,ii dk.h.frm,ii dk.h.len,ii dk.h.cap,.slice x13.pa dk.h.path.length x13.pc,.slice x13.ia dk.k.len x13.ic,ii dv.h.kind,.string dv.h.type,ii dv.h.n,.int .u64 dv.h.f,.string dv.h.s,ii dv.h.obj,ii dv.h.frm,ii dv.h.len,ii dv.h.cap,.slice x18.pa dv.h.path.length x18.pc,.slice x18.ia dv.k.len x18.ic,.bool ow] 267))=.ok v.v w'/\C2 (w2.alloc (.cells #[ii dk.h.kind,.string dk.h.type,ii dk.h.n,.int .u64 dk.h.f,.string dk.h.s,ii dk.h.obj,ii dk.h.frm,ii dk.h.len,ii dk.h.cap,.slice x13.pa dk.h.path.length x13.pc,.slice x13.ia dk.k.len x13.ic,ii dv.h.kind,.string dv.h.type,ii dv.h.n,.int .u64 dv.h.f,.string dv.h.s,ii dv.h.obj,ii dv.h.frm,ii dv.h.len,ii dv.h.cap,.slice x18.pa dv.h.path.length x18.pc,.slice x18.ia dv.k.len x18.ic,.bool ow] 267)) v w')(c11: ∀(x13:Dm) (w1:World),C0 x13 w1->∀(x18:Dm) (w2:World),C1 w1 x18 w2->∀(x25:S3) (w3:World),C2 (w2.alloc (.cells #[ii dk.h.kind,.string dk.h.type,ii dk.h.n,.int .u64 dk.h.f,.string dk.h.s,ii dk.h.obj,ii dk.h.frm,ii dk.h.len,ii dk.h.cap,.slice x13.pa dk.h.path.length x13.pc,.slice x13.ia dk.k.len x13.ic,ii dv.h.kind,.string dv.h.type,ii dv.h.n,.int .u64 dv.h.f,.string dv.h.s,ii dv.h.obj,ii dv.h.frm,ii dv.h.len,ii dv.h.cap,.slice x18.pa dv.h.path.length x18.pc,.slice x18.ia dv.k.len x18.ic,.bool ow] 267)) x25 w3->C w3)(s12: ∀(x13:Dm) (w1:World),C0 x13 w1->∀(x18:Dm) (w2:World),C1 w1 x18 w2->∀(x25:S3) (w3:World),C2 (w2.alloc (.cells #[ii dk.h.kind,.string dk.h.type,ii dk.h.n,.int .u64 dk.h.f,.string dk.h.s,ii dk.h.obj,ii dk.h.frm,ii dk.h.len,ii dk.h.cap,.slice x13.pa dk.h.path.length x13.pc,.slice x13.ia dk.k.len x13.ic,ii dv.h.kind,.string dv.h.type,ii dv.h.n,.int .u64 dv.h.f,.string dv.h.s,ii dv.h.obj,ii dv.h.frm,ii dv.h.len,ii dv.h.cap,.slice x18.pa dv.h.path.length x18.pc,.slice x18.ia dv.k.len x18.ic,.bool ow] 267)) x25 w3->So 264 g3 0 (.slice x25.d x25.n x25.c) w3 [.slice x25.d x25.n x25.c])
  (hN: ∀a' (x13:Dm) (w1:World) (x18:Dm) (w2:World) (x25:S3) (w3:World),C0 x13 w1->C1 w1 x18 w2->C2 (w2.alloc (.cells #[ii dk.h.kind,.string dk.h.type,ii dk.h.n,.int .u64 dk.h.f,.string dk.h.s,ii dk.h.obj,ii dk.h.frm,ii dk.h.len,ii dk.h.cap,.slice x13.pa dk.h.path.length x13.pc,.slice x13.ia dk.k.len x13.ic,ii dv.h.kind,.string dv.h.type,ii dv.h.n,.int .u64 dv.h.f,.string dv.h.s,ii dv.h.obj,ii dv.h.frm,ii dv.h.len,ii dv.h.cap,.slice x18.pa dv.h.path.length x18.pc,.slice x18.ia dv.k.len x18.ic,.bool ow] 267)) x25 w3->Sl 27 a' (dropL (List.range' 8 18) l) df->N a' (w3.setCells g3 0 [.slice x25.d x25.n x25.c])):Rg N Q a w (r_kq 4):=
 regE (l0:=[(3,pT g3),(4,pT ge)]) 18 [0,1,2,3,4,6,7,8,9,11,12,13,14] [5,10,15,16,17] C [] (List.range' 8 18) [.val (l8),.val (.agg (dk.cs mk)),.val (.agg (dv.cs mv)),.val (.bool ow)] [.ex (Dm) (fun x13=>.agg (dk.cs x13)) C0,.exw (Dm) (fun x18=>.agg (dv.cs x18)) C1,.raw,.raw,.apxw S3 S3.v C2,.sto] hs ⟨e3,e4,trivial⟩ (aI (fun u hu=>(l0 u hu).run) (aI (fun u hu=>(l1 u hu).run) (aI (fun u hu=>(l2 u hu).run) (aI (fun u hu=>(l3 u hu).run) (aI c4 (aI k5 (fun(x13:Dm) (w1:World) (hc0:C0 x13 w1)=>(aI (c6 x13 w1 hc0) (aI (k7 x13 w1 hc0) (fun(x18:Dm) (w2:World) (hc1:C1 w1 x18 w2)=>(aI (c8 x13 w1 hc0 x18 w2 hc1) (aI (c8 x13 w1 hc0 x18 w2 hc1) (aI (c9 x13 w1 hc0 x18 w2 hc1) (aI (k10 x13 w1 hc0 x18 w2 hc1) (fun(x25:S3) (w3:World) (hc2:C2 (w2.alloc (.cells #[ii dk.h.kind,.string dk.h.type,ii dk.h.n,.int .u64 dk.h.f,.string dk.h.s,ii dk.h.obj,ii dk.h.frm,ii dk.h.len,ii dk.h.cap,.slice x13.pa dk.h.path.length x13.pc,.slice x13.ia dk.k.len x13.ic,ii dv.h.kind,.string dv.h.type,ii dv.h.n,.int .u64 dv.h.f,.string dv.h.s,ii dv.h.obj,ii dv.h.frm,ii dv.h.len,ii dv.h.cap,.slice x18.pa dv.h.path.length x18.pc,.slice x18.ia dv.k.len x18.ic,.bool ow] 267)) x25 w3)=>(aI (c11 x13 w1 hc0 x18 w2 hc1 x25 w3 hc2) (aI (s12 x13 w1 hc0 x18 w2 hc1 x25 w3 hc2) (fun a'=>hN a' x13 w1 x18 w2 x25 w3 hc0 hc1 hc2)))))))))))))))))) (by kernel_rfl)
theorem kq_r5{g3:Nat}{l26:Value}(hs:Sl 27 a l df)(e3:Lk l 3 (pT g3))(l0:Lp 264 (pT g3) (l26) w)
  (hN: ∀a',Sl 27 a' ((2,l26)::dropL [2,26] l) df->N a' w):Rg N Q a w (r_kq 5):=
 reg (l0:=[(3,pT g3)]) [2] [2,26] [.val (l26)] hs ⟨e3,trivial⟩ (aI l0.run hN) (by kernel_rfl)
end Go.Proofs.YtbjegfpfmnleeaaGreatDoor
