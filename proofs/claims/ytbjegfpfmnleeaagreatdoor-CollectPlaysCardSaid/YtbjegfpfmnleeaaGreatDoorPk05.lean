/-
   Written by an AI agent.
-/
import Derived.Test.YtbjegfpfmnleeaaGreatDoorPk04
namespace Go.Proofs.YtbjegfpfmnleeaaGreatDoor
open Go.RowKit Go.Sort
set_option maxRecDepth 100000
variable {a:Act} {w:World} {df:List Deferred} {N:Act->World->Prop} {Q:Exit->Act->World->Prop} {l:List (Nat×Value)}
variable {C:World->Prop} {C0:Value->World->Prop} {C1:World->Dm->World->Prop} {T7:TypeId} {b h:Int} {b31 b41 b74 b8 ow:Bool} {c0 c3 ch g0 g1 g10 g3 g4 g5 g8 ge gh gm gt ic il j n0 n3 nh ny pc pl:Nat} {d v:Dt} {er7 v7:Value} {ia pa:Option Addr} {m mv:Dm}
noncomputable def Ax4 (n:Nat):Code:=((Tryz.f91.body.bind (D4 n)).getD .skip)
noncomputable def Ax5:Code:=(.seq (Ax4 0) (.seq (Ax4 1) (.seq (Ax4 2) (.seq (Ax4 3) .ret))))
theorem Bn2:Tryz.f91.body=some Ax5:=by kernel_rfl
theorem Ee2(hs:Sl 12 a l df)
  (hN: ∀a',Sl 12 a' ((0,.pointer none)::A6 [0] l) df->N a' w):Rg N Q a w (Ax4 0):=
 Zg [0] hs hN
theorem Ee3(hs:Sl 12 a l df)
  (hN: ∀a',Sl 12 a' ((1,pT w.heap.size)::A6 [1,2,3] l) df->N a' (w.alloc (.cells #[.pointer none,.pointer none,.pointer none,.pointer none,.pointer none,.pointer none,.pointer none,.pointer none,.slice none 0 0,.pointer none,.pointer none,ii 0] 169))):Rg N Q a w (Ax4 1):=
 reg [1] [1,2,3] [.raw,.raw] hs Zz hN Zk
theorem Ee4{gs ns cs:Nat}(hs:Sl 12 a l df)(e1:Lk l 1 (pT g1))(i0: ∀w,(Instr.sliceAt 166 (pT g1) none none none).run Tryz.prog w=.ok (.slice (some ⟨gs,0,none⟩) ns cs) w)(s1:So 167 g1 8 (.slice (some ⟨gs,0,none⟩) ns cs) w [.slice (some ⟨gs,0,none⟩) ns cs])
  (hN: ∀a',Sl 12 a' (A6 (List.range' 4 7) l) df->N a' (w.setCells g1 8 [.slice (some ⟨gs,0,none⟩) ns cs])):Rg N Q a w (Ax4 2):=
 reg [] (List.range' 4 7) [.val (.slice (some ⟨gs,0,none⟩) ns cs),.sto] hs (Zc e1 Zz) (aI (i0 w) (aI s1 hN)) Zk
theorem Ee5(hs:Sl 12 a l df)(e1:Lk l 1 (pT g1))
  (hN: ∀a',Sl 12 a' ((0,pT g1)::A6 [0,11] l) df->N a' w):Rg N Q a w (Ax4 3):=
 reg [0] [0,11] [] hs (Zc e1 Zz) hN Zk
noncomputable def V3 (n:Nat):Code:=((Tryz.f97.body.bind (D4 n)).getD .skip)
noncomputable def Ee6:Code:=(.seq (V3 4) (.seq (.cond (.tmp 17) .skip (.exit 0)) (.seq (.block 1 (.seq (V3 5) (V3 6))) (V3 7))))
noncomputable def Ax6:Code:=(.seq (V3 0) (.seq (.seq (V3 1) (.cond (.tmp 8) (.seq (V3 2) (.seq (.seq (V3 3) (.block 0 (.loop Ee6))) (V3 8))) .skip)) (.seq (.seq (V3 9) (.cond (.tmp 32) (V3 10) .skip)) (.seq (V3 11) .ret))))
theorem Bn3:Tryz.f97.body=some Ax6:=by kernel_rfl
theorem Ee7(hs:Sl 40 a l df)(e0:Lk l 0 (.agg (d.cs m)))
  (hN: ∀a',Sl 40 a' ((1,pT w.heap.size)::(2,pT ((w.alloc (.cells (d.cs m) 53)).heap.size))::A6 [1,2] l) df->N a' ((w.alloc (.cells (d.cs m) 53)).alloc (.cells zA 53))):Rg N Q a w (V3 0):=
 reg [1,2] [1,2] [.raw,.raw] hs (Zc e0 Zz) hN Zk
theorem Cr8(hs:Sl 40 a l df)(e1:Lk l 1 (pT g1))(l0:Lp 23 (pF g1 10) (.slice ia il ic) w)(h1: ∀w,(binOp .neq 23 (.slice ia il ic) (.slice none 0 0)).run Tryz.prog w=.ok (.bool b8) w)
  (hN: ∀a',Sl 40 a' ((8,.bool b8)::A6 [6,7,8] l) df->N a' w):Rg N Q a w (V3 1):=
 reg [8] [6,7,8] [.val (.slice ia il ic),.bin (.bool b8)] hs (Zc e1 Zz) (aI l0.run (aI (G4 (x:=.tmp 7) (y:=.const (.slice none 0 0)) Zk (h1 w)) hN)) Zk
theorem Ee8{n12:Nat}{wm12:World}(hs:Sl 40 a l df)(e1:Lk l 1 (pT g1))(l0:Lp 23 (pF g1 10) (.slice ia il ic) w)(m1:(Instr.makeSlice 23 (ii (il:Int)) (ii (il:Int))).run Tryz.prog w=.ok (.slice (some ⟨w.heap.size,0,none⟩) n12 n12) wm12)
  (hN: ∀a',Sl 40 a' ((3,.slice (some ⟨w.heap.size,0,none⟩) n12 n12)::A6 [3,9,10,11,12] l) df->N a' wm12):Rg N Q a w (V3 2):=
 reg [3] [3,9,10,11,12] [.val (.slice ia il ic),.vw (.slice (some ⟨w.heap.size,0,none⟩) n12 n12) wm12] hs (Zc e1 Zz) (aI l0.run (aI m1 hN)) Zk
theorem Ee9(hs:Sl 40 a l df)(e1:Lk l 1 (pT g1))(l0:Lp 23 (pF g1 10) (.slice ia il ic) w)
  (hN: ∀a',Sl 40 a' ((14,.slice ia il ic)::(15,ii (il:Int))::(16,ii 0)::A6 [13,14,15,16] l) df->N a' w):Rg N Q a w (V3 3):=
 reg [14,15,16] [13,14,15,16] [.val (.slice ia il ic)] hs (Zc e1 Zz) (aI l0.run hN) Zk
theorem Cr9{n15:Nat}{b17:Bool}(hs:Sl 40 a l df)(e16:Lk l 16 (ii (j:Int)))(e15:Lk l 15 (ii (n15:Int)))(h0:decide ((j:Int)<(n15:Int))=b17)
  (hN: ∀a',Sl 40 a' ((17,.bool b17)::A6 [17] l) df->N a' w):Rg N Q a w (V3 4):=
 reg [17] [17] [.bit b17] hs (Zc e16<|Zc e15 Zz) (aI h0 hN) Zk
theorem Ef0{n14 c14 g19 o19:Nat}{d14:Option Addr}{d20:Dt}{m20:Dm}(hs:Sl 40 a l df)(e16:Lk l 16 (ii (j:Int)))(e14:Lk l 14 (.slice d14 n14 c14))(i0:Ix 23 (.slice d14 n14 c14) (ii (j:Int)) (pF g19 o19))(l1:Lp 53 (pF g19 o19) (.agg (d20.cs m20)) w)(s2:So 53 w.heap.size 0 (.agg (d20.cs m20)) (w.alloc (.cells zA 53)) (d20.cs m20).toList)
  (hN: ∀a',Sl 40 a' ((4,ii (j:Int))::(5,pT w.heap.size)::A6 [4,5,18,19,20] l) df->N a' ((w.alloc (.cells zA 53)).setCells w.heap.size 0 (d20.cs m20).toList)):Rg N Q a w (V3 5):=
 reg [4,5] [4,5,18,19,20] [.val (pF g19 o19),.val (.agg (d20.cs m20)),.raw,.sto] hs (Zc e16<|Zc e14 Zz) (aI (i0 w) (aI l1.run (aI s2 hN))) Zk
theorem Ef1{j4 g25 o25:Nat}{d23:Dt}{m23:Dm}{C0:Dm->World->Prop}(hs:Sl 40 a l df)(e3:Lk l 3 (.slice (some ⟨g3,0,none⟩) n3 c3))(e4:Lk l 4 (ii (j4:Int)))(e5:Lk l 5 (pT g5))(l0:Lp 53 (pT g5) (.agg (d23.cs m23)) w)(k1:Ca 97 #[.agg (d23.cs m23)] w fun e w'=> ∃x24:Dm,e=.returned (.agg (d23.cs x24))/\C0 x24 w')(i2:Ix 23 (.slice (some ⟨g3,0,none⟩) n3 c3) (ii (j4:Int)) (pF g25 o25))(s3: ∀(x24:Dm) (w1:World),C0 x24 w1->So 53 g25 o25 (.agg (d23.cs x24)) w1 (d23.cs x24).toList)
  (hN: ∀a' (x24:Dm) (w1:World),C0 x24 w1->Sl 40 a' (A6 [21,22,23,24,25] l) df->N a' (w1.setCells g25 o25 (d23.cs x24).toList)):Rg N Q a w (V3 6):=
 reg [] [21,22,23,24,25] [.val (.agg (d23.cs m23)),.ex (Dm) (fun x24=>.agg (d23.cs x24)) C0,.val (pF g25 o25),.sto] hs (Zc e3<|Zc e4<|Zc e5 Zz) (aI l0.run (aI k1 (fun(x24:Dm) (w1:World) (hc0:C0 x24 w1)=>(aI (i2 w1) (aI (s3 x24 w1 hc0) (fun a'=>hN a' x24 w1 hc0)))))) Zk
theorem Ef2(hs:Sl 40 a l df)(e16:Lk l 16 (ii (j:Int)))(h0: -9223372036854775808<=(j:Int)+1/\(j:Int)+1<=9223372036854775807)
  (hN: ∀a',Sl 40 a' ((16,ii ((j:Int)+1))::A6 [16,26] l) df->N a' w):Rg N Q a w (V3 7):=
 reg [16] [16,26] [.ari] hs (Zc e16 Zz) (aI h0 hN) Zk
theorem Ef3(hs:Sl 40 a l df)(e3:Lk l 3 (.slice (some ⟨g3,0,none⟩) n3 c3))(e1:Lk l 1 (pT g1))(s0:So 23 g1 10 (.slice (some ⟨g3,0,none⟩) n3 c3) w [.slice (some ⟨g3,0,none⟩) n3 c3])
  (hN: ∀a',Sl 40 a' (A6 [27,28] l) df->N a' (w.setCells g1 10 [.slice (some ⟨g3,0,none⟩) n3 c3])):Rg N Q a w (V3 8):=
 reg [] [27,28] [.sto] hs (Zc e3<|Zc e1 Zz) (aI s0 hN) Zk
theorem Cs0{b32:Bool}(hs:Sl 40 a l df)(e1:Lk l 1 (pT g1))(l0:Lp 24 (pF g1 (5+4)) (.slice pa pl pc) w)(h1: ∀w,(binOp .neq 24 (.slice pa pl pc) (.slice none 0 0)).run Tryz.prog w=.ok (.bool b32) w)
  (hN: ∀a',Sl 40 a' ((32,.bool b32)::A6 [29,30,31,32] l) df->N a' w):Rg N Q a w (V3 9):=
 reg [32] [29,30,31,32] [.val (.slice pa pl pc),.bin (.bool b32)] hs (Zc e1 Zz) (aI l0.run (aI (G4 (x:=.tmp 31) (y:=.const (.slice none 0 0)) Zk (h1 w)) hN)) Zk
theorem Cs1{C0:S3->World->Prop}(hs:Sl 40 a l df)(e1:Lk l 1 (pT g1))(l0:Lp 24 (pF g1 (5+4)) (.slice pa pl pc) w)(k1: ∀ty,∃v w',(Builtin.append_ #[24,24] ty #[.slice none 0 0,.slice pa pl pc]).run Tryz.prog w=.ok v.v w'/\C0 v w')(s2: ∀(x36:S3) (w1:World),C0 x36 w1->So 24 g1 (5+4) (.slice x36.d x36.n x36.c) w1 [.slice x36.d x36.n x36.c])
  (hN: ∀a' (x36:S3) (w1:World),C0 x36 w1->Sl 40 a' (A6 [33,34,35,36,37,38] l) df->N a' (w1.setCells g1 (5+4) [.slice x36.d x36.n x36.c])):Rg N Q a w (V3 10):=
 reg [] [33,34,35,36,37,38] [.val (.slice pa pl pc),.apx S3 S3.v C0,.sto] hs (Zc e1 Zz) (aI l0.run (aI k1 (fun(x36:S3) (w1:World) (hc0:C0 x36 w1)=>(aI (s2 x36 w1 hc0) (fun a'=>hN a' x36 w1 hc0))))) Zk
theorem Cs2{g2:Nat}{d39:Dt}{m39:Dm}(hs:Sl 40 a l df)(e1:Lk l 1 (pT g1))(e2:Lk l 2 (pT g2))(l0:Lp 53 (pT g1) (.agg (d39.cs m39)) w)(s1:So 53 g2 0 (.agg (d39.cs m39)) w (d39.cs m39).toList)
  (hN: ∀a',Sl 40 a' (A6 [39] l) df->N a' (w.setCells g2 0 (d39.cs m39).toList)):Rg N Q a w (V3 11):=
 reg [] [39] [.val (.agg (d39.cs m39)),.sto] hs (Zc e1<|Zc e2 Zz) (aI l0.run (aI s1 hN)) Zk
noncomputable def Ii (n:Nat):Code:=((Tryz.f95.body.bind (D4 n)).getD .skip)
noncomputable def Et0:Code:=(.seq (Ii 2) (.seq (.cond (.tmp 8) .skip (.exit 0)) (.seq (.block 1 (.seq (Ii 3) (.seq (Ii 4) (.cond (.tmp 13) (.seq (Ii 5) .ret) .skip)))) (Ii 6))))
noncomputable def Ax7:Code:=(.seq (Ii 0) (.seq (.seq (Ii 1) (.block 0 (.loop Et0))) (.seq (Ii 7) .ret)))
theorem Bn4:Tryz.f95.body=some Ax7:=by kernel_rfl
theorem Ef4(hs:Sl 18 a l df)
  (hN: ∀a',Sl 18 a' ((2,.nilIface)::A6 [2] l) df->N a' w):Rg N Q a w (Ii 0):=
 Zg [2] hs hN
theorem Ef5(hs:Sl 18 a l df)(e0:Lk l 0 (.slice (some ⟨g0,0,none⟩) n0 c0))
  (hN: ∀a',Sl 18 a' ((5,.slice (some ⟨g0,0,none⟩) n0 c0)::(6,ii (n0:Int))::(7,ii 0)::A6 [5,6,7] l) df->N a' w):Rg N Q a w (Ii 1):=
 reg [5,6,7] [5,6,7] [] hs (Zc e0 Zz) hN Zk
theorem Cs3(hs:Sl 18 a l df)(e7:Lk l 7 (ii (j:Int)))(e6:Lk l 6 (ii (n0:Int)))(h0:decide ((j:Int)<(n0:Int))=b8)
  (hN: ∀a',Sl 18 a' ((8,.bool b8)::A6 [8] l) df->N a' w):Rg N Q a w (Ii 2):=
 reg [8] [8] [.bit b8] hs (Zc e7<|Zc e6 Zz) (aI h0 hN) Zk
theorem Ef6{g9 o9:Nat}(hs:Sl 18 a l df)(e5:Lk l 5 (.slice (some ⟨g0,0,none⟩) n0 c0))(e7:Lk l 7 (ii (j:Int)))(i0:Ix 23 (.slice (some ⟨g0,0,none⟩) n0 c0) (ii (j:Int)) (pF g9 o9))(l1:Lp 53 (pF g9 o9) (.agg (d.cs m)) w)(s2:So 53 w.heap.size 0 (.agg (d.cs m)) (w.alloc (.cells zA 53)) (d.cs m).toList)
  (hN: ∀a',Sl 18 a' ((4,pT w.heap.size)::A6 [4,9,10] l) df->N a' ((w.alloc (.cells zA 53)).setCells w.heap.size 0 (d.cs m).toList)):Rg N Q a w (Ii 3):=
 reg [4] [4,9,10] [.val (pF g9 o9),.val (.agg (d.cs m)),.raw,.sto] hs (Zc e5<|Zc e7 Zz) (aI (i0 w) (aI l1.run (aI s2 hN))) Zk
theorem Ef7{b12:Bool}{C0:World->Prop}(hs:Sl 18 a l df)(e4:Lk l 4 (pT g4))(l0:Lp 53 (pT g4) (.agg (d.cs m)) w)(k1:Cl 65 #[.agg (d.cs m)] w (.bool b12) C0)
  (hN: ∀a' (w1:World),C0 w1->Sl 18 a' ((13,.bool (!b12))::A6 [11,12,13] l) df->N a' w1):Rg N Q a w (Ii 4):=
 reg [13] [11,12,13] [.val (.agg (d.cs m)),.ret (.bool b12) C0] hs (Zc e4 Zz) (aI l0.run (aI k1 (fun(w1:World) (hc0:C0 w1)a'=>hN a' w1 hc0))) Zk
theorem Ef8(hs:Sl 18 a l df)
  (hN: ∀a',Sl 18 a' ((2,.iface 156 (pT w.heap.size))::A6 [2,14,15,16] l) df->N a' (w.alloc (.cells #[ii 1,ii 0,.string (⟨#[]⟩)] 158))):Rg N Q a w (Ii 5):=
 reg [2] [2,14,15,16] [.raw,.raw,.raw] hs Zz hN Zk
theorem Ef9(hs:Sl 18 a l df)(e7:Lk l 7 (ii (j:Int)))(h0: -9223372036854775808<=(j:Int)+1/\(j:Int)+1<=9223372036854775807)
  (hN: ∀a',Sl 18 a' ((7,ii ((j:Int)+1))::A6 [7,17] l) df->N a' w):Rg N Q a w (Ii 6):=
 reg [7] [7,17] [.ari] hs (Zc e7 Zz) (aI h0 hN) Zk
theorem Eg0(hs:Sl 18 a l df)
  (hN: ∀a',Sl 18 a' ((2,.nilIface)::A6 [2] l) df->N a' w):Rg N Q a w (Ii 7):=
 Zg [2] hs hN
noncomputable def R4 (n:Nat):Code:=((Tryz.f96.body.bind (D4 n)).getD .skip)
noncomputable def Et1:Code:=(.seq (.seq (R4 8) (.cond (.tmp 41) .skip (.exit 0))) (.seq (.block 1 (.seq (R4 10) (.cond (.tmp 51) (.seq (R4 11) (.seq (R4 12) (.cond (.tmp 65) (.seq (R4 13) .ret) .skip))) .skip))) (R4 9)))
noncomputable def Ax8:Code:=(.seq (R4 0) (.seq (.seq (R4 1) (.seq (R4 2) (.cond (.tmp 16) (.seq (R4 3) .ret) .skip))) (.seq (R4 4) (.seq (.seq (R4 5) (.cond (.tmp 24) (.seq (R4 6) .ret) .skip)) (.seq (.seq (R4 7) (.block 0 (.loop Et1))) (.seq (R4 14) .ret))))))
theorem Bn5:Tryz.f96.body=some Ax8:=by kernel_rfl
theorem Eg1(hs:Sl 69 a l df)(e1:Lk l 1 (.agg (d.cs m)))
  (hN: ∀a',Sl 69 a' ((3,pT w.heap.size)::(4,.pointer none)::(5,.int .u64 0)::(6,.nilIface)::A6 [3,4,5,6] l) df->N a' (w.alloc (.cells (d.cs m) 53))):Rg N Q a w (R4 0):=
 reg [3,4,5,6] [3,4,5,6] [.raw] hs (Zc e1 Zz) hN Zk
theorem Eg2(hs:Sl 69 a l df)(e3:Lk l 3 (pT g3))(l0:Lp 53 (pT g3) (.agg (d.cs m)) w)(k1:Ca 115 #[.agg (d.cs m)] w fun e w'=> ∃x14,e=.returned x14/\C0 x14 w')
  (hN: ∀a' (x14:Value) (w1:World),C0 x14 w1->Sl 69 a' ((7,x14)::A6 [7,13,14] l) df->N a' w1):Rg N Q a w (R4 1):=
 reg [7] [7,13,14] [.val (.agg (d.cs m)),.con C0] hs (Zc e3 Zz) (aI l0.run (aI k1 (fun(x14:Value) (w1:World) (hc0:C0 x14 w1)a'=>hN a' x14 w1 hc0))) Zk
theorem Cs4(hs:Sl 69 a l df)(e7:Lk l 7 (.nilIface))
  (hN: ∀a',Sl 69 a' ((16,.bool false)::A6 [15,16] l) df->N a' w):Rg N Q a w (R4 2):=
 reg [16] [15,16] [.raw] hs (Zc e7 Zz) hN Zk
theorem Cs5(hs:Sl 69 a l df)(e7:Lk l 7 (.iface T7 v7))
  (hN: ∀a',Sl 69 a' ((16,.bool true)::A6 [15,16] l) df->N a' w):Rg N Q a w (R4 2):=
 reg [16] [15,16] [.raw] hs (Zc e7 Zz) hN Zk
theorem Eg3(hs:Sl 69 a l df)(e7:Lk l 7 (er7))
  (hN: ∀a',Sl 69 a' ((4,.pointer none)::(5,.int .u64 0)::(6,er7)::A6 [4,5,6,17] l) df->N a' w):Rg N Q a w (R4 3):=
 reg [4,5,6] [4,5,6,17] [] hs (Zc e7 Zz) hN Zk
theorem Eg4(hs:Sl 69 a l df)(e3:Lk l 3 (pT g3))(l0:Lp 53 (pT g3) (.agg (d.cs m)) w)(k1:Ca 116 #[.agg (d.cs m)] w fun e w'=> ∃x20:Value,e=.returned (.tuple #[.int .u64 h,x20])/\C0 x20 w')
  (hN: ∀a' (x20:Value) (w1:World),C0 x20 w1->Sl 69 a' ((8,.int .u64 h)::(9,x20)::A6 [8,9,18,19,20,21,22] l) df->N a' w1):Rg N Q a w (R4 4):=
 reg [8,9] [8,9,18,19,20,21,22] [.val (.agg (d.cs m)),.ex (Value) (fun x20=>.tuple #[.int .u64 h,x20]) C0] hs (Zc e3 Zz) (aI l0.run (aI k1 (fun(x20:Value) (w1:World) (hc0:C0 x20 w1)a'=>hN a' x20 w1 hc0))) Zk
theorem Cs6(hs:Sl 69 a l df)(e9:Lk l 9 (.nilIface))
  (hN: ∀a',Sl 69 a' ((24,.bool false)::A6 [23,24] l) df->N a' w):Rg N Q a w (R4 5):=
 reg [24] [23,24] [.raw] hs (Zc e9 Zz) hN Zk
theorem Eg5{g38 o38:Nat}{v36 v37:Int}{p39:Option Addr}(hs:Sl 69 a l df)(e0:Lk l 0 (pT gm))(e8:Lk l 8 (.int .u64 h))(l0:Lp 167 (pF gm 8) (.slice (some ⟨gh,0,none⟩) nh ch) w)(i1: ∀w,(convert 3 49 (ii (nh:Int))).run Tryz.prog w=.ok (.int .u64 v36) w)(h2: ∀w,(binOp .rem 49 (.int .u64 h) (.int .u64 v36)).run Tryz.prog w=.ok (.int .u64 v37) w)(i3:Ix 167 (.slice (some ⟨gh,0,none⟩) nh ch) (.int .u64 v37) (pF g38 o38))(l4:Lp 161 (pF g38 o38) (.pointer p39) w)
  (hN: ∀a' mm,Sl 69 a' ((10,.pointer p39)::A6 (10::List.range' 26 14) l) df->N a' (w.drewN mm)):Rg N Q a w (R4 7):=
 Ao [10] (10::List.range' 26 14) [.val (.slice (some ⟨gh,0,none⟩) nh ch),.val (.slice (some ⟨gh,0,none⟩) nh ch),.val (.int .u64 v36),.bin (.int .u64 v37),.val (pF g38 o38),.val (.pointer p39)] hs (Zc e0<|Zc e8 Zz) (aI l0 (aI l0 (aI i1 (aI (fun w'=>G4 (x:=.tmp 30) (y:=.tmp 36) Zk (h2 w')) (aI i3 (aI l4 hN)))))) Zk
theorem Cs7(hs:Sl 69 a l df)(e10:Lk l 10 (.pointer none))(h0: ∀w,(binOp .neq 161 (.pointer none) (.pointer none)).run Tryz.prog w=.ok (.bool b41) w)
  (hN: ∀a',Sl 69 a' ((41,.bool b41)::A6 [40,41] l) df->N a' w):Rg N Q a w (R4 8):=
 reg [41] [40,41] [.bin (.bool b41)] hs (Zc e10 Zz) (aI (G4 (x:=.tmp 40) (y:=.const (.pointer none)) Zk (h0 w)) hN) Zk
theorem Cs8(hs:Sl 69 a l df)(e10:Lk l 10 (pT g10))(h0: ∀w,(binOp .neq 161 (pT g10) (.pointer none)).run Tryz.prog w=.ok (.bool b41) w)
  (hN: ∀a',Sl 69 a' ((41,.bool b41)::A6 [40,41] l) df->N a' w):Rg N Q a w (R4 8):=
 reg [41] [40,41] [.bin (.bool b41)] hs (Zc e10 Zz) (aI (G4 (x:=.tmp 40) (y:=.const (.pointer none)) Zk (h0 w)) hN) Zk
theorem Eg6{p45:Option Addr}(hs:Sl 69 a l df)(e10:Lk l 10 (pT g10))(l0:Lp 161 (pF g10 23) (.pointer p45) w)
  (hN: ∀a',Sl 69 a' ((10,.pointer p45)::A6 [10,42,43,44,45] l) df->N a' w):Rg N Q a w (R4 9):=
 reg [10] [10,42,43,44,45] [.val (.pointer p45)] hs (Zc e10 Zz) (aI l0.run hN) Zk
theorem Ax9{he:Int}{b51:Bool}(hs:Sl 69 a l df)(e10:Lk l 10 (pT g10))(e8:Lk l 8 (.int .u64 h))(l0:Lp 49 (pF g10 22) (.int .u64 he) w)(h1:decide (he=h)=b51)
  (hN: ∀a',Sl 69 a' ((51,.bool b51)::A6 [46,47,48,49,50,51] l) df->N a' w):Rg N Q a w (R4 10):=
 reg [51] [46,47,48,49,50,51] [.val (.int .u64 he),.bit b51] hs (Zc e10<|Zc e8 Zz) (aI l0.run (aI h1 hN)) Zk
theorem Cs9{de:Dt}{me:Dm}{b11:Bool}{er12:Value}(hs:Sl 69 a l df)(e10:Lk l 10 (pT g10))(e3:Lk l 3 (pT g3))(l0: ∀u,C u->Lp 53 (pT g10) (.agg (de.cs me)) u)(l1: ∀u,C u->Lp 53 (pT g3) (.agg (d.cs m)) u)(k2: ∀u,C u->Cl 99 #[.agg (de.cs me),.agg (d.cs m)] u (.tuple #[.bool b11,er12]) C)
  (hC:C (w.drewN 1)) (hN: ∀a' u,C u->Sl 69 a' ((11,.bool b11)::(12,er12)::A6 (11::12::List.range' 52 9) l) df->N a' u):Rg N Q a w (R4 11):=
 Eu5 C [11,12] (11::12::List.range' 52 9) [.val (.agg (de.cs me)),.val (.agg (d.cs m)),.val (.tuple #[.bool b11,er12])] hs (Zc e10<|Zc e3 Zz) (aI hC (aI (fun u hu=>(l0 u hu).run) (aI (fun u hu=>(l1 u hu).run) (aI k2 (fun a' u hu=>hN a' u hu))))) Zk
theorem Vo(hs:Sl 69 a l df)(e11:Lk l 11 (.bool true))(e12:Lk l 12 (.nilIface))
  (hN: ∀a',Sl 69 a' ((65,.bool true)::A6 [61,62,63,64,65] l) df->N a' w):Rg N Q a w (R4 12):=
 reg [65] [61,62,63,64,65] [.raw] hs (Zc e11<|Zc e12 Zz) hN Zk
theorem Vp(hs:Sl 69 a l df)(e11:Lk l 11 (.bool false))
  (hN: ∀a',Sl 69 a' ((65,.bool false)::A6 [61,62,63,64,65] l) df->N a' w):Rg N Q a w (R4 12):=
 reg [65] [61,62,63,64,65] [] hs (Zc e11 Zz) hN Zk
theorem Ct0(hs:Sl 69 a l df)(e10:Lk l 10 (pT g10))(e8:Lk l 8 (.int .u64 h))
  (hN: ∀a',Sl 69 a' ((4,pT g10)::(5,.int .u64 h)::(6,.nilIface)::A6 [4,5,6,66,67] l) df->N a' w):Rg N Q a w (R4 13):=
 reg [4,5,6] [4,5,6,66,67] [] hs (Zc e10<|Zc e8 Zz) hN Zk
theorem Ct1(hs:Sl 69 a l df)(e8:Lk l 8 (.int .u64 h))
  (hN: ∀a',Sl 69 a' ((4,.pointer none)::(5,.int .u64 h)::(6,.nilIface)::A6 [4,5,6,68] l) df->N a' w):Rg N Q a w (R4 14):=
 reg [4,5,6] [4,5,6,68] [] hs (Zc e8 Zz) hN Zk
noncomputable def L0 (n:Nat):Code:=((Tryz.f70.body.bind (D4 n)).getD .skip)
noncomputable def Ay0:Code:=(.seq (L0 0) (.seq (.seq (L0 1) (.seq (L0 2) (.cond (.tmp 18) (.seq (L0 3) .ret) .skip))) (.seq (L0 4) (.seq (.seq (L0 5) (.cond (.tmp 28) (.seq (L0 6) .ret) .skip)) (.seq (.seq (L0 7) (.cond (.tmp 31) (.seq (L0 8) (.seq (L0 9) .ret)) .skip)) (.seq (.seq (L0 10) (.cond (.tmp 46) (L0 11) .skip)) (.seq (L0 12) (.seq (L0 13) (.seq (L0 14) (.seq (.seq (L0 15) (.cond (.tmp 74) (L0 16) (L0 17))) (.seq (L0 18) (.seq (L0 19) (.seq (L0 20) .ret)))))))))))))
theorem Bn6:Tryz.f70.body=some Ay0:=by kernel_rfl
theorem Eg7(hs:Sl 97 a l df)(e1:Lk l 1 (.agg (d.cs m)))(e2:Lk l 2 (.agg (v.cs mv)))
  (hN: ∀a',Sl 97 a' ((4,pT w.heap.size)::(5,pT ((w.alloc (.cells (d.cs m) 53)).heap.size))::(6,.nilIface)::A6 [4,5,6] l) df->N a' ((w.alloc (.cells (d.cs m) 53)).alloc (.cells (v.cs mv) 53))):Rg N Q a w (L0 0):=
 reg [4,5,6] [4,5,6] [.raw,.raw] hs (Zc e1<|Zc e2 Zz) hN Zk
theorem Eg8(hs:Sl 97 a l df)(e4:Lk l 4 (pT g4))(e5:Lk l 5 (pT g5))(l0:Lp 53 (pT g4) (.agg (d.cs m)) w)(l1:Lp 53 (pT g5) (.agg (v.cs mv)) w)(k2:Ca 95 #[.slice (some ⟨w.heap.size,0,none⟩) 2 2] (w.alloc (.cells #[ii d.h.kind,.string d.h.type,ii d.h.n,.int .u64 d.h.f,.string d.h.s,ii d.h.obj,ii d.h.frm,ii d.h.len,ii d.h.cap,.slice m.pa d.h.path.length m.pc,.slice m.ia d.k.len m.ic,ii v.h.kind,.string v.h.type,ii v.h.n,.int .u64 v.h.f,.string v.h.s,ii v.h.obj,ii v.h.frm,ii v.h.len,ii v.h.cap,.slice mv.pa v.h.path.length mv.pc,.slice mv.ia v.k.len mv.ic] 53)) fun e w'=> ∃x16,e=.returned x16/\C0 x16 w')
  (hN: ∀a' (x16:Value) (w1:World),C0 x16 w1->Sl 97 a' ((7,x16)::A6 [7,13,14,15,16] l) df->N a' w1):Rg N Q a w (L0 1):=
 reg [7] [7,13,14,15,16] [.val (.agg (d.cs m)),.val (.agg (v.cs mv)),.raw,.con C0] hs (Zc e4<|Zc e5 Zz) (aI l0.run (aI l1.run (aI k2 (fun(x16:Value) (w1:World) (hc0:C0 x16 w1)a'=>hN a' x16 w1 hc0)))) Zk
theorem Ct2(hs:Sl 97 a l df)(e7:Lk l 7 (.nilIface))
  (hN: ∀a',Sl 97 a' ((18,.bool false)::A6 [17,18] l) df->N a' w):Rg N Q a w (L0 2):=
 reg [18] [17,18] [.raw] hs (Zc e7 Zz) hN Zk
theorem Ct3(hs:Sl 97 a l df)(e7:Lk l 7 (.iface T7 v7))
  (hN: ∀a',Sl 97 a' ((18,.bool true)::A6 [17,18] l) df->N a' w):Rg N Q a w (L0 2):=
 reg [18] [17,18] [.raw] hs (Zc e7 Zz) hN Zk
theorem Eg9(hs:Sl 97 a l df)(e7:Lk l 7 (er7))
  (hN: ∀a',Sl 97 a' ((6,er7)::A6 [6,19] l) df->N a' w):Rg N Q a w (L0 3):=
 reg [6] [6,19] [] hs (Zc e7 Zz) hN Zk
theorem Eh0{C0:Value->Value->Value->World->Prop}(hs:Sl 97 a l df)(e0:Lk l 0 (pT gm))(e4:Lk l 4 (pT g4))(l0:Lp 53 (pT g4) (.agg (d.cs m)) w)(k1:Ca 96 #[pT gm,.agg (d.cs m)] w fun e w'=> ∃x23a x23b x23c,e=.returned (.tuple #[x23a,x23b,x23c])/\C0 x23a x23b x23c w')
  (hN: ∀a' (x23a:Value) (x23b:Value) (x23c:Value) (w1:World),C0 x23a x23b x23c w1->Sl 97 a' ((8,x23a)::(9,x23b)::(10,x23c)::A6 (8::9::10::List.range' 20 7) l) df->N a' w1):Rg N Q a w (L0 4):=
 reg [8,9,10] (8::9::10::List.range' 20 7) [.val (.agg (d.cs m)),.con3 C0] hs (Zc e0<|Zc e4 Zz) (aI l0.run (aI k1 (fun(x23a:Value) (x23b:Value) (x23c:Value) (w1:World) (hc0:C0 x23a x23b x23c w1)a'=>hN a' x23a x23b x23c w1 hc0))) Zk
theorem Ct4(hs:Sl 97 a l df)(e10:Lk l 10 (.nilIface))
  (hN: ∀a',Sl 97 a' ((28,.bool false)::A6 [27,28] l) df->N a' w):Rg N Q a w (L0 5):=
 reg [28] [27,28] [.raw] hs (Zc e10 Zz) hN Zk
theorem Ct5{T10:TypeId}{v10:Value}(hs:Sl 97 a l df)(e10:Lk l 10 (.iface T10 v10))
  (hN: ∀a',Sl 97 a' ((28,.bool true)::A6 [27,28] l) df->N a' w):Rg N Q a w (L0 5):=
 reg [28] [27,28] [.raw] hs (Zc e10 Zz) hN Zk
theorem Eh1{er10:Value}(hs:Sl 97 a l df)(e10:Lk l 10 (er10))
  (hN: ∀a',Sl 97 a' ((6,er10)::A6 [6,29] l) df->N a' w):Rg N Q a w (L0 6):=
 reg [6] [6,29] [] hs (Zc e10 Zz) hN Zk
theorem Ct6(hs:Sl 97 a l df)(e8:Lk l 8 (.pointer none))(h0: ∀w,(binOp .neq 161 (.pointer none) (.pointer none)).run Tryz.prog w=.ok (.bool b31) w)
  (hN: ∀a',Sl 97 a' ((31,.bool b31)::A6 [30,31] l) df->N a' w):Rg N Q a w (L0 7):=
 reg [31] [30,31] [.bin (.bool b31)] hs (Zc e8 Zz) (aI (G4 (x:=.tmp 30) (y:=.const (.pointer none)) Zk (h0 w)) hN) Zk
theorem Ct7(hs:Sl 97 a l df)(e8:Lk l 8 (pT g8))(h0: ∀w,(binOp .neq 161 (pT g8) (.pointer none)).run Tryz.prog w=.ok (.bool b31) w)
  (hN: ∀a',Sl 97 a' ((31,.bool b31)::A6 [30,31] l) df->N a' w):Rg N Q a w (L0 7):=
 reg [31] [30,31] [.bin (.bool b31)] hs (Zc e8 Zz) (aI (G4 (x:=.tmp 30) (y:=.const (.pointer none)) Zk (h0 w)) hN) Zk
theorem Eh2{C0:Dm->World->Prop}(hs:Sl 97 a l df)(e8:Lk l 8 (pT g8))(e5:Lk l 5 (pT g5))(l0:Lp 53 (pT g5) (.agg (v.cs mv)) w)(k1:Ca 97 #[.agg (v.cs mv)] w fun e w'=> ∃x34:Dm,e=.returned (.agg (v.cs x34))/\C0 x34 w')(s2: ∀(x34:Dm) (w1:World),C0 x34 w1->So 53 g8 11 (.agg (v.cs x34)) w1 (v.cs x34).toList)
  (hN: ∀a' (x34:Dm) (w1:World),C0 x34 w1->Sl 97 a' (A6 [32,33,34,35,36] l) df->N a' (w1.setCells g8 11 (v.cs x34).toList)):Rg N Q a w (L0 8):=
 reg [] [32,33,34,35,36] [.val (.agg (v.cs mv)),.ex (Dm) (fun x34=>.agg (v.cs x34)) C0,.sto] hs (Zc e8<|Zc e5 Zz) (aI l0.run (aI k1 (fun(x34:Dm) (w1:World) (hc0:C0 x34 w1)=>(aI (s2 x34 w1 hc0) (fun a'=>hN a' x34 w1 hc0))))) Zk
theorem Eh3(hs:Sl 97 a l df)
  (hN: ∀a',Sl 97 a' ((6,.nilIface)::A6 [6] l) df->N a' w):Rg N Q a w (L0 9):=
 Zg [6] hs hN
theorem Ay1{b46:Bool}(hs:Sl 97 a l df)(e0:Lk l 0 (pT gm))(l0:Lp 3 (pF gm 11) (ii (ny:Int)) w)(l1:Lp 167 (pF gm 8) (.slice (some ⟨gh,0,none⟩) nh ch) w)(h2:decide ((nh:Int)<=(ny:Int))=b46)
  (hN: ∀a' mm,Sl 97 a' ((46,.bool b46)::A6 (List.range' 37 10) l) df->N a' (w.drewN mm)):Rg N Q a w (L0 10):=
 Ao [46] (List.range' 37 10) [.val (ii (ny:Int)),.val (.slice (some ⟨gh,0,none⟩) nh ch),.bit b46] hs (Zc e0 Zz) (aI l0 (aI l1 (aI h2 hN))) Zk
theorem Ct8{C0:World->Prop}(hs:Sl 97 a l df)(e0:Lk l 0 (pT gm))(k0:Cl 98 #[pT gm] w (.tuple #[]) C0)
  (hN: ∀a' (w1:World),C0 w1->Sl 97 a' (A6 [47,48] l) df->N a' w1):Rg N Q a w (L0 11):=
 reg [] [47,48] [.ret (.tuple #[]) C0] hs (Zc e0 Zz) (aI k0 (fun(w1:World) (hc0:C0 w1)a'=>hN a' w1 hc0)) Zk
theorem Ct9(hs:Sl 97 a l df)(e4:Lk l 4 (pT g4))(l0:Lp 53 (pT g4) (.agg (d.cs m)) w)(k1:Ca 99 #[.agg (d.cs m),.agg (d.cs m)] w fun e w'=> ∃x52:Value,e=.returned (.tuple #[.bool ow,x52])/\C0 x52 w')
  (hN: ∀a' (x52:Value) (w1:World),C0 x52 w1->Sl 97 a' ((11,.bool ow)::A6 (11::12::List.range' 49 6) l) df->N a' w1):Rg N Q a w (L0 12):=
 reg [11] (11::12::List.range' 49 6) [.val (.agg (d.cs m)),.val (.agg (d.cs m)),.ex (Value) (fun x52=>.tuple #[.bool ow,x52]) C0] hs (Zc e4 Zz) (aI l0.run (aI l0.run (aI k1 (fun(x52:Value) (w1:World) (hc0:C0 x52 w1)a'=>hN a' x52 w1 hc0)))) Zk
theorem Cu0{pt:Option Addr}{C0:Dm->World->Prop}(hs:Sl 97 a l df)(e4:Lk l 4 (pT g4))(e5:Lk l 5 (pT g5))(e9:Lk l 9 (.int .u64 h))(e0:Lk l 0 (pT gm))(e11:Lk l 11 (.bool ow))(l0: ∀u,C u->Lp 53 (pT g4) (.agg (d.cs m)) u)(l1: ∀u,C u->Lp 53 (pT g5) (.agg (v.cs mv)) u)(l2: ∀u,C u->Lp 161 (pF gm 10) (.pointer pt) u)(c3:C (w.drewN 1))(k4:Ca 97 #[.agg (d.cs m)] (w.drewN 1) fun e w'=> ∃x56:Dm,e=.returned (.agg (d.cs x56))/\C0 x56 w')(c5: ∀(x56:Dm) (w1:World),C0 x56 w1->C w1)(k6: ∀(x56:Dm) (w1:World),C0 x56 w1->Ca 97 #[.agg (v.cs mv)] w1 fun e w'=> ∃x58:Dm,e=.returned (.agg (v.cs x58))/\C1 w1 x58 w')(c7: ∀(x56:Dm) (w1:World),C0 x56 w1->∀(x58:Dm) (w2:World),C1 w1 x58 w2->C w2)(c8: ∀(x56:Dm) (w1:World),C0 x56 w1->∀(x58:Dm) (w2:World),C1 w1 x58 w2->C (w2.alloc (.cells #[ii d.h.kind,.string d.h.type,ii d.h.n,.int .u64 d.h.f,.string d.h.s,ii d.h.obj,ii d.h.frm,ii d.h.len,ii d.h.cap,.slice x56.pa d.h.path.length x56.pc,.slice x56.ia d.k.len x56.ic,ii v.h.kind,.string v.h.type,ii v.h.n,.int .u64 v.h.f,.string v.h.s,ii v.h.obj,ii v.h.frm,ii v.h.len,ii v.h.cap,.slice x58.pa v.h.path.length x58.pc,.slice x58.ia v.k.len x58.ic,.int .u64 h,.pointer none,.pointer pt,.pointer none,.bool ow] 165)))
  (hN: ∀a' (x56:Dm) (w1:World) (x58:Dm) (w2:World),C0 x56 w1->C1 w1 x58 w2->Sl 97 a' ((8,pT w2.heap.size)::A6 (8::List.range' 55 12) l) df->N a' (w2.alloc (.cells #[ii d.h.kind,.string d.h.type,ii d.h.n,.int .u64 d.h.f,.string d.h.s,ii d.h.obj,ii d.h.frm,ii d.h.len,ii d.h.cap,.slice x56.pa d.h.path.length x56.pc,.slice x56.ia d.k.len x56.ic,ii v.h.kind,.string v.h.type,ii v.h.n,.int .u64 v.h.f,.string v.h.s,ii v.h.obj,ii v.h.frm,ii v.h.len,ii v.h.cap,.slice x58.pa v.h.path.length x58.pc,.slice x58.ia v.k.len x58.ic,.int .u64 h,.pointer none,.pointer pt,.pointer none,.bool ow] 165))):Rg N Q a w (L0 13):=
 Dn5 12 [0,2,4,5,6,7,8,9] [1,3,10,11] C [8] (8::List.range' 55 12) [.val (.agg (d.cs m)),.val (.agg (v.cs mv)),.val (.pointer pt)] [.ex (Dm) (fun x56=>.agg (d.cs x56)) C0,.exw (Dm) (fun x58=>.agg (v.cs x58)) C1,.raw,.raw] hs (Zc e4<|Zc e5<|Zc e9<|Zc e0<|Zc e11 Zz) (aI (fun u hu=>(l0 u hu).run) (aI (fun u hu=>(l1 u hu).run) (aI (fun u hu=>(l2 u hu).run) (aI c3 (aI k4 (fun(x56:Dm) (w1:World) (hc0:C0 x56 w1)=>(aI (c5 x56 w1 hc0) (aI (k6 x56 w1 hc0) (fun(x58:Dm) (w2:World) (hc1:C1 w1 x58 w2)=>(aI (c7 x56 w1 hc0 x58 w2 hc1) (aI (c7 x56 w1 hc0 x58 w2 hc1) (aI (c8 x56 w1 hc0 x58 w2 hc1) (fun a'=>hN a' x56 w1 x58 w2 hc0 hc1))))))))))))) Zk
theorem Cu1{C0:World->Prop}(hs:Sl 97 a l df)(e0:Lk l 0 (pT gm))(e8:Lk l 8 (pT g8))(k0:Cl 100 #[pT gm,pT g8] w (.tuple #[]) C0)
  (hN: ∀a' (w1:World),C0 w1->Sl 97 a' (A6 [67,68,69] l) df->N a' w1):Rg N Q a w (L0 14):=
 reg [] [67,68,69] [.ret (.tuple #[]) C0] hs (Zc e0<|Zc e8 Zz) (aI k0 (fun(w1:World) (hc0:C0 w1)a'=>hN a' w1 hc0)) Zk
theorem Bn7(hs:Sl 97 a l df)(e0:Lk l 0 (pT gm))(l0:Lp 161 (pF gm 10) (.pointer none) w)(h1: ∀w,(binOp .eql 161 (.pointer none) (.pointer none)).run Tryz.prog w=.ok (.bool b74) w)
  (hN: ∀a',Sl 97 a' ((74,.bool b74)::A6 [70,71,72,73,74] l) df->N a' w):Rg N Q a w (L0 15):=
 reg [74] [70,71,72,73,74] [.val (.pointer none),.bin (.bool b74)] hs (Zc e0 Zz) (aI l0.run (aI (G4 (x:=.tmp 73) (y:=.const (.pointer none)) Zk (h1 w)) hN)) Zk
theorem Bn8(hs:Sl 97 a l df)(e0:Lk l 0 (pT gm))(l0:Lp 161 (pF gm 10) (pT gt) w)(h1: ∀w,(binOp .eql 161 (pT gt) (.pointer none)).run Tryz.prog w=.ok (.bool b74) w)
  (hN: ∀a',Sl 97 a' ((74,.bool b74)::A6 [70,71,72,73,74] l) df->N a' w):Rg N Q a w (L0 15):=
 reg [74] [70,71,72,73,74] [.val (pT gt),.bin (.bool b74)] hs (Zc e0 Zz) (aI l0.run (aI (G4 (x:=.tmp 73) (y:=.const (.pointer none)) Zk (h1 w)) hN)) Zk
theorem Cu2(hs:Sl 97 a l df)(e0:Lk l 0 (pT gm))(e8:Lk l 8 (pT g8))(s0:So 161 gm 9 (pT g8) w [pT g8])
  (hN: ∀a',Sl 97 a' (A6 [75,76,77,78] l) df->N a' (w.setCells gm 9 [pT g8])):Rg N Q a w (L0 16):=
 reg [] [75,76,77,78] [.sto] hs (Zc e0<|Zc e8 Zz) (aI s0 hN) Zk
theorem Cu3(hs:Sl 97 a l df)(e0:Lk l 0 (pT gm))(e8:Lk l 8 (pT g8))(l0:Lp 161 (pF gm 10) (pT gt) w)(s1:So 161 gt 25 (pT g8) w [pT g8])
  (hN: ∀a',Sl 97 a' (A6 (List.range' 79 7) l) df->N a' (w.setCells gt 25 [pT g8])):Rg N Q a w (L0 17):=
 reg [] (List.range' 79 7) [.val (pT gt),.sto] hs (Zc e0<|Zc e8 Zz) (aI l0.run (aI s1 hN)) Zk
theorem Cu4(hs:Sl 97 a l df)(e0:Lk l 0 (pT gm))(e8:Lk l 8 (pT g8))(s0:So 161 gm 10 (pT g8) w [pT g8])
  (hN: ∀a',Sl 97 a' (A6 [86,87,88,89] l) df->N a' (w.setCells gm 10 [pT g8])):Rg N Q a w (L0 18):=
 reg [] [86,87,88,89] [.sto] hs (Zc e0<|Zc e8 Zz) (aI s0 hN) Zk
theorem Cu5(hs:Sl 97 a l df)(e0:Lk l 0 (pT gm))(l0:Lp 3 (pF gm 11) (ii (ny:Int)) w)(h1: -9223372036854775808<=(ny:Int)+1/\(ny:Int)+1<=9223372036854775807)(s2:So 3 gm 11 (ii ((ny:Int)+1)) w [ii ((ny:Int)+1)])
  (hN: ∀a',Sl 97 a' (A6 (List.range' 90 7) l) df->N a' (w.setCells gm 11 [ii ((ny:Int)+1)])):Rg N Q a w (L0 19):=
 reg [] (List.range' 90 7) [.val (ii (ny:Int)),.ari,.sto] hs (Zc e0 Zz) (aI l0.run (aI h1 (aI s2 hN))) Zk
theorem Cu6(hs:Sl 97 a l df)
  (hN: ∀a',Sl 97 a' ((6,.nilIface)::A6 [6] l) df->N a' w):Rg N Q a w (L0 20):=
 Zg [6] hs hN
noncomputable def Dn1 (n:Nat):Code:=((Tryz.f100.body.bind (D4 n)).getD .skip)
noncomputable def Ay2:Code:=(.seq (Dn1 0) (Dn1 1))
theorem Bn9:Tryz.f100.body=some Ay2:=by kernel_rfl
theorem Eh4{v14:Int}(hs:Sl 33 a l df)(e1:Lk l 1 (pT ge))(e0:Lk l 0 (pT gm))(l0:Lp 49 (pF ge 22) (.int .u64 h) w)(l1:Lp 167 (pF gm 8) (.slice (some ⟨gh,0,none⟩) nh ch) w)(i2: ∀w,(convert 3 49 (ii (nh:Int))).run Tryz.prog w=.ok (.int .u64 v14) w)(h3: ∀w,(binOp .rem 49 (.int .u64 h) (.int .u64 v14)).run Tryz.prog w=.ok (.int .u64 b) w)
  (hN: ∀a' mm,Sl 33 a' ((4,.int .u64 b)::A6 (List.range' 4 12) l) df->N a' (w.drewN mm)):Rg N Q a w (Dn1 0):=
 Ao [4] (List.range' 4 12) [.val (.int .u64 h),.val (.slice (some ⟨gh,0,none⟩) nh ch),.val (.int .u64 v14),.bin (.int .u64 b)] hs (Zc e1<|Zc e0 Zz) (aI l0 (aI l1 (aI i2 (aI (fun w'=>G4 (x:=.tmp 8) (y:=.tmp 14) Zk (h3 w')) hN)))) Zk
theorem Eh5{g27 o27:Nat}{p28:Option Addr}(hs:Sl 33 a l df)(e1:Lk l 1 (pT ge))(e0:Lk l 0 (pT gm))(e4:Lk l 4 (.int .u64 b))(l0: ∀u,C u->Lp 167 (pF gm 8) (.slice (some ⟨gh,0,none⟩) nh ch) u)(i1:Ix 167 (.slice (some ⟨gh,0,none⟩) nh ch) (.int .u64 b) (pF g27 o27))(l2: ∀u,C u->Lp 161 (pF g27 o27) (.pointer p28) u)(c3:C (w.drewN 1))(s4:So 161 ge 23 (.pointer p28) (w.drewN 1) [.pointer p28])(c5:C ((w.drewN 1).setCells ge 23 [.pointer p28]))(s6:So 161 g27 o27 (pT ge) ((w.drewN 1).setCells ge 23 [.pointer p28]) [pT ge])
  (hN: ∀a',Sl 33 a' (A6 (List.range' 16 17) l) df->N a' (((w.drewN 1).setCells ge 23 [.pointer p28]).setCells g27 o27 [pT ge])):Rg N Q a w (Dn1 1):=
 Dn5 18 [0,1,2,3,4,5,6,7,8,9,10,11,12,13,14,15] [16,17] C [] (List.range' 16 17) [.val (.slice (some ⟨gh,0,none⟩) nh ch),.val (.slice (some ⟨gh,0,none⟩) nh ch),.val (pF g27 o27),.val (.pointer p28)] [.sto,.val (pF g27 o27),.sto] hs (Zc e1<|Zc e0<|Zc e4 Zz) (aI (fun u hu=>(l0 u hu).run) (aI (fun u hu=>(l0 u hu).run) (aI i1 (aI (fun u hu=>(l2 u hu).run) (aI c3 (aI s4 (aI c5 (aI (i1 ((w.drewN 1).setCells ge 23 [.pointer p28])) (aI c5 (aI s6 hN)))))))))) Zk
noncomputable def Dn2 (n:Nat):Code:=((Tryz.f117.body.bind (D4 n)).getD .skip)
noncomputable def Ay3:Code:=(.seq (Dn2 0) (.seq (Dn2 1) .ret))
theorem Bo0:Tryz.f117.body=some Ay3:=by kernel_rfl
theorem Eh6(hs:Sl 4 a l df)(e0:Lk l 0 (pT gm))
  (hN: ∀a',Sl 4 a' ((1,pT w.heap.size)::(2,.nilFunc)::A6 [1,2] l) df->N a' (w.alloc (.cells #[pT gm] 117))):Rg N Q a w (Dn2 0):=
 reg [1,2] [1,2] [.raw] hs (Zc e0 Zz) hN Zk
theorem Eh7(hs:Sl 4 a l df)(e1:Lk l 1 (pT g1))
  (hN: ∀a',Sl 4 a' ((2,.func (.func 130) #[] #[pT g1])::A6 [2,3] l) df->N a' w):Rg N Q a w (Dn2 1):=
 reg [2] [2,3] [] hs (Zc e1 Zz) hN Zk
noncomputable def Dn3 (n:Nat):Code:=((Tryz.f166.body.bind (D4 n)).getD .skip)
noncomputable def Ay4:Code:=(.seq (Dn3 0) (.seq (Dn3 1) .ret))
theorem Bo1:Tryz.f166.body=some Ay4:=by kernel_rfl
theorem Eh8(hs:Sl 4 a l df)(e0:Lk l 0 (pT gm))
  (hN: ∀a',Sl 4 a' ((1,pT w.heap.size)::(2,.nilFunc)::A6 [1,2] l) df->N a' (w.alloc (.cells #[pT gm] 117))):Rg N Q a w (Dn3 0):=
 reg [1,2] [1,2] [.raw] hs (Zc e0 Zz) hN Zk
theorem Eh9(hs:Sl 4 a l df)(e1:Lk l 1 (pT g1))
  (hN: ∀a',Sl 4 a' ((2,.func (.func 167) #[] #[pT g1])::A6 [2,3] l) df->N a' w):Rg N Q a w (Dn3 1):=
 reg [2] [2,3] [] hs (Zc e1 Zz) hN Zk
noncomputable def Sn (n:Nat):Code:=((Tryz.f98.body.bind (D4 n)).getD .skip)
noncomputable def Ay5:Code:=(.seq (Sn 0) (.seq (Sn 1) (.seq (Sn 2) (.seq (Sn 3) (.block 0 (.rangeFunc (.tmp 18) #[19] (Sn 4) (.block 1 (Sn 5))))))))
theorem Bo2:Tryz.f98.body=some Ay5:=by kernel_rfl
theorem Ei0(hs:Sl 23 a l df)(e0:Lk l 0 (pT gm))
  (hN: ∀a',Sl 23 a' ((1,pT w.heap.size)::A6 [1] l) df->N a' (w.alloc (.cells #[pT gm] 117))):Rg N Q a w (Sn 0):=
 reg [1] [1] [.raw] hs (Zc e0 Zz) hN Zk
theorem Ei1{wm10:World}(hs:Sl 23 a l df)(e1:Lk l 1 (pT g1))(l0: ∀u,C u->Lp 117 (pT g1) (pT gm) u)(l1: ∀u,C u->Lp 167 (pF gm 8) (.slice (some ⟨gh,0,none⟩) nh ch) u)(h2: -9223372036854775808<=(2:Int)*(nh:Int)/\(2:Int)*(nh:Int)<=9223372036854775807)(c3:C (w.drewN 1))(m4:(Instr.makeSlice 167 (ii ((2:Int)*(nh:Int))) (ii ((2:Int)*(nh:Int)))).run Tryz.prog (w.drewN 1)=.ok (.slice (some ⟨(w.drewN 1).heap.size,0,none⟩) (2*nh) (2*nh)) wm10)(c5:C wm10)(s6:So 167 gm 8 (.slice (some ⟨(w.drewN 1).heap.size,0,none⟩) (2*nh) (2*nh)) wm10 [.slice (some ⟨(w.drewN 1).heap.size,0,none⟩) (2*nh) (2*nh)])
  (hN: ∀a',Sl 23 a' (A6 (List.range' 3 10) l) df->N a' (wm10.setCells gm 8 [.slice (some ⟨(w.drewN 1).heap.size,0,none⟩) (2*nh) (2*nh)])):Rg N Q a w (Sn 1):=
 Dn5 8 [0,1,2,3,4,5,6] [7] C [] (List.range' 3 10) [.val (pT gm),.val (pT gm),.val (.slice (some ⟨gh,0,none⟩) nh ch),.ari] [.vw (.slice (some ⟨(w.drewN 1).heap.size,0,none⟩) (2*nh) (2*nh)) wm10,.sto] hs (Zc e1 Zz) (aI (fun u hu=>(l0 u hu).run) (aI (fun u hu=>(l0 u hu).run) (aI (fun u hu=>(l1 u hu).run) (aI h2 (aI c3 (aI m4 (aI c5 (aI s6 hN)))))))) Zk
theorem Ei2{n16 c16:Nat}{wc4:World}(hs:Sl 23 a l df)(e1:Lk l 1 (pT g1))(l0:Lp 117 (pT g1) (pT gm) w)(i1: ∀w,(Instr.sliceAt 166 (pT gm) none none none).run Tryz.prog w=.ok (.slice (some ⟨gm,0,none⟩) n16 c16) w)(m2: ∀ty,∃v,(Builtin.clear_ #[167] ty #[.slice (some ⟨gm,0,none⟩) n16 c16]).run Tryz.prog w=.ok v wc4)
  (hN: ∀a',Sl 23 a' (A6 [13,14,15,16] l) df->N a' wc4):Rg N Q a w (Sn 2):=
 reg [] [13,14,15,16] [.val (pT gm),.val (.slice (some ⟨gm,0,none⟩) n16 c16),.wld wc4] hs (Zc e1 Zz) (aI l0.run (aI (i1 w) (aI m2 (fun(_:Value)=>hN)))) Zk
theorem Ei3(hs:Sl 23 a l df)(e1:Lk l 1 (pT g1))(l0:Lp 117 (pT g1) (pT gm) w)(k1:Ca 117 #[pT gm] w fun e w'=> ∃x18,e=.returned x18/\C0 x18 w')
  (hN: ∀a' (x18:Value) (w1:World),C0 x18 w1->Sl 23 a' ((18,x18)::A6 [17,18] l) df->N a' w1):Rg N Q a w (Sn 3):=
 reg [18] [17,18] [.val (pT gm),.con C0] hs (Zc e1 Zz) (aI l0.run (aI k1 (fun(x18:Value) (w1:World) (hc0:C0 x18 w1)a'=>hN a' x18 w1 hc0))) Zk
theorem Ei4(hs:Sl 23 a l df)(e19:Lk l 19 (pT ge))
  (hN: ∀a',Sl 23 a' ((2,pT ge)::A6 [2] l) df->N a' w):Rg N Q a w (Sn 4):=
 reg [2] [2] [] hs (Zc e19 Zz) hN Zk
theorem Ei5{C0:World->Prop}(hs:Sl 23 a l df)(e1:Lk l 1 (pT g1))(e2:Lk l 2 (pT ge))(l0:Lp 117 (pT g1) (pT gm) w)(k1:Cl 100 #[pT gm,pT ge] w (.tuple #[]) C0)
  (hN: ∀a' (w1:World),C0 w1->Sl 23 a' (A6 [20,21,22] l) df->N a' w1):Rg N Q a w (Sn 5):=
 reg [] [20,21,22] [.val (pT gm),.ret (.tuple #[]) C0] hs (Zc e1<|Zc e2 Zz) (aI l0.run (aI k1 (fun(w1:World) (hc0:C0 w1)a'=>hN a' w1 hc0))) Zk
noncomputable def Sp (n:Nat):Code:=((Tryz.f168.body.bind (D4 n)).getD .skip)
noncomputable def Ay6:Code:=(.seq (Sp 0) (.seq (Sp 1) (.seq (.seq (Sp 2) (.block 0 (.rangeFunc (.tmp 6) #[7] (Sp 3) (.block 1 (Sp 4))))) (.seq (Sp 5) .ret))))
theorem Bo3:Tryz.f168.body=some Ay6:=by kernel_rfl
theorem Ei6(hs:Sl 27 a l df)
  (hN: ∀a',Sl 27 a' ((2,.slice none 0 0)::A6 [2] l) df->N a' w):Rg N Q a w (Sp 0):=
 Zg [2] hs hN
theorem Ei7(hs:Sl 27 a l df)
  (hN: ∀a',Sl 27 a' ((3,pT w.heap.size)::A6 [3] l) df->N a' (w.alloc (.cells #[.slice none 0 0] 264))):Rg N Q a w (Sp 1):=
 reg [3] [3] [.raw] hs Zz hN Zk
theorem Ei8(hs:Sl 27 a l df)(e0:Lk l 0 (pT gm))(k0:Ca 117 #[pT gm] w fun e w'=> ∃x6,e=.returned x6/\C0 x6 w')
  (hN: ∀a' (x6:Value) (w1:World),C0 x6 w1->Sl 27 a' ((6,x6)::A6 [5,6] l) df->N a' w1):Rg N Q a w (Sp 2):=
 reg [6] [5,6] [.con C0] hs (Zc e0 Zz) (aI k0 (fun(x6:Value) (w1:World) (hc0:C0 x6 w1)a'=>hN a' x6 w1 hc0)) Zk
theorem Ei9(hs:Sl 27 a l df)(e7:Lk l 7 (pT ge))
  (hN: ∀a',Sl 27 a' ((4,pT ge)::A6 [4] l) df->N a' w):Rg N Q a w (Sp 3):=
 reg [4] [4] [] hs (Zc e7 Zz) hN Zk
theorem Ej0{l8:Value}{dk dv:Dt}{mk:Dm}{C0:Dm->World->Prop}{C2:World->S3->World->Prop}(hs:Sl 27 a l df)(e3:Lk l 3 (pT g3))(e4:Lk l 4 (pT ge))(l0: ∀u,C u->Lp 264 (pT g3) (l8) u)(l1: ∀u,C u->Lp 53 (pT ge) (.agg (dk.cs mk)) u)(l2: ∀u,C u->Lp 53 (pF ge 11) (.agg (dv.cs mv)) u)(l3: ∀u,C u->Lp 4 (pF ge 26) (.bool ow) u)(c4:C (w.drewN 1))(k5:Ca 97 #[.agg (dk.cs mk)] (w.drewN 1) fun e w'=> ∃x13:Dm,e=.returned (.agg (dk.cs x13))/\C0 x13 w')(c6: ∀(x13:Dm) (w1:World),C0 x13 w1->C w1)(k7: ∀(x13:Dm) (w1:World),C0 x13 w1->Ca 97 #[.agg (dv.cs mv)] w1 fun e w'=> ∃x18:Dm,e=.returned (.agg (dv.cs x18))/\C1 w1 x18 w')(c8: ∀(x13:Dm) (w1:World),C0 x13 w1->∀(x18:Dm) (w2:World),C1 w1 x18 w2->C w2)(c9: ∀(x13:Dm) (w1:World),C0 x13 w1->∀(x18:Dm) (w2:World),C1 w1 x18 w2->C (w2.alloc (.cells #[ii dk.h.kind,.string dk.h.type,ii dk.h.n,.int .u64 dk.h.f,.string dk.h.s,ii dk.h.obj,ii dk.h.frm,ii dk.h.len,ii dk.h.cap,.slice x13.pa dk.h.path.length x13.pc,.slice x13.ia dk.k.len x13.ic,ii dv.h.kind,.string dv.h.type,ii dv.h.n,.int .u64 dv.h.f,.string dv.h.s,ii dv.h.obj,ii dv.h.frm,ii dv.h.len,ii dv.h.cap,.slice x18.pa dv.h.path.length x18.pc,.slice x18.ia dv.k.len x18.ic,.bool ow] 267)))(k10: ∀(x13:Dm) (w1:World),C0 x13 w1->∀(x18:Dm) (w2:World),C1 w1 x18 w2->∀ty,∃v w',(Builtin.append_ #[264,264] ty #[l8,.slice (some ⟨w2.heap.size,0,none⟩) 1 1]).run Tryz.prog (w2.alloc (.cells #[ii dk.h.kind,.string dk.h.type,ii dk.h.n,.int .u64 dk.h.f,.string dk.h.s,ii dk.h.obj,ii dk.h.frm,ii dk.h.len,ii dk.h.cap,.slice x13.pa dk.h.path.length x13.pc,.slice x13.ia dk.k.len x13.ic,ii dv.h.kind,.string dv.h.type,ii dv.h.n,.int .u64 dv.h.f,.string dv.h.s,ii dv.h.obj,ii dv.h.frm,ii dv.h.len,ii dv.h.cap,.slice x18.pa dv.h.path.length x18.pc,.slice x18.ia dv.k.len x18.ic,.bool ow] 267))=.ok v.v w'/\C2 (w2.alloc (.cells #[ii dk.h.kind,.string dk.h.type,ii dk.h.n,.int .u64 dk.h.f,.string dk.h.s,ii dk.h.obj,ii dk.h.frm,ii dk.h.len,ii dk.h.cap,.slice x13.pa dk.h.path.length x13.pc,.slice x13.ia dk.k.len x13.ic,ii dv.h.kind,.string dv.h.type,ii dv.h.n,.int .u64 dv.h.f,.string dv.h.s,ii dv.h.obj,ii dv.h.frm,ii dv.h.len,ii dv.h.cap,.slice x18.pa dv.h.path.length x18.pc,.slice x18.ia dv.k.len x18.ic,.bool ow] 267)) v w')(c11: ∀(x13:Dm) (w1:World),C0 x13 w1->∀(x18:Dm) (w2:World),C1 w1 x18 w2->∀(x25:S3) (w3:World),C2 (w2.alloc (.cells #[ii dk.h.kind,.string dk.h.type,ii dk.h.n,.int .u64 dk.h.f,.string dk.h.s,ii dk.h.obj,ii dk.h.frm,ii dk.h.len,ii dk.h.cap,.slice x13.pa dk.h.path.length x13.pc,.slice x13.ia dk.k.len x13.ic,ii dv.h.kind,.string dv.h.type,ii dv.h.n,.int .u64 dv.h.f,.string dv.h.s,ii dv.h.obj,ii dv.h.frm,ii dv.h.len,ii dv.h.cap,.slice x18.pa dv.h.path.length x18.pc,.slice x18.ia dv.k.len x18.ic,.bool ow] 267)) x25 w3->C w3)(s12: ∀(x13:Dm) (w1:World),C0 x13 w1->∀(x18:Dm) (w2:World),C1 w1 x18 w2->∀(x25:S3) (w3:World),C2 (w2.alloc (.cells #[ii dk.h.kind,.string dk.h.type,ii dk.h.n,.int .u64 dk.h.f,.string dk.h.s,ii dk.h.obj,ii dk.h.frm,ii dk.h.len,ii dk.h.cap,.slice x13.pa dk.h.path.length x13.pc,.slice x13.ia dk.k.len x13.ic,ii dv.h.kind,.string dv.h.type,ii dv.h.n,.int .u64 dv.h.f,.string dv.h.s,ii dv.h.obj,ii dv.h.frm,ii dv.h.len,ii dv.h.cap,.slice x18.pa dv.h.path.length x18.pc,.slice x18.ia dv.k.len x18.ic,.bool ow] 267)) x25 w3->So 264 g3 0 (.slice x25.d x25.n x25.c) w3 [.slice x25.d x25.n x25.c])
  (hN: ∀a' (x13:Dm) (w1:World) (x18:Dm) (w2:World) (x25:S3) (w3:World),C0 x13 w1->C1 w1 x18 w2->C2 (w2.alloc (.cells #[ii dk.h.kind,.string dk.h.type,ii dk.h.n,.int .u64 dk.h.f,.string dk.h.s,ii dk.h.obj,ii dk.h.frm,ii dk.h.len,ii dk.h.cap,.slice x13.pa dk.h.path.length x13.pc,.slice x13.ia dk.k.len x13.ic,ii dv.h.kind,.string dv.h.type,ii dv.h.n,.int .u64 dv.h.f,.string dv.h.s,ii dv.h.obj,ii dv.h.frm,ii dv.h.len,ii dv.h.cap,.slice x18.pa dv.h.path.length x18.pc,.slice x18.ia dv.k.len x18.ic,.bool ow] 267)) x25 w3->Sl 27 a' (A6 (List.range' 8 18) l) df->N a' (w3.setCells g3 0 [.slice x25.d x25.n x25.c])):Rg N Q a w (Sp 4):=
 Dn5 18 [0,1,2,3,4,6,7,8,9,11,12,13,14] [5,10,15,16,17] C [] (List.range' 8 18) [.val (l8),.val (.agg (dk.cs mk)),.val (.agg (dv.cs mv)),.val (.bool ow)] [.ex (Dm) (fun x13=>.agg (dk.cs x13)) C0,.exw (Dm) (fun x18=>.agg (dv.cs x18)) C1,.raw,.raw,.apxw S3 S3.v C2,.sto] hs (Zc e3<|Zc e4 Zz) (aI (fun u hu=>(l0 u hu).run) (aI (fun u hu=>(l1 u hu).run) (aI (fun u hu=>(l2 u hu).run) (aI (fun u hu=>(l3 u hu).run) (aI c4 (aI k5 (fun(x13:Dm) (w1:World) (hc0:C0 x13 w1)=>(aI (c6 x13 w1 hc0) (aI (k7 x13 w1 hc0) (fun(x18:Dm) (w2:World) (hc1:C1 w1 x18 w2)=>(aI (c8 x13 w1 hc0 x18 w2 hc1) (aI (c8 x13 w1 hc0 x18 w2 hc1) (aI (c9 x13 w1 hc0 x18 w2 hc1) (aI (k10 x13 w1 hc0 x18 w2 hc1) (fun(x25:S3) (w3:World) (hc2:C2 (w2.alloc (.cells #[ii dk.h.kind,.string dk.h.type,ii dk.h.n,.int .u64 dk.h.f,.string dk.h.s,ii dk.h.obj,ii dk.h.frm,ii dk.h.len,ii dk.h.cap,.slice x13.pa dk.h.path.length x13.pc,.slice x13.ia dk.k.len x13.ic,ii dv.h.kind,.string dv.h.type,ii dv.h.n,.int .u64 dv.h.f,.string dv.h.s,ii dv.h.obj,ii dv.h.frm,ii dv.h.len,ii dv.h.cap,.slice x18.pa dv.h.path.length x18.pc,.slice x18.ia dv.k.len x18.ic,.bool ow] 267)) x25 w3)=>(aI (c11 x13 w1 hc0 x18 w2 hc1 x25 w3 hc2) (aI (s12 x13 w1 hc0 x18 w2 hc1 x25 w3 hc2) (fun a'=>hN a' x13 w1 x18 w2 x25 w3 hc0 hc1 hc2)))))))))))))))))) Zk
theorem Ej1{l26:Value}(hs:Sl 27 a l df)(e3:Lk l 3 (pT g3))(l0:Lp 264 (pT g3) (l26) w)
  (hN: ∀a',Sl 27 a' ((2,l26)::A6 [2,26] l) df->N a' w):Rg N Q a w (Sp 5):=
 reg [2] [2,26] [.val (l26)] hs (Zc e3 Zz) (aI l0.run hN) Zk
end Go.Proofs.YtbjegfpfmnleeaaGreatDoor
