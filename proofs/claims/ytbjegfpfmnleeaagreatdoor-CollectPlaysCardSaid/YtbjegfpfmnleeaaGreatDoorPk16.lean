/-
   Written by an AI agent.
-/
import Derived.Test.YtbjegfpfmnleeaaGreatDoorPk13
namespace Go.Proofs.YtbjegfpfmnleeaaGreatDoor
open Go.RowKit Go.Sort
set_option maxRecDepth 100000
variable {a:Act} {w:World} {df:List Deferred} {N:Act->World->Prop} {Q:Exit->Act->World->Prop} {l:List (Nat×Value)}
variable {C0 C1:S3->World->Prop} {ai bc bn bt c g1 g2 g3 gh i lc ln oc on rp sc sn tc tn:Nat} {b23:Bool} {bd ld od sd td:Option Addr} {bz n o tz was x:Int} {d:Dt} {m mx:Dm}
noncomputable def Ar0 (n:Nat):Code:=((Tryz.f27.body.bind (D4 n)).getD .skip)
noncomputable def Ar1:Code:=(.seq (Ar0 0) (.seq (Ar0 1) (.seq (Ar0 2) (.seq (Ar0 3) .ret))))
theorem Bf1:Tryz.f27.body=some Ar1:=by kernel_rfl
theorem Do2(hs:Sl 9 a l df)
  (hN: ∀a',Sl 9 a' ((2,.slice none 0 0)::A6 [2] l) df->N a' w):Rg N Q a w (Ar0 0):=
 Zg [2] hs hN
theorem Do3{x:Value}(hs:Sl 9 a l df)(e0:Lk l 0 (x))(k0:Ca 50 #[x] w fun e w'=> ∃q:S3,e=.returned (.slice q.d q.n q.c)/\C0 q w')
  (hN: ∀a' (q:S3) (w1:World),C0 q w1->Sl 9 a' ((3,.slice q.d q.n q.c)::A6 [3,4,5] l) df->N a' w1):Rg N Q a w (Ar0 1):=
 reg [3] [3,4,5] [.ex (S3) (fun q=>.slice q.d q.n q.c) C0] hs (Zc e0 Zz) (aI k0 (fun(q:S3) (w1:World) (hc0:C0 q w1)a'=>hN a' q w1 hc0)) Zk
theorem Do4{C0:World->Prop}(hs:Sl 9 a l df)(e3:Lk l 3 (.slice sd sn sc))(k0:Cl 40 #[.slice sd sn sc] w (.tuple #[]) C0)
  (hN: ∀a' (w1:World),C0 w1->Sl 9 a' (A6 [6,7] l) df->N a' w1):Rg N Q a w (Ar0 2):=
 reg [] [6,7] [.ret (.tuple #[]) C0] hs (Zc e3 Zz) (aI k0 (fun(w1:World) (hc0:C0 w1)a'=>hN a' w1 hc0)) Zk
theorem Do5(hs:Sl 9 a l df)(e3:Lk l 3 (.slice sd sn sc))
  (hN: ∀a',Sl 9 a' ((2,.slice sd sn sc)::A6 [2,8] l) df->N a' w):Rg N Q a w (Ar0 3):=
 reg [2] [2,8] [] hs (Zc e3 Zz) hN Zk
noncomputable def Dm2 (n:Nat):Code:=((Tryz.f50.body.bind (D4 n)).getD .skip)
noncomputable def Ar2:Code:=(.seq (Dm2 0) (.seq (Dm2 1) .ret))
theorem Bf2:Tryz.f50.body=some Ar2:=by kernel_rfl
theorem Do6(hs:Sl 5 a l df)
  (hN: ∀a',Sl 5 a' ((2,.slice none 0 0)::A6 [2] l) df->N a' w):Rg N Q a w (Dm2 0):=
 Zg [2] hs hN
theorem Do7{x:Value}(hs:Sl 5 a l df)(e0:Lk l 0 (x))(k0:Ca 76 #[.slice none 0 0,x] w fun e w'=> ∃q:S3,e=.returned (.slice q.d q.n q.c)/\C0 q w')
  (hN: ∀a' (q:S3) (w1:World),C0 q w1->Sl 5 a' ((2,.slice q.d q.n q.c)::A6 [2,3,4] l) df->N a' w1):Rg N Q a w (Dm2 1):=
 reg [2] [2,3,4] [.ex (S3) (fun q=>.slice q.d q.n q.c) C0] hs (Zc e0 Zz) (aI k0 (fun(q:S3) (w1:World) (hc0:C0 q w1)a'=>hN a' q w1 hc0)) Zk
noncomputable def Ad2 (n:Nat):Code:=((Tryz.f76.body.bind (D4 n)).getD .skip)
noncomputable def Ar3:Code:=(.seq (Ad2 0) (.seq (.seq (Ad2 1) (.block 0 (.rangeFunc (.tmp 6) #[7] (Ad2 2) (.block 1 (Ad2 3))))) (.seq (Ad2 4) .ret)))
theorem Bf3:Tryz.f76.body=some Ar3:=by kernel_rfl
theorem Do8(hs:Sl 13 a l df)(e0:Lk l 0 (.slice sd sn sc))
  (hN: ∀a',Sl 13 a' ((2,pT w.heap.size)::(4,.slice none 0 0)::A6 [2,4] l) df->N a' (w.alloc (.cells #[.slice sd sn sc] 24))):Rg N Q a w (Ad2 0):=
 reg [2,4] [2,4] [.raw] hs (Zc e0 Zz) hN Zk
theorem Do9{x:Value}(hs:Sl 13 a l df)(e1:Lk l 1 (x))
  (hN: ∀a',Sl 13 a' ((6,x)::A6 [6] l) df->N a' w):Rg N Q a w (Ad2 1):=
 reg [6] [6] [] hs (Zc e1 Zz) hN Zk
theorem Dp0(hs:Sl 13 a l df)(e7:Lk l 7 (ii n))
  (hN: ∀a',Sl 13 a' ((5,ii n)::A6 [5] l) df->N a' w):Rg N Q a w (Ad2 2):=
 reg [5] [5] [] hs (Zc e7 Zz) hN Zk
theorem Dp1{C0:World->S3->World->Prop}(hs:Sl 13 a l df)(e2:Lk l 2 (pT g2))(e5:Lk l 5 (ii n))(l0:Lp 24 (pT g2) (.slice od on oc) w)(k1: ∀ty,∃v w',(Builtin.append_ #[24,24] ty #[.slice od on oc,.slice (some ⟨w.heap.size,0,none⟩) 1 1]).run Tryz.prog (w.alloc (.cells #[ii n] 3))=.ok v.v w'/\C0 (w.alloc (.cells #[ii n] 3)) v w')(s2: ∀(x11:S3) (w1:World),C0 (w.alloc (.cells #[ii n] 3)) x11 w1->So 24 g2 0 (.slice x11.d x11.n x11.c) w1 [.slice x11.d x11.n x11.c])
  (hN: ∀a' (x11:S3) (w1:World),C0 (w.alloc (.cells #[ii n] 3)) x11 w1->Sl 13 a' (A6 [8,9,10,11] l) df->N a' (w1.setCells g2 0 [.slice x11.d x11.n x11.c])):Rg N Q a w (Ad2 3):=
 reg [] [8,9,10,11] [.val (.slice od on oc),.raw,.apxw S3 S3.v C0,.sto] hs (Zc e2<|Zc e5 Zz) (aI l0.run (aI k1 (fun(x11:S3) (w1:World) (hc0:C0 (w.alloc (.cells #[ii n] 3)) x11 w1)=>(aI (s2 x11 w1 hc0) (fun a'=>hN a' x11 w1 hc0))))) Zk
theorem Dp2(hs:Sl 13 a l df)(e2:Lk l 2 (pT g2))(l0:Lp 24 (pT g2) (.slice od on oc) w)
  (hN: ∀a',Sl 13 a' ((4,.slice od on oc)::A6 [4,12] l) df->N a' w):Rg N Q a w (Ad2 4):=
 reg [4] [4,12] [.val (.slice od on oc)] hs (Zc e2 Zz) (aI l0.run hN) Zk
noncomputable def Dm3 (n:Nat):Code:=((Tryz.f28.body.bind (D4 n)).getD .skip)
noncomputable def Ar4:Code:=(.seq (Dm3 0) (.seq (Dm3 1) .ret))
theorem Bf4:Tryz.f28.body=some Ar4:=by kernel_rfl
theorem Dp3(hs:Sl 4 a l df)(e0:Lk l 0 (.slice sd sn sc))
  (hN: ∀a',Sl 4 a' ((1,pT w.heap.size)::(2,.nilFunc)::A6 [1,2] l) df->N a' (w.alloc (.cells #[.slice sd sn sc] 24))):Rg N Q a w (Dm3 0):=
 reg [1,2] [1,2] [.raw] hs (Zc e0 Zz) hN Zk
theorem Dp4(hs:Sl 4 a l df)(e1:Lk l 1 (pT g1))
  (hN: ∀a',Sl 4 a' ((2,.func (.func 51) #[] #[pT g1])::A6 [2,3] l) df->N a' w):Rg N Q a w (Dm3 1):=
 reg [2] [2,3] [] hs (Zc e1 Zz) hN Zk
noncomputable def Sr (n:Nat):Code:=((Tryz.f51.body.bind (D4 n)).getD .skip)
noncomputable def Er8:Code:=(.seq (Sr 1) (.seq (.cond (.tmp 8) .skip (.exit 0)) (.seq (.block 1 (.seq (Sr 2) (.seq (Sr 3) (.cond (.tmp 14) .ret .skip)))) (Sr 4))))
noncomputable def Ar5:Code:=(.seq (Sr 0) (.block 0 (.loop Er8)))
theorem Bf5:Tryz.f51.body=some Ar5:=by kernel_rfl
theorem Dp5(hs:Sl 16 a l df)(e1:Lk l 1 (pT g1))(l0:Lp 24 (pT g1) (.slice sd sn sc) w)
  (hN: ∀a',Sl 16 a' ((5,.slice sd sn sc)::(6,ii (sn:Int))::(7,ii 0)::A6 [5,6,7] l) df->N a' w):Rg N Q a w (Sr 0):=
 reg [5,6,7] [5,6,7] [.val (.slice sd sn sc)] hs (Zc e1 Zz) (aI l0.run hN) Zk
theorem Ce2{b8:Bool}(hs:Sl 16 a l df)(e7:Lk l 7 (ii (i:Int)))(e6:Lk l 6 (ii (sn:Int)))(h0:decide ((i:Int)<(sn:Int))=b8)
  (hN: ∀a',Sl 16 a' ((8,.bool b8)::A6 [8] l) df->N a' w):Rg N Q a w (Sr 1):=
 reg [8] [8] [.bit b8] hs (Zc e7<|Zc e6 Zz) (aI h0 hN) Zk
theorem Dp6{g9 o9:Nat}(hs:Sl 16 a l df)(e5:Lk l 5 (.slice sd sn sc))(e7:Lk l 7 (ii (i:Int)))(i0:Ix 24 (.slice sd sn sc) (ii (i:Int)) (pF g9 o9))(l1:Lp 3 (pF g9 o9) (ii x) w)
  (hN: ∀a',Sl 16 a' ((4,ii x)::A6 [4,9,10] l) df->N a' w):Rg N Q a w (Sr 2):=
 reg [4] [4,9,10] [.val (pF g9 o9),.val (ii x)] hs (Zc e5<|Zc e7 Zz) (aI (i0 w) (aI l1.run hN)) Zk
theorem Dp7{yl:Nat}{x:Int}{C0:Bool->World->Prop}(hs:Sl 16 a l df)(e0:Lk l 0 (.func (.yield yl) #[] #[]))(e4:Lk l 4 (ii x))(k0:YieldAt Fence.wide 7 Tryz.prog yl #[ii x] w fun e w'=> ∃x13:Bool,e=.returned (.bool x13)/\C0 x13 w')
  (hN: ∀a' (x13:Bool) (w1:World),C0 x13 w1->Sl 16 a' ((14,.bool (!x13))::A6 [11,12,13,14] l) df->N a' w1):(Sr 3).wp Tryz.prog (Exit.then N Q) a w:=
 Ek7 (l0:=[(0,.func (.yield yl) #[] #[]),(4,ii x)]) [14] [11,12,13,14] [.ex Bool (fun x13=>.bool x13) C0] hs ⟨e0,e4,trivial⟩ (aI k0 (fun(x13:Bool) (w1:World) (hc0:C0 x13 w1)a'=>hN a' x13 w1 hc0)) Zk
theorem Dp8(hs:Sl 16 a l df)(e7:Lk l 7 (ii (i:Int)))(h0: -9223372036854775808<=(i:Int)+1/\(i:Int)+1<=9223372036854775807)
  (hN: ∀a',Sl 16 a' ((7,ii ((i:Int)+1))::A6 [7,15] l) df->N a' w):Rg N Q a w (Sr 4):=
 reg [7] [7,15] [.ari] hs (Zc e7 Zz) (aI h0 hN) Zk
noncomputable def Ad9 (n:Nat):Code:=((Tryz.f53.body.bind (D4 n)).getD .skip)
noncomputable def Ar6:Code:=(.seq (Ad9 0) (.seq (Ad9 1) (.cond (.tmp 21) (.seq (Ad9 2) (Ad9 3)) .skip)))
theorem Bf6:Tryz.f53.body=some Ar6:=by kernel_rfl
theorem Ar7{b20:Bool}(hs:Sl 38 a l df)(e7:Lk l 7 (.bool true))(e6:Lk l 6 (ii was))(h0:decide (was=0)=b20)
  (hN: ∀a',Sl 38 a' ((21,.bool b20)::A6 [17,18,19,20,21] l) df->N a' w):Rg N Q a w (Ad9 1):=
 reg [21] [17,18,19,20,21] [.bit b20] hs (Zc e7<|Zc e6 Zz) (aI h0 hN) Zk
theorem Ce3(hs:Sl 38 a l df)(e7:Lk l 7 (.bool false))
  (hN: ∀a',Sl 38 a' ((21,.bool false)::A6 [17,18,19,20,21] l) df->N a' w):Rg N Q a w (Ad9 1):=
 reg [21] [17,18,19,20,21] [] hs (Zc e7 Zz) hN Zk
theorem Ce4{ok:Bool}(hs:Sl 38 a l df)(e0:Lk l 0 (pT rp))(e1:Lk l 1 (ii n))(l0:Lp 67 (pF rp 1) (.map (some bt)) w)(l1:Lkp Tryz.prog 67 (.map (some bt)) (ii n) true (.tuple #[ii was,.bool ok]) w)
  (hN: ∀a',Sl 38 a' ((6,ii was)::(7,.bool ok)::A6 (List.range' 6 11) l) df->N a' w):Rg N Q a w (Ad9 0):=
 reg [6,7] (List.range' 6 11) [.val (.map (some bt)),.val (.tuple #[ii was,.bool ok])] hs (Zc e0<|Zc e1 Zz) (aI l0.run (aI l1.run hN)) Zk
theorem Dp9{wu6:World}(hs:Sl 38 a l df)(e0:Lk l 0 (pT rp))(e1:Lk l 1 (ii n))(e2:Lk l 2 (ii bz))(l0:Lp 67 (pF rp 1) (.map (some bt)) w)(m1:(Instr.mapUpdate 67 (.map (some bt)) (ii n) (ii bz)).run Tryz.prog w=.ok () wu6)
  (hN: ∀a',Sl 38 a' (A6 [22,23,24,25,26,27] l) df->N a' wu6):Rg N Q a w (Ad9 2):=
 reg [] [22,23,24,25,26,27] [.val (.map (some bt)),.wld wu6] hs (Zc e0<|Zc e1<|Zc e2 Zz) (aI l0.run (aI m1 hN)) Zk
theorem Dq0{C0:World->S3->World->Prop}(hs:Sl 38 a l df)(e0:Lk l 0 (pT rp))(e1:Lk l 1 (ii n))(l0:Lp 24 (pF rp 2) (.slice od on oc) w)(k1: ∀ty,∃v w',(Builtin.append_ #[24,24] ty #[.slice od on oc,.slice (some ⟨w.heap.size,0,none⟩) 1 1]).run Tryz.prog (w.alloc (.cells #[ii n] 3))=.ok v.v w'/\C0 (w.alloc (.cells #[ii n] 3)) v w')(s2: ∀(x35:S3) (w1:World),C0 (w.alloc (.cells #[ii n] 3)) x35 w1->So 24 rp 2 (.slice x35.d x35.n x35.c) w1 [.slice x35.d x35.n x35.c])
  (hN: ∀a' (x35:S3) (w1:World),C0 (w.alloc (.cells #[ii n] 3)) x35 w1->Sl 38 a' (A6 (List.range' 28 10) l) df->N a' (w1.setCells rp 2 [.slice x35.d x35.n x35.c])):Rg N Q a w (Ad9 3):=
 reg [] (List.range' 28 10) [.val (.slice od on oc),.raw,.apxw S3 S3.v C0,.sto] hs (Zc e0<|Zc e1 Zz) (aI l0.run (aI k1 (fun(x35:S3) (w1:World) (hc0:C0 (w.alloc (.cells #[ii n] 3)) x35 w1)=>(aI (s2 x35 w1 hc0) (fun a'=>hN a' x35 w1 hc0))))) Zk
noncomputable def Ei (n:Nat):Code:=((Tryz.f52.body.bind (D4 n)).getD .skip)
noncomputable def Er9:Code:=(.seq (Ei 5) (.seq (.cond (.tmp 24) .skip (.exit 0)) (.seq (.block 1 (.seq (Ei 6) (Ei 7))) (Ei 8))))
noncomputable def Ar8:Code:=(.seq (Ei 0) (.seq (.seq (Ei 1) (.cond (.tmp 10) (Ei 2) .skip)) (.seq (.seq (Ei 3) (.cond (.tmp 19) (.seq (Ei 4) (.block 0 (.loop Er9))) .skip)) (.seq (Ei 9) .ret))))
theorem Bf7:Tryz.f52.body=some Ar8:=by kernel_rfl
theorem Dq1(hs:Sl 32 a l df)(e1:Lk l 1 (.agg (d.cs m)))
  (hN: ∀a',Sl 32 a' ((3,pT w.heap.size)::(4,.slice none 0 0)::A6 [3,4] l) df->N a' (w.alloc (.cells (d.cs m) 53))):Rg N Q a w (Ei 0):=
 reg [3,4] [3,4] [.raw] hs (Zc e1 Zz) hN Zk
theorem Ce5{b10:Bool}(hs:Sl 32 a l df)(e3:Lk l 3 (pT g3))(l0:Lp 3 (pF g3 (5+0)) (ii o) w)(h1:decide (o≠0)=b10)
  (hN: ∀a',Sl 32 a' ((10,.bool b10)::A6 [7,8,9,10] l) df->N a' w):Rg N Q a w (Ei 1):=
 reg [10] [7,8,9,10] [.val (ii o),.bit b10] hs (Zc e3 Zz) (aI l0.run (aI h1 hN)) Zk
theorem Dq2{C0:World->S3->World->Prop}(hs:Sl 32 a l df)(e0:Lk l 0 (.slice od on oc))(e3:Lk l 3 (pT g3))(l0:Lp 3 (pF g3 (5+0)) (ii o) w)(k1: ∀ty,∃v w',(Builtin.append_ #[24,24] ty #[.slice od on oc,.slice (some ⟨w.heap.size,0,none⟩) 1 1]).run Tryz.prog (w.alloc (.cells #[ii o] 3))=.ok v.v w'/\C0 (w.alloc (.cells #[ii o] 3)) v w')
  (hN: ∀a' (x16:S3) (w1:World),C0 (w.alloc (.cells #[ii o] 3)) x16 w1->Sl 32 a' ((0,.slice x16.d x16.n x16.c)::A6 (0::List.range' 11 6) l) df->N a' w1):Rg N Q a w (Ei 2):=
 reg [0] (0::List.range' 11 6) [.val (ii o),.raw,.apxw S3 S3.v C0] hs (Zc e0<|Zc e3 Zz) (aI l0.run (aI k1 (fun(x16:S3) (w1:World) (hc0:C0 (w.alloc (.cells #[ii o] 3)) x16 w1)a'=>hN a' x16 w1 hc0))) Zk
theorem Ce6{k:Int}{b19:Bool}(hs:Sl 32 a l df)(e3:Lk l 3 (pT g3))(l0:Lp 3 (pT g3) (ii k) w)(h1:decide (k=8)=b19)
  (hN: ∀a',Sl 32 a' ((19,.bool b19)::A6 [17,18,19] l) df->N a' w):Rg N Q a w (Ei 3):=
 reg [19] [17,18,19] [.val (ii k),.bit b19] hs (Zc e3 Zz) (aI l0.run (aI h1 hN)) Zk
theorem Dq3(hs:Sl 32 a l df)(e3:Lk l 3 (pT g3))(l0:Lp 23 (pF g3 10) (.slice sd sn sc) w)
  (hN: ∀a',Sl 32 a' ((21,.slice sd sn sc)::(22,ii (sn:Int))::(23,ii 0)::A6 [20,21,22,23] l) df->N a' w):Rg N Q a w (Ei 4):=
 reg [21,22,23] [20,21,22,23] [.val (.slice sd sn sc)] hs (Zc e3 Zz) (aI l0.run hN) Zk
theorem Ce7{b24:Bool}(hs:Sl 32 a l df)(e23:Lk l 23 (ii (i:Int)))(e22:Lk l 22 (ii (sn:Int)))(h0:decide ((i:Int)<(sn:Int))=b24)
  (hN: ∀a',Sl 32 a' ((24,.bool b24)::A6 [24] l) df->N a' w):Rg N Q a w (Ei 5):=
 reg [24] [24] [.bit b24] hs (Zc e23<|Zc e22 Zz) (aI h0 hN) Zk
theorem Dq4{g25 o25:Nat}{x:Dt}(hs:Sl 32 a l df)(e21:Lk l 21 (.slice sd sn sc))(e23:Lk l 23 (ii (i:Int)))(i0:Ix 23 (.slice sd sn sc) (ii (i:Int)) (pF g25 o25))(l1:Lp 53 (pF g25 o25) (.agg (x.cs mx)) w)(s2:So 53 w.heap.size 0 (.agg (x.cs mx)) (w.alloc (.cells zA 53)) (x.cs mx).toList)
  (hN: ∀a',Sl 32 a' ((6,pT w.heap.size)::A6 [6,25,26] l) df->N a' ((w.alloc (.cells zA 53)).setCells w.heap.size 0 (x.cs mx).toList)):Rg N Q a w (Ei 6):=
 reg [6] [6,25,26] [.val (pF g25 o25),.val (.agg (x.cs mx)),.raw,.sto] hs (Zc e21<|Zc e23 Zz) (aI (i0 w) (aI l1.run (aI s2 hN))) Zk
theorem Dq5{g6:Nat}{x:Dt}(hs:Sl 32 a l df)(e0:Lk l 0 (.slice od on oc))(e6:Lk l 6 (pT g6))(l0:Lp 53 (pT g6) (.agg (x.cs mx)) w)(k1:Ca 52 #[.slice od on oc,.agg (x.cs mx)] w fun e w'=> ∃q:S3,e=.returned (.slice q.d q.n q.c)/\C0 q w')
  (hN: ∀a' (q:S3) (w1:World),C0 q w1->Sl 32 a' ((0,.slice q.d q.n q.c)::A6 [0,27,28,29] l) df->N a' w1):Rg N Q a w (Ei 7):=
 reg [0] [0,27,28,29] [.val (.agg (x.cs mx)),.ex (S3) (fun q=>.slice q.d q.n q.c) C0] hs (Zc e0<|Zc e6 Zz) (aI l0.run (aI k1 (fun(q:S3) (w1:World) (hc0:C0 q w1)a'=>hN a' q w1 hc0))) Zk
theorem Dq6(hs:Sl 32 a l df)(e23:Lk l 23 (ii (i:Int)))(h0: -9223372036854775808<=(i:Int)+1/\(i:Int)+1<=9223372036854775807)
  (hN: ∀a',Sl 32 a' ((23,ii ((i:Int)+1))::A6 [23,30] l) df->N a' w):Rg N Q a w (Ei 8):=
 reg [23] [23,30] [.ari] hs (Zc e23 Zz) (aI h0 hN) Zk
theorem Dq7(hs:Sl 32 a l df)(e0:Lk l 0 (.slice od on oc))
  (hN: ∀a',Sl 32 a' ((4,.slice od on oc)::A6 [4,31] l) df->N a' w):Rg N Q a w (Ei 9):=
 reg [4] [4,31] [] hs (Zc e0 Zz) hN Zk
noncomputable def J3 (n:Nat):Code:=((Tryz.f29.body.bind (D4 n)).getD .skip)
noncomputable def Dq8:Code:=(.seq (J3 25) (.seq (.cond (.tmp 82) .skip (.exit 6)) (.seq (.block 7 (.seq (J3 26) (J3 27))) (J3 28))))
noncomputable def Es0:Code:=(.seq (J3 17) (.seq (.cond (.tmp 55) .skip (.exit 4)) (.seq (.block 5 (.seq (J3 18) (J3 19))) (J3 20))))
noncomputable def Es1:Code:=(.seq (J3 11) (.seq (.cond (.tmp 43) .skip (.exit 2)) (.seq (.block 3 (.seq (J3 12) (J3 13))) (J3 14))))
noncomputable def Es2:Code:=(.seq (J3 5) (.seq (.cond (.tmp 29) .skip (.exit 0)) (.seq (.block 1 (.seq (J3 6) (J3 7))) (J3 8))))
noncomputable def Ar9:Code:=(.seq (J3 0) (.scope (.seq (J3 1) (.seq (.seq (J3 2) (.cond (.tmp 23) (.seq (J3 3) .ret) .skip)) (.seq (.seq (J3 4) (.block 0 (.loop Es2))) (.seq (J3 9) (.seq (.seq (J3 10) (.block 2 (.loop Es1))) (.seq (J3 15) (.seq (.seq (J3 16) (.block 4 (.loop Es0))) (.seq (J3 21) (.seq (.label 0) (.seq (.seq (J3 22) (.cond (.tmp 69) (.seq (J3 23) .ret) .skip)) (.seq (.seq (J3 24) (.block 6 (.loop Dq8))) (.seq (J3 29) (.goto 0)))))))))))))))
theorem Bf8:Tryz.f29.body=some Ar9:=by kernel_rfl
theorem Dq9(hs:Sl 98 a l df)
  (hN: ∀a',Sl 98 a' ((6,.pointer none)::A6 [6] l) df->N a' w):Rg N Q a w (J3 0):=
 Zg [6] hs hN
theorem Dr0(hs:Sl 98 a l df)(e0:Lk l 0 (pT gh))
  (hN: ∀a',Sl 98 a' ((7,pT ((w.alloc (.map #[] 0)).heap.size))::A6 [7,18,19,20,21] l) df->N a' ((w.alloc (.map #[] 0)).alloc (.cells #[pT gh,.map (some w.heap.size),.slice none 0 0] 69))):Rg N Q a w (J3 1):=
 reg [7] [7,18,19,20,21] [.raw,.raw,.raw] hs (Zc e0 Zz) hN Zk
theorem Dr1(hs:Sl 98 a l df)(e0:Lk l 0 (pT gh))(h0: ∀w,(binOp .eql 35 (pT gh) (.pointer none)).run Tryz.prog w=.ok (.bool b23) w)
  (hN: ∀a',Sl 98 a' ((23,.bool b23)::A6 [22,23] l) df->N a' w):Rg N Q a w (J3 2):=
 reg [23] [22,23] [.bin (.bool b23)] hs (Zc e0 Zz) (aI (G4 (x:=.tmp 22) (y:=.const (.pointer none)) Zk (h0 w)) hN) Zk
theorem Dr2(hs:Sl 98 a l df)(e0:Lk l 0 (pT gh))(k0:Ca 19 #[pT gh] w fun e w'=> ∃q:S3,e=.returned (.slice q.d q.n q.c)/\C0 q w')
  (hN: ∀a' (q:S3) (w1:World),C0 q w1->Sl 98 a' ((26,.slice q.d q.n q.c)::(27,ii (q.n:Int))::(28,ii 0)::A6 [25,26,27,28] l) df->N a' w1):Rg N Q a w (J3 4):=
 reg [26,27,28] [25,26,27,28] [.ex (S3) (fun q=>.slice q.d q.n q.c) C0] hs (Zc e0 Zz) (aI k0 (fun(q:S3) (w1:World) (hc0:C0 q w1)a'=>hN a' q w1 hc0)) Zk
theorem Ce8{b29:Bool}(hs:Sl 98 a l df)(e28:Lk l 28 (ii (i:Int)))(e27:Lk l 27 (ii (sn:Int)))(h0:decide ((i:Int)<(sn:Int))=b29)
  (hN: ∀a',Sl 98 a' ((29,.bool b29)::A6 [29] l) df->N a' w):Rg N Q a w (J3 5):=
 reg [29] [29] [.bit b29] hs (Zc e28<|Zc e27 Zz) (aI h0 hN) Zk
theorem Dr3{g30 o30:Nat}(hs:Sl 98 a l df)(e26:Lk l 26 (.slice sd sn sc))(e28:Lk l 28 (ii (i:Int)))(i0:Ix 24 (.slice sd sn sc) (ii (i:Int)) (pF g30 o30))(l1:Lp 3 (pF g30 o30) (ii x) w)
  (hN: ∀a',Sl 98 a' ((9,ii x)::A6 [9,30,31] l) df->N a' w):Rg N Q a w (J3 6):=
 reg [9] [9,30,31] [.val (pF g30 o30),.val (ii x)] hs (Zc e26<|Zc e28 Zz) (aI (i0 w) (aI l1.run hN)) Zk
theorem Dr4{wu5:World}(hs:Sl 98 a l df)(e7:Lk l 7 (pT rp))(e9:Lk l 9 (ii x))(l0:Lp 67 (pF rp 1) (.map (some bt)) w)(m1:(Instr.mapUpdate 67 (.map (some bt)) (ii x) (ii 0)).run Tryz.prog w=.ok () wu5)
  (hN: ∀a',Sl 98 a' (A6 [32,33,34,35,36] l) df->N a' wu5):Rg N Q a w (J3 7):=
 reg [] [32,33,34,35,36] [.val (.map (some bt)),.wld wu5] hs (Zc e7<|Zc e9 Zz) (aI l0.run (aI m1 hN)) Zk
theorem Dr5(hs:Sl 98 a l df)(e28:Lk l 28 (ii (i:Int)))(h0: -9223372036854775808<=(i:Int)+1/\(i:Int)+1<=9223372036854775807)
  (hN: ∀a',Sl 98 a' ((28,ii ((i:Int)+1))::A6 [28,37] l) df->N a' w):Rg N Q a w (J3 8):=
 reg [28] [28,37] [.ari] hs (Zc e28 Zz) (aI h0 hN) Zk
theorem Dr6(hs:Sl 98 a l df)(e2:Lk l 2 (.slice bd bn bc))(k0:Ca 39 #[.slice bd bn bc] w fun e w'=> ∃q:S3,e=.returned (.slice q.d q.n q.c)/\C0 q w')
  (hN: ∀a' (q:S3) (w1:World),C0 q w1->Sl 98 a' ((10,.slice q.d q.n q.c)::A6 [10,38,39] l) df->N a' w1):Rg N Q a w (J3 9):=
 reg [10] [10,38,39] [.ex (S3) (fun q=>.slice q.d q.n q.c) C0] hs (Zc e2 Zz) (aI k0 (fun(q:S3) (w1:World) (hc0:C0 q w1)a'=>hN a' q w1 hc0)) Zk
theorem Ce9(hs:Sl 98 a l df)(e1:Lk l 1 (.slice ld ln lc))
  (hN: ∀a',Sl 98 a' ((40,.slice ld ln lc)::(41,ii (ln:Int))::(42,ii 0)::A6 [40,41,42] l) df->N a' w):Rg N Q a w (J3 10):=
 reg [40,41,42] [40,41,42] [] hs (Zc e1 Zz) hN Zk
theorem As0{b43:Bool}(hs:Sl 98 a l df)(e42:Lk l 42 (ii (i:Int)))(e41:Lk l 41 (ii (ln:Int)))(h0:decide ((i:Int)<(ln:Int))=b43)
  (hN: ∀a',Sl 98 a' ((43,.bool b43)::A6 [43] l) df->N a' w):Rg N Q a w (J3 11):=
 reg [43] [43] [.bit b43] hs (Zc e42<|Zc e41 Zz) (aI h0 hN) Zk
theorem Cf0{g44 o44:Nat}(hs:Sl 98 a l df)(e40:Lk l 40 (.slice ld ln lc))(e42:Lk l 42 (ii (i:Int)))(i0:Ix 23 (.slice ld ln lc) (ii (i:Int)) (pF g44 o44))(l1:Lp 53 (pF g44 o44) (.agg (d.cs m)) w)(s2:So 53 w.heap.size 0 (.agg (d.cs m)) (w.alloc (.cells zA 53)) (d.cs m).toList)
  (hN: ∀a',Sl 98 a' ((12,pT w.heap.size)::A6 [12,44,45] l) df->N a' ((w.alloc (.cells zA 53)).setCells w.heap.size 0 (d.cs m).toList)):Rg N Q a w (J3 12):=
 reg [12] [12,44,45] [.val (pF g44 o44),.val (.agg (d.cs m)),.raw,.sto] hs (Zc e40<|Zc e42 Zz) (aI (i0 w) (aI l1.run (aI s2 hN))) Zk
theorem Cf1{g12:Nat}(hs:Sl 98 a l df)(e10:Lk l 10 (.slice od on oc))(e12:Lk l 12 (pT g12))(l0:Lp 53 (pT g12) (.agg (d.cs m)) w)(k1:Ca 52 #[.slice od on oc,.agg (d.cs m)] w fun e w'=> ∃q:S3,e=.returned (.slice q.d q.n q.c)/\C0 q w')
  (hN: ∀a' (q:S3) (w1:World),C0 q w1->Sl 98 a' ((10,.slice q.d q.n q.c)::A6 [10,46,47,48] l) df->N a' w1):Rg N Q a w (J3 13):=
 reg [10] [10,46,47,48] [.val (.agg (d.cs m)),.ex (S3) (fun q=>.slice q.d q.n q.c) C0] hs (Zc e10<|Zc e12 Zz) (aI l0.run (aI k1 (fun(q:S3) (w1:World) (hc0:C0 q w1)a'=>hN a' q w1 hc0))) Zk
theorem Cf2(hs:Sl 98 a l df)(e42:Lk l 42 (ii (i:Int)))(h0: -9223372036854775808<=(i:Int)+1/\(i:Int)+1<=9223372036854775807)
  (hN: ∀a',Sl 98 a' ((42,ii ((i:Int)+1))::A6 [42,49] l) df->N a' w):Rg N Q a w (J3 14):=
 reg [42] [42,49] [.ari] hs (Zc e42 Zz) (aI h0 hN) Zk
theorem Cf3{C0:World->Prop}(hs:Sl 98 a l df)(e10:Lk l 10 (.slice od on oc))(k0:Cl 40 #[.slice od on oc] w (.tuple #[]) C0)
  (hN: ∀a' (w1:World),C0 w1->Sl 98 a' (A6 [50,51] l) df->N a' w1):Rg N Q a w (J3 15):=
 reg [] [50,51] [.ret (.tuple #[]) C0] hs (Zc e10 Zz) (aI k0 (fun(w1:World) (hc0:C0 w1)a'=>hN a' w1 hc0)) Zk
theorem Cf4(hs:Sl 98 a l df)(e10:Lk l 10 (.slice od on oc))
  (hN: ∀a',Sl 98 a' ((52,.slice od on oc)::(53,ii (on:Int))::(54,ii 0)::A6 [52,53,54] l) df->N a' w):Rg N Q a w (J3 16):=
 reg [52,53,54] [52,53,54] [] hs (Zc e10 Zz) hN Zk
theorem As1{b55:Bool}(hs:Sl 98 a l df)(e54:Lk l 54 (ii (i:Int)))(e53:Lk l 53 (ii (on:Int)))(h0:decide ((i:Int)<(on:Int))=b55)
  (hN: ∀a',Sl 98 a' ((55,.bool b55)::A6 [55] l) df->N a' w):Rg N Q a w (J3 17):=
 reg [55] [55] [.bit b55] hs (Zc e54<|Zc e53 Zz) (aI h0 hN) Zk
theorem Cf5{g56 o56:Nat}(hs:Sl 98 a l df)(e52:Lk l 52 (.slice od on oc))(e54:Lk l 54 (ii (i:Int)))(i0:Ix 24 (.slice od on oc) (ii (i:Int)) (pF g56 o56))(l1:Lp 3 (pF g56 o56) (ii x) w)
  (hN: ∀a',Sl 98 a' ((14,ii x)::A6 [14,56,57] l) df->N a' w):Rg N Q a w (J3 18):=
 reg [14] [14,56,57] [.val (pF g56 o56),.val (ii x)] hs (Zc e52<|Zc e54 Zz) (aI (i0 w) (aI l1.run hN)) Zk
theorem Cf6{C0:World->Prop}(hs:Sl 98 a l df)(e7:Lk l 7 (pT rp))(e14:Lk l 14 (ii x))(k0:Cl 53 #[pT rp,ii x,ii x] w (.tuple #[]) C0)
  (hN: ∀a' (w1:World),C0 w1->Sl 98 a' (A6 [58,59,60,61] l) df->N a' w1):Rg N Q a w (J3 19):=
 reg [] [58,59,60,61] [.ret (.tuple #[]) C0] hs (Zc e7<|Zc e14 Zz) (aI k0 (fun(w1:World) (hc0:C0 w1)a'=>hN a' w1 hc0)) Zk
theorem Cf7(hs:Sl 98 a l df)(e54:Lk l 54 (ii (i:Int)))(h0: -9223372036854775808<=(i:Int)+1/\(i:Int)+1<=9223372036854775807)
  (hN: ∀a',Sl 98 a' ((54,ii ((i:Int)+1))::A6 [54,62] l) df->N a' w):Rg N Q a w (J3 20):=
 reg [54] [54,62] [.ari] hs (Zc e54 Zz) (aI h0 hN) Zk
theorem Cf8(hs:Sl 98 a l df)
  (hN: ∀a',Sl 98 a' ((15,ii 0)::A6 [15] l) df->N a' w):Rg N Q a w (J3 21):=
 Zg [15] hs hN
theorem As2{b69:Bool}(hs:Sl 98 a l df)(e15:Lk l 15 (ii (ai:Int)))(e7:Lk l 7 (pT rp))(l0:Lp 24 (pF rp 2) (.slice td tn tc) w)(h1:decide ((ai:Int)=(tn:Int))=b69)
  (hN: ∀a',Sl 98 a' ((69,.bool b69)::A6 (List.range' 63 7) l) df->N a' w):Rg N Q a w (J3 22):=
 reg [69] (List.range' 63 7) [.val (.slice td tn tc),.bit b69] hs (Zc e15<|Zc e7 Zz) (aI l0.run (aI h1 hN)) Zk
theorem Cf9(hs:Sl 98 a l df)(e7:Lk l 7 (pT rp))
  (hN: ∀a',Sl 98 a' ((6,pT rp)::A6 [6,70] l) df->N a' w):Rg N Q a w (J3 23):=
 reg [6] [6,70] [] hs (Zc e7 Zz) hN Zk
theorem Cg0{g77 o77:Nat}(hs:Sl 98 a l df)(e0:Lk l 0 (pT gh))(e7:Lk l 7 (pT rp))(e15:Lk l 15 (ii (ai:Int)))(l0:Lp 24 (pF rp 2) (.slice td tn tc) w)(i1:Ix 24 (.slice td tn tc) (ii (ai:Int)) (pF g77 o77))(l2:Lp 3 (pF g77 o77) (ii n) w)(k3:Ca 21 #[pT gh,ii n] w fun e w'=> ∃q:S3,e=.returned (.slice q.d q.n q.c)/\C0 q w')
  (hN: ∀a' (q:S3) (w1:World),C0 q w1->Sl 98 a' ((79,.slice q.d q.n q.c)::(80,ii (q.n:Int))::(81,ii 0)::A6 (List.range' 71 11) l) df->N a' w1):Rg N Q a w (J3 24):=
 reg [79,80,81] (List.range' 71 11) [.val (.slice td tn tc),.val (pF g77 o77),.val (ii n),.ex (S3) (fun q=>.slice q.d q.n q.c) C0] hs (Zc e0<|Zc e7<|Zc e15 Zz) (aI l0.run (aI (i1 w) (aI l2.run (aI k3 (fun(q:S3) (w1:World) (hc0:C0 q w1)a'=>hN a' q w1 hc0))))) Zk
theorem As3{b82:Bool}(hs:Sl 98 a l df)(e81:Lk l 81 (ii (i:Int)))(e80:Lk l 80 (ii (sn:Int)))(h0:decide ((i:Int)<(sn:Int))=b82)
  (hN: ∀a',Sl 98 a' ((82,.bool b82)::A6 [82] l) df->N a' w):Rg N Q a w (J3 25):=
 reg [82] [82] [.bit b82] hs (Zc e81<|Zc e80 Zz) (aI h0 hN) Zk
theorem Cg1{g83 o83:Nat}(hs:Sl 98 a l df)(e79:Lk l 79 (.slice sd sn sc))(e81:Lk l 81 (ii (i:Int)))(i0:Ix 24 (.slice sd sn sc) (ii (i:Int)) (pF g83 o83))(l1:Lp 3 (pF g83 o83) (ii x) w)
  (hN: ∀a',Sl 98 a' ((17,ii x)::A6 [17,83,84] l) df->N a' w):Rg N Q a w (J3 26):=
 reg [17] [17,83,84] [.val (pF g83 o83),.val (ii x)] hs (Zc e79<|Zc e81 Zz) (aI (i0 w) (aI l1.run hN)) Zk
theorem Cg2{g92 o92:Nat}{C0:World->Prop}(hs:Sl 98 a l df)(e7:Lk l 7 (pT rp))(e17:Lk l 17 (ii x))(e15:Lk l 15 (ii (ai:Int)))(l0:Lp 24 (pF rp 2) (.slice td tn tc) w)(i1:Ix 24 (.slice td tn tc) (ii (ai:Int)) (pF g92 o92))(l2:Lp 3 (pF g92 o92) (ii n) w)(k3:Cl 53 #[pT rp,ii x,ii n] w (.tuple #[]) C0)
  (hN: ∀a' (w1:World),C0 w1->Sl 98 a' (A6 (List.range' 85 10) l) df->N a' w1):Rg N Q a w (J3 27):=
 reg [] (List.range' 85 10) [.val (.slice td tn tc),.val (pF g92 o92),.val (ii n),.ret (.tuple #[]) C0] hs (Zc e7<|Zc e17<|Zc e15 Zz) (aI l0.run (aI (i1 w) (aI l2.run (aI k3 (fun(w1:World) (hc0:C0 w1)a'=>hN a' w1 hc0))))) Zk
theorem Cg3(hs:Sl 98 a l df)(e81:Lk l 81 (ii (i:Int)))(h0: -9223372036854775808<=(i:Int)+1/\(i:Int)+1<=9223372036854775807)
  (hN: ∀a',Sl 98 a' ((81,ii ((i:Int)+1))::A6 [81,95] l) df->N a' w):Rg N Q a w (J3 28):=
 reg [81] [81,95] [.ari] hs (Zc e81 Zz) (aI h0 hN) Zk
theorem Cg4(hs:Sl 98 a l df)(e15:Lk l 15 (ii (ai:Int)))(h0: -9223372036854775808<=(ai:Int)+1/\(ai:Int)+1<=9223372036854775807)
  (hN: ∀a',Sl 98 a' ((15,ii ((ai:Int)+1))::A6 [15,96,97] l) df->N a' w):Rg N Q a w (J3 29):=
 reg [15] [15,96,97] [.ari] hs (Zc e15 Zz) (aI h0 hN) Zk
noncomputable def Dm4 (n:Nat):Code:=((Tryz.f12.body.bind (D4 n)).getD .skip)
noncomputable def As4:Code:=(.seq (Dm4 0) (.seq (Dm4 1) .ret))
theorem Bf9:Tryz.f12.body=some As4:=by kernel_rfl
theorem Dr7(hs:Sl 16 a l df)
  (hN: ∀a',Sl 16 a' ((6,.slice none 0 0)::A6 [6] l) df->N a' w):Rg N Q a w (Dm4 0):=
 Zg [6] hs hN
theorem Dr8{C0:Nat->World->Prop}{C3:S3->World->Prop}{C2:Value->World->Prop}(hs:Sl 16 a l df)(e0:Lk l 0 (pT gh))(e1:Lk l 1 (.slice ld ln lc))(e2:Lk l 2 (.slice bd bn bc))(k0:Ca 29 #[pT gh,.slice ld ln lc,.slice bd bn bc] w fun e w'=> ∃rp:Nat,e=.returned (pT rp)/\C0 rp w')(l1: ∀(rp:Nat) (w1:World),C0 rp w1->∃z:S3,Lp 24 (pF rp 2) (.slice z.d z.n z.c) w1/\C1 z w1)(k2: ∀(rp:Nat) (w1:World),C0 rp w1->∀(z:S3),C1 z w1->Ca 28 #[.slice z.d z.n z.c] w1 fun e w'=> ∃x:Value,e=.returned (x)/\C2 x w')(k3: ∀(rp:Nat) (w1:World),C0 rp w1->∀(z:S3),C1 z w1->∀(x:Value) (w3:World),C2 x w3->Ca 27 #[x] w3 fun e w'=> ∃q:S3,e=.returned (.slice q.d q.n q.c)/\C3 q w')
  (hN: ∀a' (rp:Nat) (w1:World) (z:S3) (x:Value) (w3:World) (q:S3) (w4:World),C0 rp w1->C1 z w1->C2 x w3->C3 q w4->Sl 16 a' ((6,.slice q.d q.n q.c)::A6 (List.range' 6 10) l) df->N a' w4):Rg N Q a w (Dm4 1):=
 reg [6] (List.range' 6 10) [.ex (Nat) (fun rp=>pT rp) C0,.vx (S3) (fun z=>.slice z.d z.n z.c) C1,.ex (Value) (fun x=>x) C2,.ex (S3) (fun q=>.slice q.d q.n q.c) C3] hs (Zc e0<|Zc e1<|Zc e2 Zz) (aI k0 (fun(rp:Nat) (w1:World) (hc0:C0 rp w1)=>(aI (Lds.vx (l1 rp w1 hc0)) (fun(z:S3) (hc1:C1 z w1)=>(aI (k2 rp w1 hc0 z hc1) (fun(x:Value) (w3:World) (hc2:C2 x w3)=>(aI (k3 rp w1 hc0 z hc1 x w3 hc2) (fun(q:S3) (w4:World) (hc3:C3 q w4)a'=>hN a' rp w1 z x w3 q w4 hc0 hc1 hc2 hc3)))))))) Zk
noncomputable def Ej (n:Nat):Code:=((Tryz.f18.body.bind (D4 n)).getD .skip)
noncomputable def Es3:Code:=(.seq (Ej 3) (.seq (.cond (.tmp 23) .skip (.exit 0)) (.seq (.block 1 (.seq (Ej 4) (.seq (Ej 5) (.cond (.tmp 37) (Ej 6) .skip)))) (Ej 7))))
noncomputable def As5:Code:=(.seq (Ej 0) (.seq (Ej 1) (.seq (.seq (Ej 2) (.block 0 (.loop Es3))) (.seq (Ej 8) .ret))))
theorem Bg0:Tryz.f18.body=some As5:=by kernel_rfl
theorem Ae0{b36:Bool}{C0:World->Prop}(hs:Sl 42 a l df)(e7:Lk l 7 (pT rp))(e10:Lk l 10 (ii n))(e0:Lk l 0 (pT gh))(l0:Lp 67 (pF rp 1) (.map (some bt)) w)(l1:Lkp Tryz.prog 67 (.map (some bt)) (ii n) false (ii was) w)(h2:decide (was=0)=true)(k3:Cl 36 #[pT gh,ii n] w (.bool b36) C0)
  (hN: ∀a' (w1:World),C0 w1->Sl 42 a' ((37,.bool b36)::A6 (List.range' 26 12) l) df->N a' w1):Rg N Q a w (Ej 5):=
 reg [37] (List.range' 26 12) [.val (.map (some bt)),.val (ii was),.bit true,.ret (.bool b36) C0] hs (Zc e7<|Zc e10<|Zc e0 Zz) (aI l0.run (aI l1.run (aI h2 (aI k3 (fun(w1:World) (hc0:C0 w1)a'=>hN a' w1 hc0))))) Zk
theorem Ae1(hs:Sl 42 a l df)(e7:Lk l 7 (pT rp))(e10:Lk l 10 (ii n))(l0:Lp 67 (pF rp 1) (.map (some bt)) w)(l1:Lkp Tryz.prog 67 (.map (some bt)) (ii n) false (ii was) w)(h2:decide (was=0)=false)
  (hN: ∀a',Sl 42 a' ((37,.bool false)::A6 (List.range' 26 12) l) df->N a' w):Rg N Q a w (Ej 5):=
 reg [37] (List.range' 26 12) [.val (.map (some bt)),.val (ii was),.bit false] hs (Zc e7<|Zc e10 Zz) (aI l0.run (aI l1.run (aI h2 hN))) Zk
theorem Dr9(hs:Sl 42 a l df)
  (hN: ∀a',Sl 42 a' ((6,ii 0)::A6 [6] l) df->N a' w):Rg N Q a w (Ej 0):=
 Zg [6] hs hN
theorem Ds0{C0:Nat->World->Prop}(hs:Sl 42 a l df)(e0:Lk l 0 (pT gh))(e1:Lk l 1 (.slice ld ln lc))(e2:Lk l 2 (.slice bd bn bc))(k0:Ca 29 #[pT gh,.slice ld ln lc,.slice bd bn bc] w fun e w'=> ∃rp:Nat,e=.returned (pT rp)/\C0 rp w')
  (hN: ∀a' (rp:Nat) (w1:World),C0 rp w1->Sl 42 a' ((7,pT rp)::(8,ii 0)::A6 [7,8,11,12,13,14] l) df->N a' w1):Rg N Q a w (Ej 1):=
 reg [7,8] [7,8,11,12,13,14] [.ex (Nat) (fun rp=>pT rp) C0] hs (Zc e0<|Zc e1<|Zc e2 Zz) (aI k0 (fun(rp:Nat) (w1:World) (hc0:C0 rp w1)a'=>hN a' rp w1 hc0)) Zk
theorem Ds1{C0:Value->World->Prop}(hs:Sl 42 a l df)(e7:Lk l 7 (pT rp))(l0:Lp 67 (pF rp 1) (.map (some bt)) w)(k1:Ca 35 #[.map (some bt)] w fun e w'=> ∃x:Value,e=.returned (x)/\C0 x w')(k2: ∀(x:Value) (w1:World),C0 x w1->Ca 27 #[x] w1 fun e w'=> ∃q:S3,e=.returned (.slice q.d q.n q.c)/\C1 q w')
  (hN: ∀a' (x:Value) (w1:World) (q:S3) (w2:World),C0 x w1->C1 q w2->Sl 42 a' ((20,.slice q.d q.n q.c)::(21,ii (q.n:Int))::(22,ii 0)::A6 (List.range' 15 8) l) df->N a' w2):Rg N Q a w (Ej 2):=
 reg [20,21,22] (List.range' 15 8) [.val (.map (some bt)),.ex (Value) (fun x=>x) C0,.ex (S3) (fun q=>.slice q.d q.n q.c) C1] hs (Zc e7 Zz) (aI l0.run (aI k1 (fun(x:Value) (w1:World) (hc0:C0 x w1)=>(aI (k2 x w1 hc0) (fun(q:S3) (w2:World) (hc1:C1 q w2)a'=>hN a' x w1 q w2 hc0 hc1))))) Zk
theorem Cg5(hs:Sl 42 a l df)(e22:Lk l 22 (ii (i:Int)))(e21:Lk l 21 (ii (sn:Int)))(h0:decide ((i:Int)<(sn:Int))=b23)
  (hN: ∀a',Sl 42 a' ((23,.bool b23)::A6 [23] l) df->N a' w):Rg N Q a w (Ej 3):=
 reg [23] [23] [.bit b23] hs (Zc e22<|Zc e21 Zz) (aI h0 hN) Zk
theorem Ds2{g24 o24:Nat}(hs:Sl 42 a l df)(e20:Lk l 20 (.slice sd sn sc))(e22:Lk l 22 (ii (i:Int)))(i0:Ix 24 (.slice sd sn sc) (ii (i:Int)) (pF g24 o24))(l1:Lp 3 (pF g24 o24) (ii n) w)
  (hN: ∀a',Sl 42 a' ((10,ii n)::A6 [10,24,25] l) df->N a' w):Rg N Q a w (Ej 4):=
 reg [10] [10,24,25] [.val (pF g24 o24),.val (ii n)] hs (Zc e20<|Zc e22 Zz) (aI (i0 w) (aI l1.run hN)) Zk
theorem Ds3(hs:Sl 42 a l df)(e8:Lk l 8 (ii (c:Int)))(h0: -9223372036854775808<=(c:Int)+1/\(c:Int)+1<=9223372036854775807)
  (hN: ∀a',Sl 42 a' ((8,ii ((c:Int)+1))::A6 [8,38,39] l) df->N a' w):Rg N Q a w (Ej 6):=
 reg [8] [8,38,39] [.ari] hs (Zc e8 Zz) (aI h0 hN) Zk
theorem Ds4(hs:Sl 42 a l df)(e22:Lk l 22 (ii (i:Int)))(h0: -9223372036854775808<=(i:Int)+1/\(i:Int)+1<=9223372036854775807)
  (hN: ∀a',Sl 42 a' ((22,ii ((i:Int)+1))::A6 [22,40] l) df->N a' w):Rg N Q a w (Ej 7):=
 reg [22] [22,40] [.ari] hs (Zc e22 Zz) (aI h0 hN) Zk
theorem Ds5(hs:Sl 42 a l df)(e8:Lk l 8 (ii (c:Int)))
  (hN: ∀a',Sl 42 a' ((6,ii (c:Int))::A6 [6,41] l) df->N a' w):Rg N Q a w (Ej 8):=
 reg [6] [6,41] [] hs (Zc e8 Zz) hN Zk
noncomputable def Fa (n:Nat):Code:=((Tryz.f13.body.bind (D4 n)).getD .skip)
noncomputable def Ds6:Code:=(.seq (.seq (Fa 5) (.cond (.tmp 31) .skip (.exit 0))) (.block 1 (.seq (Fa 6) (Fa 7))))
noncomputable def As6:Code:=(.seq (Fa 0) (.seq (Fa 1) (.seq (.seq (Fa 2) (.cond (.tmp 21) (.seq (Fa 3) .ret) .skip)) (.seq (Fa 4) (.seq (.block 0 (.loop Ds6)) (.seq (Fa 8) (.seq (Fa 9) .ret)))))))
theorem Bg1:Tryz.f13.body=some As6:=by kernel_rfl
theorem Ds7(hs:Sl 45 a l df)
  (hN: ∀a',Sl 45 a' ((8,.slice none 0 0)::A6 [8] l) df->N a' w):Rg N Q a w (Fa 0):=
 Zg [8] hs hN
theorem Ds8{C0:Nat->World->Prop}(hs:Sl 45 a l df)(e0:Lk l 0 (pT gh))(e1:Lk l 1 (.slice ld ln lc))(e2:Lk l 2 (.slice bd bn bc))(k0:Ca 29 #[pT gh,.slice ld ln lc,.slice bd bn bc] w fun e w'=> ∃rp:Nat,e=.returned (pT rp)/\C0 rp w')
  (hN: ∀a' (rp:Nat) (w1:World),C0 rp w1->Sl 45 a' ((9,pT rp)::A6 [9,11,12,13,14] l) df->N a' w1):Rg N Q a w (Fa 1):=
 reg [9] [9,11,12,13,14] [.ex (Nat) (fun rp=>pT rp) C0] hs (Zc e0<|Zc e1<|Zc e2 Zz) (aI k0 (fun(rp:Nat) (w1:World) (hc0:C0 rp w1)a'=>hN a' rp w1 hc0)) Zk
theorem Cg6{b21:Bool}(hs:Sl 45 a l df)(e9:Lk l 9 (pT rp))(e3:Lk l 3 (ii tz))(l0:Lp 67 (pF rp 1) (.map (some bt)) w)(l1:Lkp Tryz.prog 67 (.map (some bt)) (ii tz) false (ii bz) w)(h2:decide (bz=0)=b21)
  (hN: ∀a',Sl 45 a' ((21,.bool b21)::A6 (List.range' 15 7) l) df->N a' w):Rg N Q a w (Fa 2):=
 reg [21] (List.range' 15 7) [.val (.map (some bt)),.val (ii bz),.bit b21] hs (Zc e9<|Zc e3 Zz) (aI l0.run (aI l1.run (aI h2 hN))) Zk
theorem Ds9(hs:Sl 45 a l df)
  (hN: ∀a',Sl 45 a' ((8,.slice none 0 0)::A6 [8] l) df->N a' w):Rg N Q a w (Fa 3):=
 Zg [8] hs hN
theorem Dt0(hs:Sl 45 a l df)(e3:Lk l 3 (ii tz))
  (hN: ∀a',Sl 45 a' ((10,.slice (some ⟨w.heap.size,0,none⟩) 1 1)::A6 [10,22,23] l) df->N a' (w.alloc (.cells #[ii tz] 3))):Rg N Q a w (Fa 4):=
 reg [10] [10,22,23] [.raw] hs (Zc e3 Zz) hN Zk
theorem Cg7{b31:Bool}(hs:Sl 45 a l df)(e9:Lk l 9 (pT rp))(e3:Lk l 3 (ii tz))(l0:Lp 67 (pF rp 1) (.map (some bt)) w)(l1:Lkp Tryz.prog 67 (.map (some bt)) (ii tz) false (ii bz) w)(h2:decide (bz≠tz)=b31)
  (hN: ∀a',Sl 45 a' ((31,.bool b31)::A6 (List.range' 24 8) l) df->N a' w):Rg N Q a w (Fa 5):=
 reg [31] (List.range' 24 8) [.val (.map (some bt)),.val (ii bz),.bit b31] hs (Zc e9<|Zc e3 Zz) (aI l0.run (aI l1.run (aI h2 hN))) Zk
theorem Dt1(hs:Sl 45 a l df)(e9:Lk l 9 (pT rp))(e3:Lk l 3 (ii tz))(l0:Lp 67 (pF rp 1) (.map (some bt)) w)(l1:Lkp Tryz.prog 67 (.map (some bt)) (ii tz) false (ii bz) w)
  (hN: ∀a',Sl 45 a' ((3,ii bz)::A6 (3::List.range' 32 6) l) df->N a' w):Rg N Q a w (Fa 6):=
 reg [3] (3::List.range' 32 6) [.val (.map (some bt)),.val (ii bz)] hs (Zc e9<|Zc e3 Zz) (aI l0.run (aI l1.run hN)) Zk
theorem Dt2{C0:World->S3->World->Prop}(hs:Sl 45 a l df)(e10:Lk l 10 (.slice od on oc))(e3:Lk l 3 (ii tz))(k0: ∀ty,∃v w',(Builtin.append_ #[24,24] ty #[.slice od on oc,.slice (some ⟨w.heap.size,0,none⟩) 1 1]).run Tryz.prog (w.alloc (.cells #[ii tz] 3))=.ok v.v w'/\C0 (w.alloc (.cells #[ii tz] 3)) v w')
  (hN: ∀a' (x41:S3) (w1:World),C0 (w.alloc (.cells #[ii tz] 3)) x41 w1->Sl 45 a' ((10,.slice x41.d x41.n x41.c)::A6 [10,38,39,40,41] l) df->N a' w1):Rg N Q a w (Fa 7):=
 reg [10] [10,38,39,40,41] [.raw,.apxw S3 S3.v C0] hs (Zc e10<|Zc e3 Zz) (aI k0 (fun(x41:S3) (w1:World) (hc0:C0 (w.alloc (.cells #[ii tz] 3)) x41 w1)a'=>hN a' x41 w1 hc0)) Zk
theorem Dt3{C0:World->Prop}(hs:Sl 45 a l df)(e10:Lk l 10 (.slice od on oc))(k0:Cl 30 #[.slice od on oc] w (.tuple #[]) C0)
  (hN: ∀a' (w1:World),C0 w1->Sl 45 a' (A6 [42,43] l) df->N a' w1):Rg N Q a w (Fa 8):=
 reg [] [42,43] [.ret (.tuple #[]) C0] hs (Zc e10 Zz) (aI k0 (fun(w1:World) (hc0:C0 w1)a'=>hN a' w1 hc0)) Zk
theorem Dt4(hs:Sl 45 a l df)(e10:Lk l 10 (.slice od on oc))
  (hN: ∀a',Sl 45 a' ((8,.slice od on oc)::A6 [8,44] l) df->N a' w):Rg N Q a w (Fa 9):=
 reg [8] [8,44] [] hs (Zc e10 Zz) hN Zk
end Go.Proofs.YtbjegfpfmnleeaaGreatDoor
