/-
   Written by an AI agent.
-/
import Derived.Test.YtbjegfpfmnleeaaGreatDoorPk13
namespace Go.Proofs.YtbjegfpfmnleeaaGreatDoor
open Go.RowKit Go.Sort
set_option maxRecDepth 100000
variable {a:Act} {w:World} {df:List Deferred} {N:Act->World->Prop} {Q:Exit->Act->World->Prop} {l:List (Nat×Value)}
variable {C0:S3->World->Prop} {b g1 g5 g6 gh i n oc on sc sn:Nat} {b10:Bool} {d:Dt} {m:Dm} {o:Int} {od sd:Option Addr} {x:Value}
noncomputable def Dm6 (n:Nat):Code:=((Tryz.f25.body.bind (D4 n)).getD .skip)
noncomputable def As9:Code:=(.seq (Dm6 0) (.seq (Dm6 1) .ret))
theorem Bh5:Tryz.f25.body=some As9:=by kernel_rfl
theorem Dt9(hs:Sl 4 a l df)
  (hN: ∀a',Sl 4 a' ((0,.pointer none)::A6 [0] l) df->N a' w):Rg N Q a w (Dm6 0):=
 Zg [0] hs hN
theorem Du0(hs:Sl 4 a l df)
  (hN: ∀a',Sl 4 a' ((0,pT ((w.alloc (.map #[] 0)).heap.size))::A6 [0,1,2,3] l) df->N a' ((w.alloc (.map #[] 0)).alloc (.cells #[.map (some w.heap.size),ii 0] 83))):Rg N Q a w (Dm6 1):=
 reg [0] [0,1,2,3] [.raw,.raw,.raw] hs Zz hN Zk
noncomputable def Tr (n:Nat):Code:=((Tryz.f92.body.bind (D4 n)).getD .skip)
noncomputable def At0:Code:=(.seq (Tr 0) (.seq (.seq (Tr 1) (.cond (.tmp 10) (.seq (Tr 2) .ret) .skip)) (.seq (Tr 3) (.seq (Tr 4) (.seq (Tr 5) .ret)))))
theorem Bh6:Tryz.f92.body=some At0:=by kernel_rfl
theorem Du1(hs:Sl 32 a l df)
  (hN: ∀a',Sl 32 a' ((4,ii 0)::(5,.nilIface)::A6 [4,5] l) df->N a' w):Rg N Q a w (Tr 0):=
 reg [4,5] [4,5] [] hs Zz hN Zk
theorem Du2(hs:Sl 32 a l df)(e0:Lk l 0 (pT gh))(l0:Lp 3 (pF gh 1) (ii (n:Int)) w)(h1:decide ((2147483647:Int)<=(n:Int))=b10)
  (hN: ∀a',Sl 32 a' ((10,.bool b10)::A6 [6,7,8,9,10] l) df->N a' w):Rg N Q a w (Tr 1):=
 reg [10] [6,7,8,9,10] [.val (ii (n:Int)),.bit b10] hs (Zc e0 Zz) (aI l0.run (aI h1 hN)) Zk
theorem Du3(hs:Sl 32 a l df)(e0:Lk l 0 (pT gh))(l0:Lp 3 (pF gh 1) (ii (n:Int)) w)(h1: -9223372036854775808<=(n:Int)+1/\(n:Int)+1<=9223372036854775807)(s2:So 3 gh 1 (ii ((n:Int)+1)) w [ii ((n:Int)+1)])
  (hN: ∀a',Sl 32 a' (A6 (List.range' 12 7) l) df->N a' (w.setCells gh 1 [ii ((n:Int)+1)])):Rg N Q a w (Tr 3):=
 reg [] (List.range' 12 7) [.val (ii (n:Int)),.ari,.sto] hs (Zc e0 Zz) (aI l0.run (aI h1 (aI s2 hN))) Zk
theorem Du4{wu9:World}(hs:Sl 32 a l df)(e0:Lk l 0 (pT gh))(e1:Lk l 1 (x))(l0:Lp 79 (pT gh) (.map (some b)) w)(l1:Lp 3 (pF gh 1) (ii (n:Int)) w)(m2:(Instr.mapUpdate 79 (.map (some b)) (ii (n:Int)) (x)).run Tryz.prog (w.drewN 1)=.ok () wu9)
  (hN: ∀a',Sl 32 a' (A6 (List.range' 19 9) l) df->N a' wu9):Rg N Q a w (Tr 4):=
 Ew5 9 [] (List.range' 19 9) [.val (.map (some b)),.val (ii (n:Int))] [.wld wu9] hs (Zc e0<|Zc e1 Zz) (aI l0 (aI l1 (aI m2 hN))) Zk
theorem Du5(hs:Sl 32 a l df)(e0:Lk l 0 (pT gh))(l0:Lp 3 (pF gh 1) (ii (n:Int)) w)
  (hN: ∀a',Sl 32 a' ((4,ii (n:Int))::(5,.nilIface)::A6 [4,5,28,29,30,31] l) df->N a' w):Rg N Q a w (Tr 5):=
 reg [4,5] [4,5,28,29,30,31] [.val (ii (n:Int))] hs (Zc e0 Zz) (aI l0.run hN) Zk
noncomputable def Dm7 (n:Nat):Code:=((Tryz.f19.body.bind (D4 n)).getD .skip)
noncomputable def At1:Code:=(.seq (Dm7 0) (.seq (Dm7 1) .ret))
theorem Bh7:Tryz.f19.body=some At1:=by kernel_rfl
theorem Du6(hs:Sl 9 a l df)
  (hN: ∀a',Sl 9 a' ((2,.slice none 0 0)::A6 [2] l) df->N a' w):Rg N Q a w (Dm7 0):=
 Zg [2] hs hN
theorem Du7{v6:Value}{C0 C1:Value->World->Prop}(hs:Sl 9 a l df)(e0:Lk l 0 (pT gh))(l0:Lp 79 (pT gh) (v6) w)(k1:Ca 37 #[v6] w fun e w'=> ∃x7,e=.returned x7/\C0 x7 w')(k2: ∀(x7:Value) (w1:World),C0 x7 w1->Ca 27 #[x7] w1 fun e w'=> ∃x8,e=.returned x8/\C1 x8 w')
  (hN: ∀a' (x7:Value) (w1:World) (x8:Value) (w2:World),C0 x7 w1->C1 x8 w2->Sl 9 a' ((2,x8)::A6 (List.range' 2 7) l) df->N a' w2):Rg N Q a w (Dm7 1):=
 reg [2] (List.range' 2 7) [.val (v6),.con C0,.con C1] hs (Zc e0 Zz) (aI l0.run (aI k1 (fun(x7:Value) (w1:World) (hc0:C0 x7 w1)=>(aI (k2 x7 w1 hc0) (fun(x8:Value) (w2:World) (hc1:C1 x8 w2)a'=>hN a' x7 w1 x8 w2 hc0 hc1))))) Zk
noncomputable def At2 (n:Nat):Code:=((Tryz.f36.body.bind (D4 n)).getD .skip)
noncomputable def At3:Code:=(.seq (At2 0) (.seq (At2 1) (.seq (At2 2) (.seq (At2 3) .ret))))
theorem Bh8:Tryz.f36.body=some At3:=by kernel_rfl
theorem Du8(hs:Sl 22 a l df)
  (hN: ∀a',Sl 22 a' ((4,.bool false)::A6 [4] l) df->N a' w):Rg N Q a w (At2 0):=
 Zg [4] hs hN
theorem Du9{n:Int}{v:Value}{b13:Bool}(hs:Sl 22 a l df)(e0:Lk l 0 (pT gh))(e1:Lk l 1 (ii n))(l0:Lp 79 (pT gh) (.map (some b)) w)(l1:Lkp Tryz.prog 79 (.map (some b)) (ii n) true (.tuple #[v,.bool b13]) w)
  (hN: ∀a',Sl 22 a' ((6,.bool b13)::A6 (List.range' 5 11) l) df->N a' w):Rg N Q a w (At2 1):=
 reg [6] (List.range' 5 11) [.val (.map (some b)),.val (.tuple #[v,.bool b13])] hs (Zc e0<|Zc e1 Zz) (aI l0.run (aI l1.run hN)) Zk
theorem Dv0{n:Int}{wd5:World}(hs:Sl 22 a l df)(e0:Lk l 0 (pT gh))(e1:Lk l 1 (ii n))(l0:Lp 79 (pT gh) (.map (some b)) w)(m1: ∀ty,∃v,(Builtin.delete_ #[79,3] ty #[.map (some b),ii n]).run Tryz.prog w=.ok v wd5)
  (hN: ∀a',Sl 22 a' (A6 [16,17,18,19,20] l) df->N a' wd5):Rg N Q a w (At2 2):=
 reg [] [16,17,18,19,20] [.val (.map (some b)),.wld wd5] hs (Zc e0<|Zc e1 Zz) (aI l0.run (aI m1 (fun(_:Value)=>hN))) Zk
theorem Dv1{b6:Bool}(hs:Sl 22 a l df)(e6:Lk l 6 (.bool b6))
  (hN: ∀a',Sl 22 a' ((4,.bool b6)::A6 [4,21] l) df->N a' w):Rg N Q a w (At2 3):=
 reg [4] [4,21] [] hs (Zc e6 Zz) hN Zk
noncomputable def Ts (n:Nat):Code:=((Tryz.f88.body.bind (D4 n)).getD .skip)
noncomputable def At4:Code:=(.seq (Ts 0) (.seq (Ts 1) (.seq (.seq (Ts 2) (.cond (.tmp 17) (.seq (Ts 3) .ret) .skip)) (.seq (Ts 4) (.seq (Ts 5) .ret)))))
theorem Bh9:Tryz.f88.body=some At4:=by kernel_rfl
theorem Dv2(hs:Sl 24 a l df)(e2:Lk l 2 (.agg (d.cs m)))
  (hN: ∀a',Sl 24 a' ((5,pT w.heap.size)::(6,pT ((w.alloc (.cells (d.cs m) 53)).heap.size))::(7,.nilIface)::A6 [5,6,7] l) df->N a' ((w.alloc (.cells (d.cs m) 53)).alloc (.cells zA 53))):Rg N Q a w (Ts 0):=
 reg [5,6,7] [5,6,7] [.raw,.raw] hs (Zc e2 Zz) hN Zk
theorem Dv3{z:Value}{C0:World->Prop}(hs:Sl 24 a l df)(e0:Lk l 0 (pT gh))(e1:Lk l 1 (x))(k0:Cl 92 #[pT gh,x] w (.tuple #[ii (n:Int),z]) C0)
  (hN: ∀a' (w1:World),C0 w1->Sl 24 a' ((8,ii (n:Int))::(9,z)::A6 (List.range' 8 8) l) df->N a' w1):Rg N Q a w (Ts 1):=
 reg [8,9] (List.range' 8 8) [.ret (.tuple #[ii (n:Int),z]) C0] hs (Zc e0<|Zc e1 Zz) (aI k0 (fun(w1:World) (hc0:C0 w1)a'=>hN a' w1 hc0)) Zk
theorem Dv4(hs:Sl 24 a l df)(e8:Lk l 8 (ii (n:Int)))(e5:Lk l 5 (pT g5))(s0:So 3 g5 (5+0) (ii (n:Int)) w [ii (n:Int)])
  (hN: ∀a',Sl 24 a' (A6 [20,21,22] l) df->N a' (w.setCells g5 (5+0) [ii (n:Int)])):Rg N Q a w (Ts 4):=
 reg [] [20,21,22] [.sto] hs (Zc e8<|Zc e5 Zz) (aI s0 hN) Zk
theorem Dv5(hs:Sl 24 a l df)(e5:Lk l 5 (pT g5))(e6:Lk l 6 (pT g6))(l0:Lp 53 (pT g5) (.agg (d.cs m)) w)(s1:So 53 g6 0 (.agg (d.cs m)) w (d.cs m).toList)
  (hN: ∀a',Sl 24 a' ((7,.nilIface)::A6 [7,23] l) df->N a' (w.setCells g6 0 (d.cs m).toList)):Rg N Q a w (Ts 5):=
 reg [7] [7,23] [.val (.agg (d.cs m)),.sto] hs (Zc e5<|Zc e6 Zz) (aI l0.run (aI s1 hN)) Zk
theorem Ch7(hs:Sl 24 a l df)(e9:Lk l 9 (.nilIface))
  (hN: ∀a',Sl 24 a' ((17,.bool false)::A6 [16,17] l) df->N a' w):Rg N Q a w (Ts 2):=
 reg [17] [16,17] [.raw] hs (Zc e9 Zz) hN Zk
noncomputable def Ja (n:Nat):Code:=((Tryz.f68.body.bind (D4 n)).getD .skip)
noncomputable def Tt:Code:=(.seq (Ja 0) (.seq (Ja 1) (.seq (Ja 2) (.seq (Ja 3) .ret))))
theorem Af3:Tryz.f68.body=some Tt:=by kernel_rfl
theorem Ch8(hs:Sl 14 a l df)(e0:Lk l 0 (.agg (d.cs m)))
  (hN: ∀a',Sl 14 a' ((1,pT w.heap.size)::(2,pT ((w.alloc (.cells (d.cs m) 53)).heap.size))::A6 [1,2] l) df->N a' ((w.alloc (.cells (d.cs m) 53)).alloc (.cells zA 53))):Rg N Q a w (Ja 0):=
 reg [1,2] [1,2] [.raw,.raw] hs (Zc e0 Zz) hN Zk
theorem Ch9{pn pc:Nat}{pd:Option Addr}(hs:Sl 14 a l df)(e1:Lk l 1 (pT g1))(l0:Lp 24 (pF g1 (5+4)) (.slice pd pn pc) w)(k1:Ca 39 #[.slice pd pn pc] w fun e w'=> ∃q:S3,e=.returned (.slice q.d q.n q.c)/\C0 q w')(s2: ∀(q:S3) (w1:World),C0 q w1->So 24 g1 (5+4) (.slice q.d q.n q.c) w1 [.slice q.d q.n q.c])
  (hN: ∀a' (q:S3) (w1:World),C0 q w1->Sl 14 a' (A6 [3,4,5,6,7,8] l) df->N a' (w1.setCells g1 (5+4) [.slice q.d q.n q.c])):Rg N Q a w (Ja 1):=
 reg [] [3,4,5,6,7,8] [.val (.slice pd pn pc),.ex (S3) (fun q=>.slice q.d q.n q.c) C0,.sto] hs (Zc e1 Zz) (aI l0.run (aI k1 (fun(q:S3) (w1:World) (hc0:C0 q w1)=>(aI (s2 q w1 hc0) (fun a'=>hN a' q w1 hc0))))) Zk
theorem Ci0{ic:Nat}{id:Option Addr}(hs:Sl 14 a l df)(e1:Lk l 1 (pT g1))(l0:Lp 23 (pF g1 10) (.slice id n ic) w)(k1:Ca 90 #[.slice id n ic] w fun e w'=> ∃q:S3,e=.returned (.slice q.d q.n q.c)/\C0 q w')(s2: ∀(q:S3) (w1:World),C0 q w1->So 23 g1 10 (.slice q.d q.n q.c) w1 [.slice q.d q.n q.c])
  (hN: ∀a' (q:S3) (w1:World),C0 q w1->Sl 14 a' (A6 [9,10,11,12] l) df->N a' (w1.setCells g1 10 [.slice q.d q.n q.c])):Rg N Q a w (Ja 2):=
 reg [] [9,10,11,12] [.val (.slice id n ic),.ex (S3) (fun q=>.slice q.d q.n q.c) C0,.sto] hs (Zc e1 Zz) (aI l0.run (aI k1 (fun(q:S3) (w1:World) (hc0:C0 q w1)=>(aI (s2 q w1 hc0) (fun a'=>hN a' q w1 hc0))))) Zk
theorem Ci1{g2:Nat}(hs:Sl 14 a l df)(e1:Lk l 1 (pT g1))(e2:Lk l 2 (pT g2))(l0:Lp 53 (pT g1) (.agg (d.cs m)) w)(s1:So 53 g2 0 (.agg (d.cs m)) w (d.cs m).toList)
  (hN: ∀a',Sl 14 a' (A6 [13] l) df->N a' (w.setCells g2 0 (d.cs m).toList)):Rg N Q a w (Ja 3):=
 reg [] [13] [.val (.agg (d.cs m)),.sto] hs (Zc e1<|Zc e2 Zz) (aI l0.run (aI s1 hN)) Zk
noncomputable def R7 (n:Nat):Code:=((Tryz.f90.body.bind (D4 n)).getD .skip)
noncomputable def Ci2:Code:=(.seq (R7 3) (.seq (.cond (.tmp 9) .skip (.exit 0)) (.seq (.block 1 (.seq (R7 4) (R7 5))) (R7 6))))
noncomputable def Tu:Code:=(.seq (R7 0) (.seq (R7 1) (.seq (.seq (R7 2) (.block 0 (.loop Ci2))) (.seq (R7 7) .ret))))
theorem Af4:Tryz.f90.body=some Tu:=by kernel_rfl
theorem Ci3(hs:Sl 19 a l df)
  (hN: ∀a',Sl 19 a' ((2,.slice none 0 0)::A6 [2] l) df->N a' w):Rg N Q a w (R7 0):=
 Zg [2] hs hN
theorem Ci4(hs:Sl 19 a l df)
  (hN: ∀a',Sl 19 a' ((3,.slice none 0 0)::A6 [3] l) df->N a' w):Rg N Q a w (R7 1):=
 Zg [3] hs hN
theorem Ci5(hs:Sl 19 a l df)(e0:Lk l 0 (.slice sd sn sc))
  (hN: ∀a',Sl 19 a' ((6,.slice sd sn sc)::(7,ii (sn:Int))::(8,ii 0)::A6 [6,7,8] l) df->N a' w):Rg N Q a w (R7 2):=
 reg [6,7,8] [6,7,8] [] hs (Zc e0 Zz) hN Zk
theorem At5{b9:Bool}(hs:Sl 19 a l df)(e8:Lk l 8 (ii (i:Int)))(e7:Lk l 7 (ii (sn:Int)))(h0:decide ((i:Int)<(sn:Int))=b9)
  (hN: ∀a',Sl 19 a' ((9,.bool b9)::A6 [9] l) df->N a' w):Rg N Q a w (R7 3):=
 reg [9] [9] [.bit b9] hs (Zc e8<|Zc e7 Zz) (aI h0 hN) Zk
theorem Ci6{g10 o10:Nat}(hs:Sl 19 a l df)(e6:Lk l 6 (.slice sd sn sc))(e8:Lk l 8 (ii (i:Int)))(i0:Ix 23 (.slice sd sn sc) (ii (i:Int)) (pF g10 o10))(l1:Lp 53 (pF g10 o10) (.agg (d.cs m)) w)(s2:So 53 w.heap.size 0 (.agg (d.cs m)) (w.alloc (.cells zA 53)) (d.cs m).toList)
  (hN: ∀a',Sl 19 a' ((5,pT w.heap.size)::A6 [5,10,11] l) df->N a' ((w.alloc (.cells zA 53)).setCells w.heap.size 0 (d.cs m).toList)):Rg N Q a w (R7 4):=
 reg [5] [5,10,11] [.val (pF g10 o10),.val (.agg (d.cs m)),.raw,.sto] hs (Zc e6<|Zc e8 Zz) (aI (i0 w) (aI l1.run (aI s2 hN))) Zk
theorem Ci7{C0:World->Dm->World->Prop}{C1:World->S3->World->Prop}(hs:Sl 19 a l df)(e3:Lk l 3 (.slice od on oc))(e5:Lk l 5 (pT g5))(l0:Lp 53 (pT g5) (.agg (d.cs m)) w)(k1:Ca 68 #[.agg (d.cs m)] w fun e w'=> ∃q:Dm,e=.returned (.agg (d.cs q))/\C0 w q w')(k2: ∀(q:Dm) (w1:World),C0 w q w1->∀ty,∃v w',(Builtin.append_ #[23,23] ty #[.slice od on oc,.slice (some ⟨w1.heap.size,0,none⟩) 1 1]).run Tryz.prog (w1.alloc (.cells (d.cs q) 53))=.ok v.v w'/\C1 (w1.alloc (.cells (d.cs q) 53)) v w')
  (hN: ∀a' (q:Dm) (w1:World) (x16:S3) (w2:World),C0 w q w1->C1 (w1.alloc (.cells (d.cs q) 53)) x16 w2->Sl 19 a' ((3,.slice x16.d x16.n x16.c)::A6 [3,12,13,14,15,16] l) df->N a' w2):Rg N Q a w (R7 5):=
 reg [3] [3,12,13,14,15,16] [.val (.agg (d.cs m)),.exw (Dm) (fun q=>.agg (d.cs q)) C0,.raw,.apxw S3 S3.v C1] hs (Zc e3<|Zc e5 Zz) (aI l0.run (aI k1 (fun(q:Dm) (w1:World) (hc0:C0 w q w1)=>(aI (k2 q w1 hc0) (fun(x16:S3) (w2:World) (hc1:C1 (w1.alloc (.cells (d.cs q) 53)) x16 w2)a'=>hN a' q w1 x16 w2 hc0 hc1))))) Zk
theorem Ci8(hs:Sl 19 a l df)(e8:Lk l 8 (ii (i:Int)))(h0: -9223372036854775808<=(i:Int)+1/\(i:Int)+1<=9223372036854775807)
  (hN: ∀a',Sl 19 a' ((8,ii ((i:Int)+1))::A6 [8,17] l) df->N a' w):Rg N Q a w (R7 6):=
 reg [8] [8,17] [.ari] hs (Zc e8 Zz) (aI h0 hN) Zk
theorem Ci9(hs:Sl 19 a l df)(e3:Lk l 3 (.slice od on oc))
  (hN: ∀a',Sl 19 a' ((2,.slice od on oc)::A6 [2,18] l) df->N a' w):Rg N Q a w (R7 7):=
 reg [2] [2,18] [] hs (Zc e3 Zz) hN Zk
noncomputable def Fp (n:Nat):Code:=((Tryz.f38.body.bind (D4 n)).getD .skip)
noncomputable def Es4:Code:=(.seq (Fp 2) (.seq (.cond (.tmp 10) .skip (.exit 0)) (.seq (.block 1 (.seq (Fp 3) (.seq (.seq (Fp 4) (.cond (.tmp 16) (Fp 5) .skip)) (Fp 6)))) (Fp 7))))
noncomputable def At6:Code:=(.seq (Fp 0) (.seq (.seq (Fp 1) (.block 0 (.loop Es4))) (.seq (Fp 8) .ret)))
theorem Bi0:Tryz.f38.body=some At6:=by kernel_rfl
theorem Dv6(hs:Sl 29 a l df)
  (hN: ∀a',Sl 29 a' ((4,.slice none 0 0)::A6 [4] l) df->N a' w):Rg N Q a w (Fp 0):=
 Zg [4] hs hN
theorem Dv7(hs:Sl 29 a l df)(e1:Lk l 1 (.slice sd sn sc))
  (hN: ∀a',Sl 29 a' ((7,.slice sd sn sc)::(8,ii (sn:Int))::(9,ii 0)::A6 [7,8,9] l) df->N a' w):Rg N Q a w (Fp 1):=
 reg [7,8,9] [7,8,9] [] hs (Zc e1 Zz) hN Zk
theorem Cj0(hs:Sl 29 a l df)(e9:Lk l 9 (ii (i:Int)))(e8:Lk l 8 (ii (sn:Int)))(h0:decide ((i:Int)<(sn:Int))=b10)
  (hN: ∀a',Sl 29 a' ((10,.bool b10)::A6 [10] l) df->N a' w):Rg N Q a w (Fp 2):=
 reg [10] [10] [.bit b10] hs (Zc e9<|Zc e8 Zz) (aI h0 hN) Zk
theorem Dv8{g11 o11:Nat}(hs:Sl 29 a l df)(e7:Lk l 7 (.slice sd sn sc))(e9:Lk l 9 (ii (i:Int)))(i0:Ix 23 (.slice sd sn sc) (ii (i:Int)) (pF g11 o11))(l1:Lp 53 (pF g11 o11) (.agg (d.cs m)) w)(s2:So 53 w.heap.size 0 (.agg (d.cs m)) (w.alloc (.cells zA 53)) (d.cs m).toList)
  (hN: ∀a',Sl 29 a' ((6,pT w.heap.size)::A6 [6,11,12] l) df->N a' ((w.alloc (.cells zA 53)).setCells w.heap.size 0 (d.cs m).toList)):Rg N Q a w (Fp 3):=
 reg [6] [6,11,12] [.val (pF g11 o11),.val (.agg (d.cs m)),.raw,.sto] hs (Zc e7<|Zc e9 Zz) (aI (i0 w) (aI l1.run (aI s2 hN))) Zk
theorem Cj1{b16:Bool}(hs:Sl 29 a l df)(e6:Lk l 6 (pT g6))(l0:Lp 3 (pF g6 (5+0)) (ii o) w)(h1:decide (o≠0)=b16)
  (hN: ∀a',Sl 29 a' ((16,.bool b16)::A6 [13,14,15,16] l) df->N a' w):Rg N Q a w (Fp 4):=
 reg [16] [13,14,15,16] [.val (ii o),.bit b16] hs (Zc e6 Zz) (aI l0.run (aI h1 hN)) Zk
theorem Dv9{C0:World->S3->World->Prop}(hs:Sl 29 a l df)(e0:Lk l 0 (.slice od on oc))(e6:Lk l 6 (pT g6))(l0:Lp 3 (pF g6 (5+0)) (ii o) w)(k1: ∀ty,∃v w',(Builtin.append_ #[24,24] ty #[.slice od on oc,.slice (some ⟨w.heap.size,0,none⟩) 1 1]).run Tryz.prog (w.alloc (.cells #[ii o] 3))=.ok v.v w'/\C0 (w.alloc (.cells #[ii o] 3)) v w')
  (hN: ∀a' (x22:S3) (w1:World),C0 (w.alloc (.cells #[ii o] 3)) x22 w1->Sl 29 a' ((0,.slice x22.d x22.n x22.c)::A6 (0::List.range' 17 6) l) df->N a' w1):Rg N Q a w (Fp 5):=
 reg [0] (0::List.range' 17 6) [.val (ii o),.raw,.apxw S3 S3.v C0] hs (Zc e0<|Zc e6 Zz) (aI l0.run (aI k1 (fun(x22:S3) (w1:World) (hc0:C0 (w.alloc (.cells #[ii o] 3)) x22 w1)a'=>hN a' x22 w1 hc0))) Zk
theorem Dw0{kd:Option Addr}{kn kc:Nat}(hs:Sl 29 a l df)(e0:Lk l 0 (.slice od on oc))(e6:Lk l 6 (pT g6))(l0:Lp 23 (pF g6 10) (.slice kd kn kc) w)(k1:Ca 38 #[.slice od on oc,.slice kd kn kc] w fun e w'=> ∃q:S3,e=.returned (.slice q.d q.n q.c)/\C0 q w')
  (hN: ∀a' (q:S3) (w1:World),C0 q w1->Sl 29 a' ((0,.slice q.d q.n q.c)::A6 [0,23,24,25,26] l) df->N a' w1):Rg N Q a w (Fp 6):=
 reg [0] [0,23,24,25,26] [.val (.slice kd kn kc),.ex (S3) (fun q=>.slice q.d q.n q.c) C0] hs (Zc e0<|Zc e6 Zz) (aI l0.run (aI k1 (fun(q:S3) (w1:World) (hc0:C0 q w1)a'=>hN a' q w1 hc0))) Zk
theorem Dw1(hs:Sl 29 a l df)(e9:Lk l 9 (ii (i:Int)))(h0: -9223372036854775808<=(i:Int)+1/\(i:Int)+1<=9223372036854775807)
  (hN: ∀a',Sl 29 a' ((9,ii ((i:Int)+1))::A6 [9,27] l) df->N a' w):Rg N Q a w (Fp 7):=
 reg [9] [9,27] [.ari] hs (Zc e9 Zz) (aI h0 hN) Zk
theorem Dw2(hs:Sl 29 a l df)(e0:Lk l 0 (.slice od on oc))
  (hN: ∀a',Sl 29 a' ((4,.slice od on oc)::A6 [4,28] l) df->N a' w):Rg N Q a w (Fp 8):=
 reg [4] [4,28] [] hs (Zc e0 Zz) hN Zk
variable {a:Act} {w:World} {df:List Deferred} {N:Act->World->Prop} {Q:Exit->Act->World->Prop} {l:List (Nat×Value)}
variable {C0:World->Prop} {ac an bm g1 g3 g4 g5 g6 gd gh i kc kn od pc pn:Nat} {ad kd p pd:Option Addr} {b b12 b4:Bool} {cp fr k n3 o:Int} {d x:Dt} {m mx:Dm} {ty:ByteArray} {v v20:Value}
noncomputable def Jb (n:Nat):Code:=((Tryz.f74.body.bind (D4 n)).getD .skip)
noncomputable def Es5:Code:=(.seq (Jb 3) (.seq (.cond (.tmp 10) .skip (.exit 0)) (.seq (.block 1 (.seq (Jb 4) (Jb 5))) (Jb 6))))
noncomputable def At7:Code:=(.seq (Jb 0) (.seq (Jb 1) (.seq (.seq (Jb 2) (.block 0 (.loop Es5))) (.seq (Jb 7) .ret))))
theorem Bi1:Tryz.f74.body=some At7:=by kernel_rfl
theorem Dw3(hs:Sl 19 a l df)(e0:Lk l 0 (.agg (d.cs m)))
  (hN: ∀a',Sl 19 a' ((1,pT w.heap.size)::(2,ii 0)::A6 [1,2] l) df->N a' (w.alloc (.cells (d.cs m) 53))):Rg N Q a w (Jb 0):=
 reg [1,2] [1,2] [.raw] hs (Zc e0 Zz) hN Zk
theorem Dw4(hs:Sl 19 a l df)
  (hN: ∀a',Sl 19 a' ((3,ii 1)::A6 [3] l) df->N a' w):Rg N Q a w (Jb 1):=
 Zg [3] hs hN
theorem Dw5(hs:Sl 19 a l df)(e1:Lk l 1 (pT g1))(l0:Lp 23 (pF g1 10) (.slice kd kn kc) w)
  (hN: ∀a',Sl 19 a' ((7,.slice kd kn kc)::(8,ii (kn:Int))::(9,ii 0)::A6 [6,7,8,9] l) df->N a' w):Rg N Q a w (Jb 2):=
 reg [7,8,9] [6,7,8,9] [.val (.slice kd kn kc)] hs (Zc e1 Zz) (aI l0.run hN) Zk
theorem Cj2{b10:Bool}(hs:Sl 19 a l df)(e9:Lk l 9 (ii (i:Int)))(e8:Lk l 8 (ii (kn:Int)))(h0:decide ((i:Int)<(kn:Int))=b10)
  (hN: ∀a',Sl 19 a' ((10,.bool b10)::A6 [10] l) df->N a' w):Rg N Q a w (Jb 3):=
 reg [10] [10] [.bit b10] hs (Zc e9<|Zc e8 Zz) (aI h0 hN) Zk
theorem Dw6{g11 o11:Nat}(hs:Sl 19 a l df)(e7:Lk l 7 (.slice kd kn kc))(e9:Lk l 9 (ii (i:Int)))(i0:Ix 23 (.slice kd kn kc) (ii (i:Int)) (pF g11 o11))(l1:Lp 53 (pF g11 o11) (.agg (x.cs mx)) w)(s2:So 53 w.heap.size 0 (.agg (x.cs mx)) (w.alloc (.cells zA 53)) (x.cs mx).toList)
  (hN: ∀a',Sl 19 a' ((5,pT w.heap.size)::A6 [5,11,12] l) df->N a' ((w.alloc (.cells zA 53)).setCells w.heap.size 0 (x.cs mx).toList)):Rg N Q a w (Jb 4):=
 reg [5] [5,11,12] [.val (pF g11 o11),.val (.agg (x.cs mx)),.raw,.sto] hs (Zc e7<|Zc e9 Zz) (aI (i0 w) (aI l1.run (aI s2 hN))) Zk
theorem Dw7{n15:Int}(hs:Sl 19 a l df)(e3:Lk l 3 (ii n3))(e5:Lk l 5 (pT g5))(l0:Lp 53 (pT g5) (.agg (x.cs mx)) w)(k1:Cl 74 #[.agg (x.cs mx)] w (ii n15) C0)(h2: -9223372036854775808<=n3+n15/\n3+n15<=9223372036854775807)
  (hN: ∀a' (w1:World),C0 w1->Sl 19 a' ((3,ii (n3+n15))::A6 [3,13,14,15,16] l) df->N a' w1):Rg N Q a w (Jb 5):=
 reg [3] [3,13,14,15,16] [.val (.agg (x.cs mx)),.ret (ii n15) C0,.ari] hs (Zc e3<|Zc e5 Zz) (aI l0.run (aI k1 (fun(w1:World) (hc0:C0 w1)=>(aI h2 (fun a'=>hN a' w1 hc0))))) Zk
theorem Dw8(hs:Sl 19 a l df)(e9:Lk l 9 (ii (i:Int)))(h0: -9223372036854775808<=(i:Int)+1/\(i:Int)+1<=9223372036854775807)
  (hN: ∀a',Sl 19 a' ((9,ii ((i:Int)+1))::A6 [9,17] l) df->N a' w):Rg N Q a w (Jb 6):=
 reg [9] [9,17] [.ari] hs (Zc e9 Zz) (aI h0 hN) Zk
theorem Dw9(hs:Sl 19 a l df)(e3:Lk l 3 (ii n3))
  (hN: ∀a',Sl 19 a' ((2,ii n3)::A6 [2,18] l) df->N a' w):Rg N Q a w (Jb 7):=
 reg [2] [2,18] [] hs (Zc e3 Zz) hN Zk
noncomputable def Jc (n:Nat):Code:=((Tryz.f101.body.bind (D4 n)).getD .skip)
noncomputable def Es6:Code:=(.seq (Jc 2) (.seq (.cond (.tmp 12) .skip (.exit 0)) (.seq (.block 1 (.seq (Jc 3) (.seq (.seq (Jc 4) (.cond (.tmp 36) (.seq (Jc 5) .ret) .skip)) (Jc 6)))) (Jc 7))))
noncomputable def At8:Code:=(.seq (Jc 0) (.seq (.seq (Jc 1) (.block 0 (.loop Es6))) (.seq (.seq (Jc 8) (.cond (.tmp 49) (.seq (Jc 9) .ret) .skip)) (.seq (Jc 10) .ret))))
theorem Bi2:Tryz.f101.body=some At8:=by kernel_rfl
theorem Dx0(hs:Sl 51 a l df)
  (hN: ∀a',Sl 51 a' ((6,.pointer none)::A6 [6] l) df->N a' w):Rg N Q a w (Jc 0):=
 Zg [6] hs hN
theorem Dx1(hs:Sl 51 a l df)(e1:Lk l 1 (.slice pd pn pc))
  (hN: ∀a',Sl 51 a' ((9,.slice pd pn pc)::(10,ii (pn:Int))::(11,ii 0)::A6 [9,10,11] l) df->N a' w):Rg N Q a w (Jc 1):=
 reg [9,10,11] [9,10,11] [] hs (Zc e1 Zz) hN Zk
theorem Dx2(hs:Sl 51 a l df)(e11:Lk l 11 (ii (i:Int)))(e10:Lk l 10 (ii (pn:Int)))(h0:decide ((i:Int)<(pn:Int))=b12)
  (hN: ∀a',Sl 51 a' ((12,.bool b12)::A6 [12] l) df->N a' w):Rg N Q a w (Jc 2):=
 reg [12] [12] [.bit b12] hs (Zc e11<|Zc e10 Zz) (aI h0 hN) Zk
theorem Cj3{nm:ByteArray}{b49:Bool}(hs:Sl 51 a l df)(e0:Lk l 0 (pF gd od))(e2:Lk l 2 (.string nm))(l0:Lp 9 (pF gd (od+1)) (.string ty) w)(h1:decide (ty≠nm)=b49)
  (hN: ∀a',Sl 51 a' ((49,.bool b49)::A6 [44,45,46,47,48,49] l) df->N a' w):Rg N Q a w (Jc 8):=
 reg [49] [44,45,46,47,48,49] [.val (.string ty),.bit b49] hs (Zc e0<|Zc e2 Zz) (aI l0.run (aI h1 hN)) Zk
theorem Dx3(hs:Sl 51 a l df)
  (hN: ∀a',Sl 51 a' ((6,.pointer none)::A6 [6] l) df->N a' w):Rg N Q a w (Jc 9):=
 Zg [6] hs hN
theorem Cj4(hs:Sl 51 a l df)(e0:Lk l 0 (pF gd od))
  (hN: ∀a',Sl 51 a' ((6,pF gd od)::A6 [6,50] l) df->N a' w):Rg N Q a w (Jc 10):=
 reg [6] [6,50] [] hs (Zc e0 Zz) hN Zk
noncomputable def R3 (n:Nat):Code:=((Tryz.f93.body.bind (D4 n)).getD .skip)
noncomputable def At9:Code:=(.seq (R3 0) (.seq (.seq (R3 1) (.cond (.tmp 12) (.seq (R3 2) .ret) .skip)) (.seq (.seq (R3 3) (.block 0 (.seq (R3 4) (.cond (.tmp 22) (.seq (R3 5) (.seq (R3 6) .ret)) (.seq (R3 7) (.cond (.tmp 40) (.seq (R3 8) (.seq (R3 9) .ret)) (.seq (R3 10) (.cond (.tmp 61) (.seq (R3 11) (.seq (R3 12) .ret)) (.seq (R3 13) (.cond (.tmp 67) (.seq (R3 14) (.seq (R3 15) .ret)) .skip)))))))))) (.seq (R3 16) .ret))))
theorem Bi3:Tryz.f93.body=some At9:=by kernel_rfl
theorem Dx4(hs:Sl 72 a l df)(e1:Lk l 1 (.agg (d.cs m)))
  (hN: ∀a',Sl 72 a' ((3,pT w.heap.size)::(4,.bool false)::A6 [3,4] l) df->N a' (w.alloc (.cells (d.cs m) 53))):Rg N Q a w (R3 0):=
 reg [3,4] [3,4] [.raw] hs (Zc e1 Zz) hN Zk
theorem Cj5(hs:Sl 72 a l df)(e3:Lk l 3 (pT g3))(l0:Lp 3 (pF g3 (5+0)) (ii o) w)(h1:decide (o=0)=b12)
  (hN: ∀a',Sl 72 a' ((12,.bool b12)::A6 [9,10,11,12] l) df->N a' w):Rg N Q a w (R3 1):=
 reg [12] [9,10,11,12] [.val (ii o),.bit b12] hs (Zc e3 Zz) (aI l0.run (aI h1 hN)) Zk
theorem Dx5(hs:Sl 72 a l df)
  (hN: ∀a',Sl 72 a' ((4,.bool true)::A6 [4] l) df->N a' w):Rg N Q a w (R3 2):=
 Zg [4] hs hN
theorem Dx6(hs:Sl 72 a l df)(e0:Lk l 0 (pT gh))(e3:Lk l 3 (pT g3))(l0:Lp 79 (pT gh) (.map (some bm)) w)(l1:Lp 3 (pF g3 (5+0)) (ii o) w)(l2:Lkp Tryz.prog 79 (.map (some bm)) (ii o) false (v) w)
  (hN: ∀a' mm,Sl 72 a' ((20,v)::A6 (List.range' 13 8) l) df->N a' (w.drewN mm)):Rg N Q a w (R3 3):=
 Ao [20] (List.range' 13 8) [.val (.map (some bm)),.val (ii o),.val (v)] hs (Zc e0<|Zc e3 Zz) (aI l0 (aI l1 (aI l2 hN))) Zk
theorem Dx7(hs:Sl 72 a l df)(e20:Lk l 20 (v20))(i0: ∀w,(Instr.typeAssert (v20) 81 126 true).run Tryz.prog w=.ok (.tuple #[.pointer p,.bool b]) w)
  (hN: ∀a',Sl 72 a' ((22,.bool b)::(23,.pointer p)::A6 [21,22,23] l) df->N a' w):Rg N Q a w (R3 4):=
 reg [22,23] [21,22,23] [.val (.tuple #[.pointer p,.bool b])] hs (Zc e20 Zz) (aI (i0 w) hN) Zk
theorem Dx8{p23:Option Addr}(hs:Sl 72 a l df)(e23:Lk l 23 (.pointer p23))
  (hN: ∀a',Sl 72 a' ((5,.pointer p23)::A6 [5] l) df->N a' w):Rg N Q a w (R3 5):=
 reg [5] [5] [] hs (Zc e23 Zz) hN Zk
theorem Tx(hs:Sl 72 a l df)(e20:Lk l 20 (v20))(i0: ∀w,(Instr.typeAssert (v20) 81 146 true).run Tryz.prog w=.ok (.tuple #[.pointer p,.bool b]) w)
  (hN: ∀a',Sl 72 a' ((40,.bool b)::(41,.pointer p)::A6 [39,40,41] l) df->N a' w):Rg N Q a w (R3 7):=
 reg [40,41] [39,40,41] [.val (.tuple #[.pointer p,.bool b])] hs (Zc e20 Zz) (aI (i0 w) hN) Zk
theorem Dx9{p41:Option Addr}(hs:Sl 72 a l df)(e41:Lk l 41 (.pointer p41))
  (hN: ∀a',Sl 72 a' ((6,.pointer p41)::A6 [6] l) df->N a' w):Rg N Q a w (R3 8):=
 reg [6] [6] [] hs (Zc e41 Zz) hN Zk
theorem Nn(hs:Sl 72 a l df)(e20:Lk l 20 (v20))(i0: ∀w,(Instr.typeAssert (v20) 81 115 true).run Tryz.prog w=.ok (.tuple #[.pointer p,.bool b]) w)
  (hN: ∀a',Sl 72 a' ((61,.bool b)::(62,.pointer p)::A6 [60,61,62] l) df->N a' w):Rg N Q a w (R3 10):=
 reg [61,62] [60,61,62] [.val (.tuple #[.pointer p,.bool b])] hs (Zc e20 Zz) (aI (i0 w) hN) Zk
theorem Cj6{p62:Option Addr}(hs:Sl 72 a l df)(e62:Lk l 62 (.pointer p62))
  (hN: ∀a',Sl 72 a' (A6 [7] l) df->N a' w):Rg N Q a w (R3 11):=
 reg [] [7] [] hs (Zc e62 Zz) hN Zk
theorem Cj7{b65:Bool}(hs:Sl 72 a l df)(e3:Lk l 3 (pT g3))(l0:Lp 3 (pT g3) (ii k) w)(h1:decide (k=6)=b65)
  (hN: ∀a',Sl 72 a' ((4,.bool b65)::A6 [4,63,64,65] l) df->N a' w):Rg N Q a w (R3 12):=
 reg [4] [4,63,64,65] [.val (ii k),.bit b65] hs (Zc e3 Zz) (aI l0.run (aI h1 hN)) Zk
theorem Ty(hs:Sl 72 a l df)(e20:Lk l 20 (v20))(i0: ∀w,(Instr.typeAssert (v20) 81 151 true).run Tryz.prog w=.ok (.tuple #[.pointer p,.bool b]) w)
  (hN: ∀a',Sl 72 a' ((67,.bool b)::(68,.pointer p)::A6 [66,67,68] l) df->N a' w):Rg N Q a w (R3 13):=
 reg [67,68] [66,67,68] [.val (.tuple #[.pointer p,.bool b])] hs (Zc e20 Zz) (aI (i0 w) hN) Zk
theorem Cj8{p68:Option Addr}(hs:Sl 72 a l df)(e68:Lk l 68 (.pointer p68))
  (hN: ∀a',Sl 72 a' (A6 [8] l) df->N a' w):Rg N Q a w (R3 14):=
 reg [] [8] [] hs (Zc e68 Zz) hN Zk
theorem Cj9{b71:Bool}(hs:Sl 72 a l df)(e3:Lk l 3 (pT g3))(l0:Lp 3 (pT g3) (ii k) w)(h1:decide (k=7)=b71)
  (hN: ∀a',Sl 72 a' ((4,.bool b71)::A6 [4,69,70,71] l) df->N a' w):Rg N Q a w (R3 15):=
 reg [4] [4,69,70,71] [.val (ii k),.bit b71] hs (Zc e3 Zz) (aI l0.run (aI h1 hN)) Zk
theorem Au0(hs:Sl 72 a l df)
  (hN: ∀a',Sl 72 a' ((4,.bool false)::A6 [4] l) df->N a' w):Rg N Q a w (R3 16):=
 Zg [4] hs hN
theorem Bi4{p36:Option Addr}{b37:Bool}(hs:Sl 72 a l df)(e3:Lk l 3 (pT g3))(e5:Lk l 5 (pT g5))(l0:Lp 3 (pT g3) (ii k) w)(h1:decide (k=9)=true)(l2:Lp 24 (pF g3 (5+4)) (.slice pd pn pc) w)(l3:Lp 9 (pF g3 1) (.string ty) w)(k4: ∀mm,Ca 101 #[pT g5,.slice pd pn pc,.string ty] (w.drewN mm) fun e w'=>e=.returned (.pointer p36)/\∃m',w'=w.drewN m')(h5: ∀w,(binOp .neq 125 (.pointer p36) (.pointer none)).run Tryz.prog w=.ok (.bool b37) w)
  (hN: ∀a' mm,Sl 72 a' ((4,.bool b37)::A6 (4::List.range' 24 15) l) df->N a' (w.drewN mm)):Rg N Q a w (R3 6):=
 Ao [4] (4::List.range' 24 15) [.val (ii k),.bit true,.val (.slice pd pn pc),.val (.string ty),.val (.pointer p36),.bin (.bool b37)] hs (Zc e3<|Zc e5 Zz) (aI l0 (aI h1 (aI l2 (aI l3 (aI k4 (aI (fun w'=>G4 (x:=.tmp 36) (y:=.const (.pointer none)) Zk (h5 w')) hN)))))) Zk
theorem Bi5(hs:Sl 72 a l df)(e3:Lk l 3 (pT g3))(l0:Lp 3 (pT g3) (ii k) w)(h1:decide (k=9)=false)
  (hN: ∀a' mm,Sl 72 a' ((4,.bool false)::A6 (4::List.range' 24 15) l) df->N a' (w.drewN mm)):Rg N Q a w (R3 6):=
 Ao [4] (4::List.range' 24 15) [.val (ii k),.bit false] hs (Zc e3 Zz) (aI l0 (aI h1 hN)) Zk
theorem Bi6{b58:Bool}(hs:Sl 72 a l df)(e3:Lk l 3 (pT g3))(e6:Lk l 6 (pT g6))(l0:Lp 3 (pT g3) (ii k) w)(h1:decide (k=5)=true)(l2:Lp 3 (pF g3 (5+1)) (ii fr) w)(l3:Lp 3 (pF g3 (5+3)) (ii cp) w)(h4: -9223372036854775808<=fr+cp/\fr+cp<=9223372036854775807)(l5:Lp 23 (pT g6) (.slice ad an ac) w)(h6:decide ((fr+cp)<=(an:Int))=b58)
  (hN: ∀a' mm,Sl 72 a' ((4,.bool b58)::A6 (4::List.range' 42 18) l) df->N a' (w.drewN mm)):Rg N Q a w (R3 9):=
 Ao [4] (4::List.range' 42 18) [.val (ii k),.bit true,.val (ii fr),.val (ii cp),.ari,.val (.slice ad an ac),.bit b58] hs (Zc e3<|Zc e6 Zz) (aI l0 (aI h1 (aI l2 (aI l3 (aI h4 (aI l5 (aI h6 hN))))))) Zk
theorem Bi7(hs:Sl 72 a l df)(e3:Lk l 3 (pT g3))(l0:Lp 3 (pT g3) (ii k) w)(h1:decide (k=5)=false)
  (hN: ∀a' mm,Sl 72 a' ((4,.bool false)::A6 (4::List.range' 42 18) l) df->N a' (w.drewN mm)):Rg N Q a w (R3 9):=
 Ao [4] (4::List.range' 42 18) [.val (ii k),.bit false] hs (Zc e3 Zz) (aI l0 (aI h1 hN)) Zk
noncomputable def Ck0 (n:Nat):Code:=((Tryz.f64.body.bind (D4 n)).getD .skip)
noncomputable def Au1:Code:=(.seq (Ck0 0) (.seq (Ck0 1) .ret))
theorem Bi8:Tryz.f64.body=some Au1:=by kernel_rfl
theorem Dy0(hs:Sl 20 a l df)(e1:Lk l 1 (.agg (d.cs m)))
  (hN: ∀a',Sl 20 a' ((4,pT w.heap.size)::(6,.bool false)::A6 [4,6] l) df->N a' (w.alloc (.cells (d.cs m) 53))):Rg N Q a w (Ck0 0):=
 reg [4,6] [4,6] [.raw] hs (Zc e1 Zz) hN Zk
theorem Bi9{C1:World->Prop}{kd:Int}{b18:Bool}(hs:Sl 20 a l df)(e4:Lk l 4 (pT g4))(e2:Lk l 2 (ii kd))(e0:Lk l 0 (pT gh))(l0:Lp 53 (pT g4) (.agg (d.cs m)) w)(k1:Cl 65 #[.agg (d.cs m)] w (.bool true) C0)(l2: ∀(w1:World),C0 w1->Lp 3 (pT g4) (ii k) w1)(h3:decide (k=kd)=true)(l4: ∀(w1:World),C0 w1->Lp 53 (pT g4) (.agg (d.cs m)) w1)(k5: ∀(w1:World),C0 w1->Cl 93 #[pT gh,.agg (d.cs m)] w1 (.bool b18) C1)
  (hN: ∀a' (w1:World) (w2:World),C0 w1->C1 w2->Sl 20 a' ((6,.bool b18)::A6 (List.range' 6 14) l) df->N a' w2):Rg N Q a w (Ck0 1):=
 reg [6] (List.range' 6 14) [.val (.agg (d.cs m)),.ret (.bool true) C0,.val (ii k),.bit true,.val (.agg (d.cs m)),.ret (.bool b18) C1] hs (Zc e4<|Zc e2<|Zc e0 Zz) (aI l0.run (aI k1 (fun(w1:World) (hc0:C0 w1)=>(aI (l2 w1 hc0).run (aI h3 (aI (l4 w1 hc0).run (aI (k5 w1 hc0) (fun(w2:World) (hc1:C1 w2)a'=>hN a' w1 w2 hc0 hc1)))))))) Zk
theorem Bj0{kd:Int}(hs:Sl 20 a l df)(e4:Lk l 4 (pT g4))(e2:Lk l 2 (ii kd))(l0:Lp 53 (pT g4) (.agg (d.cs m)) w)(k1:Cl 65 #[.agg (d.cs m)] w (.bool true) C0)(l2: ∀(w1:World),C0 w1->Lp 3 (pT g4) (ii k) w1)(h3:decide (k=kd)=false)
  (hN: ∀a' (w1:World),C0 w1->Sl 20 a' ((6,.bool false)::A6 (List.range' 6 14) l) df->N a' w1):Rg N Q a w (Ck0 1):=
 reg [6] (List.range' 6 14) [.val (.agg (d.cs m)),.ret (.bool true) C0,.val (ii k),.bit false] hs (Zc e4<|Zc e2 Zz) (aI l0.run (aI k1 (fun(w1:World) (hc0:C0 w1)=>(aI (l2 w1 hc0).run (aI h3 (fun a'=>hN a' w1 hc0)))))) Zk
noncomputable def Af6 (n:Nat):Code:=((Tryz.f72.body.bind (D4 n)).getD .skip)
noncomputable def Au2:Code:=(.seq (Af6 0) (.seq (.seq (Af6 1) (.seq (Af6 2) (.cond (.tmp 20) (.seq (Af6 3) .ret) .skip))) (.seq (Af6 4) .ret)))
theorem Bj1:Tryz.f72.body=some Au2:=by kernel_rfl
theorem Dy1(hs:Sl 31 a l df)(e1:Lk l 1 (.agg (d.cs m)))
  (hN: ∀a',Sl 31 a' ((3,pT w.heap.size)::(4,.pointer none)::(5,.pointer none)::A6 [3,4,5] l) df->N a' (w.alloc (.cells (d.cs m) 53))):Rg N Q a w (Af6 0):=
 reg [3,4,5] [3,4,5] [.raw] hs (Zc e1 Zz) hN Zk
theorem Dy2{b7:Bool}(hs:Sl 31 a l df)(e7:Lk l 7 (.bool b7))
  (hN: ∀a',Sl 31 a' ((20,.bool b7)::A6 [20] l) df->N a' w):Rg N Q a w (Af6 2):=
 reg [20] [20] [] hs (Zc e7 Zz) hN Zk
theorem Dy3{p29:Option Addr}(hs:Sl 31 a l df)(e6:Lk l 6 (pT g6))(e3:Lk l 3 (pT g3))(l0:Lp 24 (pF g3 (5+4)) (.slice pd pn pc) w)(l1:Lp 9 (pF g3 1) (.string ty) w)(k2: ∀mm,Ca 101 #[pT g6,.slice pd pn pc,.string ty] (w.drewN mm) fun e w'=>e=.returned (.pointer p29)/\∃m',w'=w.drewN m')
  (hN: ∀a' mm,Sl 31 a' ((4,.pointer p29)::(5,pT g6)::A6 (4::5::List.range' 21 10) l) df->N a' (w.drewN mm)):Rg N Q a w (Af6 3):=
 Ao [4,5] (4::5::List.range' 21 10) [.val (.slice pd pn pc),.val (.string ty),.val (.pointer p29)] hs (Zc e6<|Zc e3 Zz) (aI l0 (aI l1 (aI k2 hN))) Zk
theorem Dy4(hs:Sl 31 a l df)(e0:Lk l 0 (pT gh))(e3:Lk l 3 (pT g3))(l0:Lp 79 (pT gh) (.map (some bm)) w)(l1:Lp 3 (pF g3 (5+0)) (ii o) w)(l2:Lkp Tryz.prog 79 (.map (some bm)) (ii o) false (v) w)(i3: ∀w,(Instr.typeAssert (v) 81 126 true).run Tryz.prog w=.ok (.tuple #[.pointer p,.bool b]) w)
  (hN: ∀a' mm,Sl 31 a' ((6,.pointer p)::(7,.bool b)::A6 (List.range' 6 14) l) df->N a' (w.drewN mm)):Rg N Q a w (Af6 1):=
 Ao [6,7] (List.range' 6 14) [.val (.map (some bm)),.val (ii o),.val (v),.val (.tuple #[.pointer p,.bool b])] hs (Zc e0<|Zc e3 Zz) (aI l0 (aI l1 (aI l2 (aI i3 hN)))) Zk
noncomputable def Tz (n:Nat):Code:=((Tryz.f69.body.bind (D4 n)).getD .skip)
noncomputable def Au3:Code:=(.seq (Tz 0) (.seq (Tz 1) (.seq (.seq (Tz 2) (.cond (.tmp 22) (.seq (Tz 3) .ret) .skip)) (.seq (Tz 4) (.seq (Tz 5) .ret)))))
theorem Bj2:Tryz.f69.body=some Au3:=by kernel_rfl
theorem Dy5(hs:Sl 41 a l df)(e1:Lk l 1 (.agg (d.cs m)))
  (hN: ∀a',Sl 41 a' ((3,pT w.heap.size)::(4,.slice none 0 0)::A6 [3,4] l) df->N a' (w.alloc (.cells (d.cs m) 53))):Rg N Q a w (Tz 0):=
 reg [3,4] [3,4] [.raw] hs (Zc e1 Zz) hN Zk
theorem Dy6(hs:Sl 41 a l df)(e0:Lk l 0 (pT gh))(e3:Lk l 3 (pT g3))(l0:Lp 79 (pT gh) (.map (some bm)) w)(l1:Lp 3 (pF g3 (5+0)) (ii o) w)(l2:Lkp Tryz.prog 79 (.map (some bm)) (ii o) false (v) w)(i3: ∀w,(Instr.typeAssert (v) 81 146 true).run Tryz.prog w=.ok (.tuple #[.pointer p,.bool b]) w)
  (hN: ∀a' mm,Sl 41 a' ((5,.pointer p)::(6,.bool b)::A6 (5::6::List.range' 9 12) l) df->N a' (w.drewN mm)):Rg N Q a w (Tz 1):=
 Ao [5,6] (5::6::List.range' 9 12) [.val (.map (some bm)),.val (ii o),.val (v),.val (.tuple #[.pointer p,.bool b])] hs (Zc e0<|Zc e3 Zz) (aI l0 (aI l1 (aI l2 (aI i3 hN)))) Zk
theorem Dy7{b6:Bool}(hs:Sl 41 a l df)(e6:Lk l 6 (.bool b6))
  (hN: ∀a',Sl 41 a' ((22,.bool (!b6))::A6 [21,22] l) df->N a' w):Rg N Q a w (Tz 2):=
 reg [22] [21,22] [] hs (Zc e6 Zz) hN Zk
theorem Dy8(hs:Sl 41 a l df)(e3:Lk l 3 (pT g3))(l0:Lp 3 (pF g3 (5+1)) (ii fr) w)(l1:Lp 3 (pF g3 (5+3)) (ii cp) w)(h2: -9223372036854775808<=fr+cp/\fr+cp<=9223372036854775807)
  (hN: ∀a' mm,Sl 41 a' ((7,ii fr)::(8,ii (fr+cp))::A6 (7::8::List.range' 23 10) l) df->N a' (w.drewN mm)):Rg N Q a w (Tz 4):=
 Ao [7,8] (7::8::List.range' 23 10) [.val (ii fr),.val (ii fr),.val (ii cp),.ari] hs (Zc e3 Zz) (aI l0 (aI l0 (aI l1 (aI h2 hN)))) Zk
theorem Dy9{xn xc:Nat}{xd:Option Addr}{f7 t8:Int}(hs:Sl 41 a l df)(e5:Lk l 5 (pT g5))(e7:Lk l 7 (ii f7))(e8:Lk l 8 (ii t8))(l0:Lp 23 (pT g5) (.slice ad an ac) w)(i1: ∀w,(Instr.sliceAt 23 (.slice ad an ac) (some (ii f7)) (some (ii t8)) (some (ii t8))).run Tryz.prog w=.ok (.slice xd xn xc) w)
  (hN: ∀a',Sl 41 a' ((4,.slice xd xn xc)::A6 (4::List.range' 33 8) l) df->N a' w):Rg N Q a w (Tz 5):=
 reg [4] (4::List.range' 33 8) [.val (.slice ad an ac),.val (.slice xd xn xc)] hs (Zc e5<|Zc e7<|Zc e8 Zz) (aI l0.run (aI (i1 w) hN)) Zk
noncomputable def Dm8 (n:Nat):Code:=((Tryz.f66.body.bind (D4 n)).getD .skip)
noncomputable def Au4:Code:=(.seq (Dm8 0) (.seq (Dm8 1) .ret))
theorem Bj3:Tryz.f66.body=some Au4:=by kernel_rfl
theorem Dz0(hs:Sl 7 a l df)
  (hN: ∀a',Sl 7 a' ((2,.nilIface)::A6 [2] l) df->N a' w):Rg N Q a w (Dm8 0):=
 Zg [2] hs hN
theorem Dz1{c:Int}(hs:Sl 7 a l df)(e0:Lk l 0 (ii c))
  (hN: ∀a',Sl 7 a' ((2,.iface 156 (pT w.heap.size))::A6 [2,3,4,5,6] l) df->N a' (w.alloc (.cells #[ii c,ii 0,.string (⟨#[]⟩)] 158))):Rg N Q a w (Dm8 1):=
 reg [2] [2,3,4,5,6] [.raw,.raw,.raw] hs (Zc e0 Zz) hN Zk
noncomputable def Dm9 (n:Nat):Code:=((Tryz.f89.body.bind (D4 n)).getD .skip)
noncomputable def Au5:Code:=(.seq (Dm9 0) (.seq (Dm9 1) .ret))
theorem Bj4:Tryz.f89.body=some Au5:=by kernel_rfl
theorem Dz2(hs:Sl 6 a l df)
  (hN: ∀a',Sl 6 a' ((2,.bool false)::A6 [2] l) df->N a' w):Rg N Q a w (Dm9 0):=
 Zg [2] hs hN
theorem Dz3{sd:Option Addr}{sn sc:Nat}(hs:Sl 6 a l df)(e0:Lk l 0 (.slice sd sn sc))(k0:Cl 109 #[.slice sd sn sc,.func (.func 110) #[] #[]] w (.bool b4) C0)
  (hN: ∀a' (w1:World),C0 w1->Sl 6 a' ((2,.bool (!b4))::A6 [2,3,4,5] l) df->N a' w1):Rg N Q a w (Dm9 1):=
 reg [2] [2,3,4,5] [.ret (.bool b4) C0] hs (Zc e0 Zz) (aI k0 (fun(w1:World) (hc0:C0 w1)a'=>hN a' w1 hc0)) Zk
noncomputable def Dn0 (n:Nat):Code:=((Tryz.f110.body.bind (D4 n)).getD .skip)
noncomputable def Au6:Code:=(.seq (Dn0 0) (.seq (Dn0 1) .ret))
theorem Bj5:Tryz.f110.body=some Au6:=by kernel_rfl
theorem Dz4(hs:Sl 6 a l df)(e0:Lk l 0 (.agg (d.cs m)))
  (hN: ∀a',Sl 6 a' ((1,pT w.heap.size)::(2,.bool false)::A6 [1,2] l) df->N a' (w.alloc (.cells (d.cs m) 53))):Rg N Q a w (Dn0 0):=
 reg [1,2] [1,2] [.raw] hs (Zc e0 Zz) hN Zk
theorem Dz5(hs:Sl 6 a l df)(e1:Lk l 1 (pT g1))(l0:Lp 53 (pT g1) (.agg (d.cs m)) w)(k1:Cl 65 #[.agg (d.cs m)] w (.bool b4) C0)
  (hN: ∀a' (w1:World),C0 w1->Sl 6 a' ((2,.bool (!b4))::A6 [2,3,4,5] l) df->N a' w1):Rg N Q a w (Dn0 1):=
 reg [2] [2,3,4,5] [.val (.agg (d.cs m)),.ret (.bool b4) C0] hs (Zc e1 Zz) (aI l0.run (aI k1 (fun(w1:World) (hc0:C0 w1)a'=>hN a' w1 hc0))) Zk
end Go.Proofs.YtbjegfpfmnleeaaGreatDoor
